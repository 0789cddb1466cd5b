/- Plain: Least says the least number of colours. -/
import Derived.Test.YtikppcfabnnhfaaDoorCNS6
namespace Go.Proofs.YtikppcfabnnhfaaDoor
open Go Go.Aw
set_option linter.unusedVariables false
/-- A graph as a world has it. -/
structure GrOk (g : List Int) : Prop where
  sym : ∀ a b, selN a → selN b → confG g a b → confG g b a
  irr : ∀ a, selN a → ¬ confG g a a
/-! What the classes say. -/
theorem gr_ok {w : Wd} (h : clsok w.classes) : GrOk (graphW w) where
  sym a b ha hb hab := by
    obtain ⟨h1, c, hc, h2, h3⟩ := (nearW ha hb h).1 hab
    exact (nearW hb ha h).2 ⟨h1.symm, c, hc, h3, h2⟩
  irr a ha hab := ((nearW ha ha h).1 hab).1 rfl
theorem nodup_map_of {f : Int → Int} : ∀ {l : List Int}, l.Nodup → (∀ a ∈ l, ∀ b ∈ l, a ≠ b → f a ≠ f b) → (l.map f).Nodup
  | [], _, _ => List.nodup_nil
  | x :: l, h, hf => by
    rw [List.map_cons, List.nodup_cons]
    refine ⟨fun hm => ?_, nodup_map_of (List.nodup_cons.1 h).2 fun a ha b hb => hf a (by simp [ha]) b (by simp [hb])⟩
    obtain ⟨y, hy, he⟩ := List.mem_map.1 hm
    exact hf y (by simp [hy]) x (by simp) (fun e => (List.nodup_cons.1 h).1 (e ▸ hy)) he
end Go.Proofs.YtikppcfabnnhfaaDoor
