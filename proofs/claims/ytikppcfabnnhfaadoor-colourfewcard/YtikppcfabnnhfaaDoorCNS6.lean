/- Plain: the least number of colours. -/
import Derived.Test.YtikppcfabnnhfaaDoorCNS4
import Derived.Test.YtikppcfabnnhfaaDoorCNC17
namespace Go.Proofs.YtikppcfabnnhfaaDoor
open Go Go.Aw
set_option linter.unusedVariables false
def confG (g : List Int) (a b : Int) : Prop := hasW g (nb a) b = true
/-- The selectors of a list can have colours below k. -/
def Cable (g L : List Int) (k : Int) : Prop := ∃ f : Int → Int, (∀ s ∈ L, 0 ≤ f s ∧ f s < k) ∧ ∀ a ∈ L, ∀ b ∈ L, confG g a b → f a ≠ f b
theorem foldl_ge : ∀ {l : List Int} {a : Int}, a ≤ l.foldl maxI a ∧ ∀ x ∈ l, x ≤ l.foldl maxI a
  | [], a => ⟨Int.le_refl _, by simp⟩
  | y :: l, a => by
    obtain ⟨h1, h2⟩ := foldl_ge (l := l) (a := maxI a y)
    have m : a ≤ maxI a y ∧ y ≤ maxI a y := by unfold maxI; split <;> omega
    rw [List.foldl_cons]
    refine ⟨by omega, fun x hx => ?_⟩
    rcases List.mem_cons.1 hx with rfl | hx
    · omega
    · exact h2 x hx
theorem foldl_in : ∀ {l : List Int} {a : Int}, l.foldl maxI a = a ∨ l.foldl maxI a ∈ l
  | [], a => .inl rfl
  | y :: l, a => by
    rw [List.foldl_cons]
    rcases foldl_in (l := l) (a := maxI a y) with h | h
    · rw [h]
      unfold maxI
      split
      · exact .inr (by simp)
      · exact .inl rfl
    · exact .inr (by simp [h])
theorem maxL_ge {cs : List Int} {x : Int} (h : x ∈ cs) : x ≤ maxL cs := by
  match cs, h with
  | y :: l, h =>
    obtain ⟨h1, h2⟩ := foldl_ge (l := l) (a := y)
    rcases List.mem_cons.1 h with rfl | h
    · exact h1
    · exact h2 x h
theorem maxL_in {cs : List Int} (h : cs ≠ []) : maxL cs ∈ cs := by
  match cs, h with
  | y :: l, h =>
    rcases foldl_in (l := l) (a := y) with h | h
    · show l.foldl maxI y ∈ _
      rw [h]; simp
    · show l.foldl maxI y ∈ _
      simp [h]
theorem try_hit {F : Int → Option (List Int)} {T : List Int} : ∀ {n : Nat} {c0 c : Int}, c0 ≤ c → c < c0 + n → hasW T 0 c = false → (F c).isSome = true → (tryM F T n c0).isSome = true
  | 0, c0, c, h1, h2, _, _ => by omega
  | n + 1, c0, c, h1, h2, h3, h4 => by
    rw [tryM]
    by_cases e : c0 = c
    · subst e
      rw [h3, if_neg (by simp)]
      obtain ⟨x, hx⟩ := Option.isSome_iff_exists.1 h4
      rw [hx]; rfl
    · have ih := try_hit (F := F) (T := T) (n := n) (c0 := c0 + 1) (c := c) (by omega) (by omega) h3 h4
      split
      · exact ih
      · cases hF : F c0 with
        | none => exact ih
        | some x => rfl
theorem tryM_inv {F : Int → Option (List Int)} {T x : List Int} : ∀ {n : Nat} {c0 : Int}, tryM F T n c0 = some x → ∃ c, c0 ≤ c ∧ c < c0 + n ∧ hasW T 0 c = false ∧ F c = some x
  | 0, c0, h => by cases h
  | n + 1, c0, h => by
    rw [tryM] at h
    have rest : tryM F T n (c0 + 1) = some x → ∃ c, c0 ≤ c ∧ c < c0 + (n + 1 : Nat) ∧ hasW T 0 c = false ∧ F c = some x := fun h => by
      obtain ⟨c, h1, h2, h3, h4⟩ := tryM_inv h
      exact ⟨c, by omega, by omega, h3, h4⟩
    split at h
    · exact rest h
    · rename_i hT
      cases hF : F c0 with
      | none => rw [hF] at h; exact rest h
      | some y =>
        rw [hF] at h
        cases h
        exact ⟨c0, by omega, by omega, by simpa using hT, hF⟩
theorem mem_mid {x s : Int} {r D : List Int} : x ∈ r ++ s :: D ↔ x ∈ s :: r ++ D := by
  simp only [List.mem_append, List.mem_cons, List.cons_append]
  constructor
  · rintro (h | h | h)
    · exact .inr (.inl h)
    · exact .inl h
    · exact .inr (.inr h)
  · rintro (h | h | h)
    · exact .inr (.inl h)
    · exact .inl h
    · exact .inr (.inr h)
/-- The selectors that have a colour are those of D. -/
def doneC (D cs : List Int) : Prop := okC cs ∧ (∀ s ∈ D, 0 ≤ s ∧ s < 500 ∧ 0 ≤ cs.getD s.toNat 0) ∧ ∀ i : Nat, i < 500 → 0 ≤ cs.getD i 0 → (i : Int) ∈ D
theorem get_D {cs : List Int} {i : Nat} (h : i < cs.length) : cs.getD i 0 = cs[i] := by
  rw [List.getD_eq_getElem?_getD, List.getElem?_eq_getElem h]; rfl
theorem done_set {D cs : List Int} {s c : Int} (h : doneC D cs) (hs : 0 ≤ s ∧ s < 500) (hc : 0 ≤ c ∧ c < 500) : doneC (s :: D) (cs.set s.toNat c) := by
  obtain ⟨h1, h2, h3⟩ := h
  have hl := h1.1
  refine ⟨okC_set h1 (by omega) hc.2, fun x hx => ?_, fun i hi h0 => ?_⟩
  · rw [List.getD_eq_getElem?_getD, List.getElem?_set]
    by_cases e : s.toNat = x.toNat
    · rw [if_pos e]
      rcases List.mem_cons.1 hx with rfl | hx
      · exact ⟨hs.1, hs.2, by rw [if_pos (by omega)]; exact hc.1⟩
      · obtain ⟨a, b, _⟩ := h2 x hx
        exact ⟨a, b, by rw [if_pos (by omega)]; exact hc.1⟩
    · rw [if_neg e]
      rcases List.mem_cons.1 hx with rfl | hx
      · exact absurd rfl e
      · rw [← List.getD_eq_getElem?_getD]
        exact h2 x hx
  · by_cases e : s.toNat = i
    · have : (i : Int) = s := by omega
      rw [this]; simp
    · rw [List.getD_eq_getElem?_getD, List.getElem?_set, if_neg e, ← List.getD_eq_getElem?_getD] at h0
      exact List.mem_cons_of_mem _ (h3 i hi h0)
/-- **What can be coloured is found.** -/
theorem col_complete {g : List Int} {most : Int} (hm : most ≤ 500) : ∀ {L D cs : List Int}, doneC D cs → (∀ s ∈ L, 0 ≤ s ∧ s < 500) → (∀ s ∈ L, s ∉ D) → L.Nodup →
    (∃ f : Int → Int, (∀ s ∈ L ++ D, 0 ≤ f s ∧ f s < most) ∧ (∀ a ∈ L ++ D, ∀ b ∈ L ++ D, confG g a b → f a ≠ f b) ∧ ∀ s ∈ D, f s = cs.getD s.toNat 0) → (colM g most L cs).isSome = true := by
  intro L
  induction L with
  | nil => intro D cs _ _ _ _ _; rfl
  | cons s r ih =>
    intro D cs hd hL hLD hnd hf
    obtain ⟨f, f1, f2, f3⟩ := hf
    obtain ⟨h1, h2, h3⟩ := hd
    have hl := h1.1
    have hs := hL s (by simp)
    have hne : cs ≠ [] := fun e => by rw [e] at hl; cases hl
    have hu := maxL_in hne
    have hub := h1.2 _ hu
    generalize hU : maxL cs = u at hu hub
    have hDu : ∀ d ∈ D, f d ≤ u := fun d hd => by
      obtain ⟨a, b, _⟩ := h2 d hd
      rw [f3 d hd, get_D (by omega), ← hU]
      exact maxL_ge (List.getElem_mem _)
    -- a colouring whose next colour is not above u + 1
    obtain ⟨f, f1, f2, f3, f4⟩ : ∃ f : Int → Int, (∀ x ∈ (s :: r) ++ D, 0 ≤ f x ∧ f x < most) ∧ (∀ a ∈ (s :: r) ++ D, ∀ b ∈ (s :: r) ++ D, confG g a b → f a ≠ f b) ∧ (∀ x ∈ D, f x = cs.getD x.toNat 0) ∧ f s ≤ u + 1 := by
      by_cases hle : f s ≤ u + 1
      · exact ⟨f, f1, f2, f3, hle⟩
      · have hfs := f1 s (by simp)
        refine ⟨fun x => if f x = f s then u + 1 else if f x = u + 1 then f s else f x, fun x hx => ?_, fun a ha b hb hab he => ?_, fun x hx => ?_, ?_⟩
        · have := f1 x hx
          dsimp only
          split
          · omega
          · split <;> omega
        · have := f2 a ha b hb hab
          dsimp only at he
          split at he
          · split at he
            · omega
            · split at he <;> omega
          · split at he
            · split at he
              · omega
              · split at he <;> omega
            · split at he
              · omega
              · split at he <;> omega
        · have hx1 := hDu x hx
          dsimp only
          rw [if_neg (by omega), if_neg (by omega)]
          exact f3 x hx
        · dsimp only
          rw [if_pos rfl]
          omega
    have hfs := f1 s (by simp)
    have hT : hasW (takW g s cs) 0 (f s) = false := by
      cases hh : hasW (takW g s cs) 0 (f s) with
      | false => rfl
      | true =>
        obtain ⟨i, hi, e1, e2⟩ := (takenW ⟨hfs.1, by omega⟩ (fun c hc => by have := h1.2 c hc; omega)).1 hh
        have hiD : (i : Int) ∈ D := h3 i (by omega) (by rw [get_D hi]; omega)
        have e3 := f3 _ hiD
        rw [Int.toNat_natCast, get_D hi, e1] at e3
        exact absurd e3.symm (f2 s (by simp) _ (by simp [hiD]) e2)
    rw [colM, hU]
    refine try_hit (c := f s) hfs.1 (by omega) hT (ih (D := s :: D) (done_set ⟨h1, h2, h3⟩ hs ⟨hfs.1, by omega⟩) (fun x hx => hL x (by simp [hx])) (fun x hx => ?_) (List.nodup_cons.1 hnd).2 ⟨f, fun x hx => f1 x (mem_mid.1 hx), fun a ha b hb => f2 a (mem_mid.1 ha) b (mem_mid.1 hb), fun x hx => ?_⟩)
    · intro hm
      rcases List.mem_cons.1 hm with rfl | hm
      · exact (List.nodup_cons.1 hnd).1 hx
      · exact hLD x (by simp [hx]) hm
    · rw [List.getD_eq_getElem?_getD, List.getElem?_set]
      rcases List.mem_cons.1 hx with rfl | hx
      · rw [if_pos rfl, if_pos (by omega)]; rfl
      · have hxs : x ≠ s := fun e => hLD s (by simp) (e ▸ hx)
        obtain ⟨a, b, _⟩ := h2 x hx
        rw [if_neg (by omega), ← List.getD_eq_getElem?_getD]
        exact f3 x hx
/-- **What is found is a colouring.** -/
theorem col_sound {g : List Int} {most : Int} (hm : most ≤ 500) (hsym : ∀ a b, selN a → selN b → confG g a b → confG g b a) (hirr : ∀ a, selN a → ¬ confG g a a) : ∀ {L D cs x : List Int}, doneC D cs → (∀ s ∈ L, 0 ≤ s ∧ s < 500) → (∀ s ∈ L, s ∉ D) → L.Nodup →
    (∀ s ∈ D, cs.getD s.toNat 0 < most) → (∀ a ∈ D, ∀ b ∈ D, confG g a b → cs.getD a.toNat 0 ≠ cs.getD b.toNat 0) → colM g most L cs = some x → ∃ f : Int → Int, (∀ s ∈ L ++ D, 0 ≤ f s ∧ f s < most) ∧ ∀ a ∈ L ++ D, ∀ b ∈ L ++ D, confG g a b → f a ≠ f b := by
  intro L
  induction L with
  | nil =>
    intro D cs x hd _ _ _ h1 h2 h
    exact ⟨fun s => cs.getD s.toNat 0, fun s hs => ⟨(hd.2.1 s (by simpa using hs)).2.2, h1 s (by simpa using hs)⟩, fun a ha b hb => h2 a (by simpa using ha) b (by simpa using hb)⟩
  | cons s r ih =>
    intro D cs x hd hL hLD hnd k1 k2 h
    have hs := hL s (by simp)
    have hl := hd.1.1
    rw [colM] at h
    obtain ⟨c, c1, c2, c3, c4⟩ := tryM_inv h
    have hc : 0 ≤ c ∧ c < most := by omega
    have key : ∀ d ∈ D, confG g s d → cs.getD d.toNat 0 ≠ c := fun d hdD hcf he => by
      obtain ⟨a, b, _⟩ := hd.2.1 d hdD
      have := (takenW (g := g) (cs := cs) (s := s) (m := c) ⟨hc.1, by omega⟩ (fun c hc => by have := hd.1.2 c hc; omega)).2 ⟨d.toNat, by omega, by rw [← get_D]; exact he, by rw [show ((d.toNat : Nat) : Int) = d by omega]; exact hcf⟩
      rw [c3] at this; cases this
    have hget : ∀ d : Int, (cs.set s.toNat c).getD d.toNat 0 = if s.toNat = d.toNat then c else cs.getD d.toNat 0 := fun d => by
      rw [List.getD_eq_getElem?_getD, List.getElem?_set]
      by_cases e : s.toNat = d.toNat
      · rw [if_pos e, if_pos (by omega), if_pos e]; rfl
      · rw [if_neg e, if_neg e, ← List.getD_eq_getElem?_getD]
    have hDs : ∀ d ∈ D, ¬ s.toNat = d.toNat := fun d hdD e => by
      have := (hd.2.1 d hdD).1
      exact hLD s (by simp) (by rw [show s = d by omega]; exact hdD)
    obtain ⟨f, g1, g2⟩ := ih (D := s :: D) (done_set hd hs ⟨hc.1, by omega⟩) (fun y hy => hL y (by simp [hy])) (fun y hy hm => by
        rcases List.mem_cons.1 hm with rfl | hm
        · exact (List.nodup_cons.1 hnd).1 hy
        · exact hLD y (by simp [hy]) hm) (List.nodup_cons.1 hnd).2 (fun y hy => by
        rw [hget]
        rcases List.mem_cons.1 hy with rfl | hy
        · rw [if_pos rfl]; exact hc.2
        · rw [if_neg (hDs y hy)]; exact k1 y hy) (fun a ha b hb hab => by
        rw [hget, hget]
        rcases List.mem_cons.1 ha with rfl | ha1
        · rcases List.mem_cons.1 hb with rfl | hb
          · exact absurd hab (hirr _ hs)
          · rw [if_pos rfl, if_neg (hDs b hb)]
            exact fun e => key b hb hab e.symm
        · rcases List.mem_cons.1 hb with rfl | hb
          · rw [if_pos rfl, if_neg (hDs a ha1)]
            obtain ⟨a1, a2, _⟩ := hd.2.1 a ha1
            exact key a ha1 (hsym _ _ ⟨a1, a2⟩ hs hab)
          · rw [if_neg (hDs a ha1), if_neg (hDs b hb)]
            exact k2 a ha1 b hb hab) c4
    exact ⟨f, fun y hy => g1 y (mem_mid.2 hy), fun a ha b hb => g2 a (mem_mid.2 ha) b (mem_mid.2 hb)⟩
end Go.Proofs.YtikppcfabnnhfaaDoor
