/- What all rows of this seat share: the table, types of what comes in. -/
import Derived.Test.YtikppcfabnnhfaaDoorTie
import Derived.Test.YtikppcfabnnhfaaDoorCards
import Derived.Test.YtikppcfabnnhfaaDoorCNC23
import Derived.Test.YtikppcfabnnhfaaDoorCNC30
import Derived.Test.YtikppcfabnnhfaaDoorCAw5
import Derived.Lib.LaidTab
import Derived.LaidMore
import Derived.LaidLaws
import Derived.ProofKit
namespace Go.Proofs.YtikppcfabnnhfaaDoor
open Go Go.Aw
set_option maxRecDepth 100000
theorem own : ownKnob Tryd.prog.godebug = none := by kernel_rfl
theorem laidOut : laidOutB Tryd.prog = true := by kernel_rfl
def laidL : List (String × DataW Unit) := [("math/bits.deBruijn64tab", Rows.laid_math_bits_deBruijn64tab)]
theorem gT : Tryd.prog.globalNamed "math/bits.deBruijn64tab" = some 0 := by kernel_rfl
theorem tab_laid {W : World} (h : laidMetH Tryd.prog laidL W) : ∀ g, RV ⟨noμ, oldB W⟩ noH W (G g) (.pointer (some ⟨g, 0, none⟩)) := by
  have h' : laidMet Tryd.prog (("math/bits.deBruijn64tab", Lib.tabData .u8 tab) :: []) W := by
    rw [MakeChecks.laidMetH_plain _ _ _ (by kernel_rfl)] at h
    exact h
  have ht := Lib.tabIs_of_head (t := 147) (e := 5) (n := 64) gT (by kernel_rfl) (by kernel_rfl) Tryd.underlying5 (by kernel_rfl) (by kernel_rfl) h'
  intro g
  by_cases hg : g = 0
  · subst hg
    exact rop_table (by decide) fun i hi => ht.cell gT i hi
  · rw [show G g = .junk from if_neg hg]
    exact .junk _
theorem door_met (os : Os) (args : Array Value) : laidMetH Tryd.prog laidL ((World.doorLaid Tryd.prog 400 os).forCall (fun _ _ => 0) ⟨#[], args, []⟩).memory :=
  laidMetH_of_parts3 (fuel := 8) (laidMet_of_run' 8 (by kernel_rfl) (by kernel_rfl)) (by kernel_rfl) (by kernel_rfl)
theorem wf64 {x : Int} (h : (Lit.int .i64 x).wf = true) : i64r x := by
  simp only [Lit.wf, Bool.and_eq_true, decide_eq_true_eq] at h
  exact h
theorem ints_of {n : Nat} {xs : List AV} (h : typed Tryd.prog n 23 xs) : ∃ l : List Int, (∀ x ∈ l, i64r x) ∧ l.length ≤ maxLen ∧ (l.length : Int) ≤ 17592186044416 ∧ xs = [.ro 1 (l.map (AV.int .i64))] := by
  obtain ⟨m, es, hl, hb, he, rfl⟩ := typed_slice Tryd.underlying23 h
  obtain ⟨l, h1, rfl⟩ := list_map_of (f := AV.int .i64) (Q := fun x => i64r x) (es := es) fun y hy => by
    obtain ⟨k, hk, e⟩ := typed_int Tryd.underlying3 (he y hy).1
    have h2 := (he y hy).2
    simp only [isE, Tryd.underlying3] at h2
    rw [h2] at e
    exact ⟨k, wf64 hk, by simpa using e⟩
  rw [show Tryd.prog.bytesOf 3 = 8 by kernel_rfl, List.length_map] at hb
  exact ⟨l, h1, by simpa using hl, by unfold reachBytes at hb; omega, rfl⟩
theorem int_of {n : Nat} {xs : List AV} (h : typed Tryd.prog n 3 xs) : ∃ x, i64r x ∧ xs = [.int .i64 x] := by
  obtain ⟨k, hk, e⟩ := typed_int Tryd.underlying3 h
  exact ⟨k, wf64 hk, e⟩
/-- Pairs of integers, as entries and slots are. -/
theorem pairs_of {u e n : Nat} {xs : List AV} {fs : Array Field} (hu : Tryd.prog.underlying u = some (.slice e)) (he : Tryd.prog.underlying e = some (.struct fs)) (hts : fs.toList.map (·.type) = [3, 3]) (hc : Tryd.prog.cellsOf e = 2) (hy : Tryd.prog.bytesOf e = 16) (h : typed Tryd.prog n u xs) :
    ∃ l : List Et, (∀ x ∈ l, i64r x.s ∧ i64r x.m) ∧ l.length ≤ maxLen ∧ (l.length : Int) ≤ 17592186044416 ∧ xs = [clV l] := by
  obtain ⟨m, es, hl, hb, hh, rfl⟩ := typed_slice hu h
  obtain ⟨l, h1, rfl⟩ := list_map_of (f := enV) (Q := fun x => i64r x.s ∧ i64r x.m) (es := es) fun y hy => by
    obtain ⟨cs, rfl⟩ := isE_struct he (hh y hy).2
    obtain ⟨m, y0, r0, e0, h0, y1, r1, rfl, h1, rfl⟩ := typed_struct he (hh _ hy).1 hts
    obtain ⟨a, wa, rfl⟩ := int_of h0
    obtain ⟨b, wb, rfl⟩ := int_of h1
    exact ⟨⟨a, b⟩, ⟨wa, wb⟩, by show AV.agg cs = _; rw [show cs = _ from e0]; rfl⟩
  rw [hy, List.length_map] at hb
  exact ⟨l, h1, by simpa using hl, by unfold reachBytes at hb; omega, by rw [hc]; rfl⟩
/-- All numbers of a world are integers of the program. -/
def inpR (w : Wd) : Prop := (∀ c ∈ w.classes, ∀ e ∈ c, i64r e.s ∧ i64r e.m) ∧ (∀ b ∈ w.bodies, (∀ x ∈ b.ss, i64r x) ∧ (∀ x ∈ b.ms, i64r x) ∧ ∀ x ∈ b.cs, i64r x) ∧ ∀ x ∈ w.roots, i64r x
theorem world_of {n : Nat} {xs : List AV} (h : typed Tryd.prog n 35 xs) : ∃ w : Wd, inpW w ∧ inpR w ∧ AV.agg xs = wdV w := by
  obtain ⟨m, y0, r0, rfl, h0, y1, r1, rfl, h1, y2, r2, rfl, h2, rfl⟩ := typed_struct Tryd.underlying35 h rfl
  obtain ⟨m0, es0, _, _, he0, rfl⟩ := typed_slice Tryd.underlying32 h0
  obtain ⟨m1, es1, _, _, he1, rfl⟩ := typed_slice Tryd.underlying33 h1
  obtain ⟨l2, q2, _, _, rfl⟩ := ints_of h2
  obtain ⟨cs, q0, rfl⟩ := list_map_of (f := clV) (Q := fun c => (∀ e ∈ c, i64r e.s ∧ i64r e.m) ∧ (c.length : Int) ≤ 1000000000000000) (es := es0) fun y hy => by
    obtain ⟨c, c1, _, c2, e⟩ := pairs_of Tryd.underlying36 Tryd.underlying71 rfl (by kernel_rfl) (by kernel_rfl) (he0 y hy).1
    have h3 := (he0 y hy).2
    simp only [isE, Tryd.underlying36] at h3
    rw [h3] at e
    exact ⟨c, ⟨c1, by omega⟩, by simpa using e⟩
  obtain ⟨bs, q1, rfl⟩ := list_map_of (f := bdV) (Q := fun b => ((∀ x ∈ b.ss, i64r x) ∧ (∀ x ∈ b.ms, i64r x) ∧ ∀ x ∈ b.cs, i64r x) ∧ (b.ss.length : Int) ≤ 1000000000000000 ∧ (b.ms.length : Int) ≤ 1000000000000000 ∧ (b.cs.length : Int) ≤ 1000000000000000) (es := es1) fun y hy => by
    obtain ⟨cs, rfl⟩ := isE_struct Tryd.underlying83 (he1 y hy).2
    obtain ⟨m, z0, s0, e0, g0, z1, s1, rfl, g1, z2, s2, rfl, g2, rfl⟩ := typed_struct Tryd.underlying83 (he1 _ hy).1 rfl
    obtain ⟨a, wa, _, la, rfl⟩ := ints_of g0
    obtain ⟨b, wb, _, lb, rfl⟩ := ints_of g1
    obtain ⟨c, wc, _, lc, rfl⟩ := ints_of g2
    exact ⟨⟨a, b, c⟩, ⟨⟨wa, wb, wc⟩, by dsimp only; omega⟩, by show AV.agg cs = _; rw [show cs = _ from e0]; rfl⟩
  refine ⟨⟨cs, bs, l2⟩, ⟨fun c hc => (q0 c hc).2, fun b hb => (q1 b hb).2⟩, ⟨fun c hc => (q0 c hc).1, fun b hb => (q1 b hb).1, q2⟩, ?_⟩
  rw [show Tryd.prog.cellsOf 36 = 1 by kernel_rfl, show Tryd.prog.cellsOf 83 = 3 by kernel_rfl]
  rfl
end Go.Proofs.YtikppcfabnnhfaaDoor
