/- A part of the proof of ColourClosesCardSaid. -/
import Derived.Test.YtikppcfabnnhfaaDoorTie
import Derived.Test.YtikppcfabnnhfaaDoorCards
import Derived.Lib.LaidTab
import Derived.LaidMore
import Derived.LaidLaws
import Derived.ProofKit
import Derived.Test.YtikppcfabnnhfaaDoorC3
/- small. -/
namespace Go.Proofs.YtikppcfabnnhfaaDoor
open Go Go.Aw
set_option linter.unusedSimpArgs false
set_option linter.unusedVariables false
set_option maxRecDepth 100000
set_option maxHeartbeats 40000000
def lenS : List (List Et) → Int
  | [] => 0
  | c :: r => c.length + lenS r
def lenB : List Bd → Int
  | [] => 0
  | b :: r => b.ss.length + b.ms.length + b.cs.length + lenB r
theorem sm6_loop {w : Wd} {k : Int} (hl : w.classes.length ≤ 210) (hs : ∀ c ∈ w.classes, (c.length : Int) ≤ 1000000000000000) : ∀ (r m : List (List Et)) (n : Int) (b : Bool), w.classes = m ++ r → 0 ≤ n → n + r.length * 1000000000000000 ≤ 4000000000000000000 →
    E.L 14 6 [.ptr 60000 0 0, .int .i64 n, .int .i64 k, .bool b, .int .i64 m.length] (wO w) = some ((.exit 0, [.ptr 60000 0 0, .int .i64 (n + lenS r), .int .i64 k, .bool (b || r.any bigC), .int .i64 w.classes.length], wO w), True) := by
  intro r
  induction r with
  | nil =>
    intro m n b h _ _
    rw [List.append_nil] at h
    rw [l14_6]
    simp (maxSteps := 100000000) only [ivc, anf, vop, vlen, vbuiltin, nilR, eq_self, Nat.reduceEqDiff, Nat.reduceLT, Nat.reduceLeDiff, Nat.reduceAdd, Nat.reduceBEq, reduceCtorEq, ↓reduceIte, tyb, wO, wdV, h, Int.lt_irrefl, List.any_nil, lenS, Int.add_zero]
  | cons x r ih =>
    intro m n b h h0 hb
    have hn : m.length + (r.length + 1) = w.classes.length := by rw [h]; simp
    have hi' : (m.length : Int) < w.classes.length := by omega
    have hg := getD_map (f := clV) (show w.classes[m.length]? = some x by rw [h]; simp)
    have hw : IntKind.i64.wrap ((m.length : Int) + 1) = m.length + 1 := wrap_id (by omega) (by omega)
    have hc : (0 ≤ (m.length : Int)) = True := eq_true (by omega)
    have hx : (x.length : Int) ≤ 1000000000000000 := hs x (by rw [h]; simp)
    rw [List.length_cons] at hb
    have hw2 : IntKind.i64.wrap (n + x.length) = n + x.length := wrap_id (by omega) (by omega)
    have ih' := ih (m ++ [x]) (n + x.length) (b || bigC x) (by simp [h]) (by omega) (by omega)
    have e : n + x.length + lenS r = n + (x.length + lenS r) := by omega
    simp only [List.length_append, List.length_cons, List.length_nil, Nat.zero_add, Int.natCast_add, Int.cast_ofNat_Int, wO, wdV, e] at ih'
    rw [l14_6]
    cases b with
    | true =>
      simp only [Bool.true_or] at ih'
      simp (maxSteps := 100000000) only [ivc, anf, vop, vlen, vbuiltin, nilR, eq_self, Nat.reduceEqDiff, Nat.reduceLT, Nat.reduceLeDiff, Nat.reduceAdd, Nat.reduceBEq, Int.reduceLT, reduceCtorEq, ↓reduceIte, tyb, wO, wdV, clV, hi', hg, hw, hc, hw2, ih', lenS]
    | false =>
      simp only [Bool.false_or, bigC] at ih'
      simp (maxSteps := 100000000) only [ivc, anf, vop, vlen, vbuiltin, nilR, eq_self, Nat.reduceEqDiff, Nat.reduceLT, Nat.reduceLeDiff, Nat.reduceAdd, Nat.reduceBEq, reduceCtorEq, ↓reduceIte, tyb, wO, wdV, clV, hi', hg, hw, hc, hw2, ih', lenS, List.any_cons, bigC]
theorem sm11_loop {w : Wd} {n : Int} (hl : w.bodies.length ≤ 510) (hs : ∀ b ∈ w.bodies, (b.ss.length : Int) ≤ 1000000000000000 ∧ (b.ms.length : Int) ≤ 1000000000000000 ∧ (b.cs.length : Int) ≤ 1000000000000000) : ∀ (r m : List Bd) (k : Int) (b : Bool), w.bodies = m ++ r → 0 ≤ k → k + r.length * 3000000000000000 ≤ 4000000000000000000 →
    E.L 14 11 [.ptr 60000 0 0, .int .i64 n, .int .i64 k, .bool b, .int .i64 m.length] (wO w) = some ((.exit 2, [.ptr 60000 0 0, .int .i64 n, .int .i64 (k + lenB r), .bool (b || r.any bigB), .int .i64 w.bodies.length], wO w), True) := by
  intro r
  induction r with
  | nil =>
    intro m n b h _ _
    rw [List.append_nil] at h
    rw [l14_11]
    simp (maxSteps := 100000000) only [ivc, anf, vop, vlen, vbuiltin, nilR, eq_self, Nat.reduceEqDiff, Nat.reduceLT, Nat.reduceLeDiff, Nat.reduceAdd, Nat.reduceBEq, reduceCtorEq, ↓reduceIte, tyb, wO, wdV, h, Int.lt_irrefl, List.any_nil, lenB, Int.add_zero]
  | cons x r ih =>
    intro m k b h h0 hb
    have hn : m.length + (r.length + 1) = w.bodies.length := by rw [h]; simp
    have hi' : (m.length : Int) < w.bodies.length := by omega
    have hg := getD_map (f := bdV) (show w.bodies[m.length]? = some x by rw [h]; simp)
    have hw : IntKind.i64.wrap ((m.length : Int) + 1) = m.length + 1 := wrap_id (by omega) (by omega)
    have hc : (0 ≤ (m.length : Int)) = True := eq_true (by omega)
    obtain ⟨x1, x2, x3⟩ := hs x (by rw [h]; simp)
    rw [List.length_cons] at hb
    have w1 : IntKind.i64.wrap ((x.ss.length : Int) + x.ms.length) = (x.ss.length : Int) + x.ms.length := wrap_id (by omega) (by omega)
    have w2 : IntKind.i64.wrap ((x.ss.length : Int) + x.ms.length + x.cs.length) = (x.ss.length : Int) + x.ms.length + x.cs.length := wrap_id (by omega) (by omega)
    have w3 : IntKind.i64.wrap (k + ((x.ss.length : Int) + x.ms.length + x.cs.length)) = k + ((x.ss.length : Int) + x.ms.length + x.cs.length) := wrap_id (by omega) (by omega)
    have ih' := ih (m ++ [x]) (k + ((x.ss.length : Int) + x.ms.length + x.cs.length)) (b || bigB x) (by simp [h]) (by omega) (by omega)
    have e : k + ((x.ss.length : Int) + x.ms.length + x.cs.length) + lenB r = k + ((x.ss.length : Int) + x.ms.length + x.cs.length + lenB r) := by omega
    simp only [List.length_append, List.length_cons, List.length_nil, Nat.zero_add, Int.natCast_add, Int.cast_ofNat_Int, wO, wdV, e] at ih'
    rw [l14_11]
    cases b with
    | true =>
      simp only [Bool.true_or] at ih'
      simp (maxSteps := 100000000) only [ivc, anf, vop, vlen, vbuiltin, nilR, salloc, eq_self, Nat.reduceEqDiff, Nat.reduceLT, Nat.reduceLeDiff, Nat.reduceAdd, Nat.reduceBEq, Int.reduceLT, reduceCtorEq, ↓reduceIte, tyb, wO, wdV, bdV, hi', hg, hw, hc, w1, w2, w3, ih', lenB]
    | false =>
      have big : bigB x = (decide ((100 : Int) < x.ss.length) || decide ((100 : Int) < x.ms.length) || decide ((100 : Int) < x.cs.length)) := rfl
      simp only [Bool.false_or, big] at ih'
      rw [List.any_cons, big]
      by_cases b1 : (100 : Int) < x.ss.length
      · simp only [b1, decide_true, Bool.true_or] at ih'
        simp (maxSteps := 100000000) only [ivc, anf, vop, vlen, vbuiltin, nilR, salloc, eq_self, Nat.reduceEqDiff, Nat.reduceLT, Nat.reduceLeDiff, Nat.reduceAdd, Nat.reduceBEq, Int.reduceLT, reduceCtorEq, ↓reduceIte, tyb, wO, wdV, bdV, hi', hg, hw, hc, w1, w2, w3, ih', lenB, b1]
      · by_cases b2 : (100 : Int) < x.ms.length
        · simp only [b1, b2, decide_true, Bool.true_or, Bool.or_true] at ih'
          simp (maxSteps := 100000000) only [ivc, anf, vop, vlen, vbuiltin, nilR, salloc, eq_self, Nat.reduceEqDiff, Nat.reduceLT, Nat.reduceLeDiff, Nat.reduceAdd, Nat.reduceBEq, Int.reduceLT, reduceCtorEq, ↓reduceIte, tyb, wO, wdV, bdV, hi', hg, hw, hc, w1, w2, w3, ih', lenB, b1, b2]
        · simp only [b1, b2, decide_false, Bool.false_or] at ih'
          simp (maxSteps := 100000000) only [ivc, anf, vop, vlen, vbuiltin, nilR, salloc, eq_self, Nat.reduceEqDiff, Nat.reduceLT, Nat.reduceLeDiff, Nat.reduceAdd, Nat.reduceBEq, reduceCtorEq, ↓reduceIte, tyb, wO, wdV, bdV, hi', hg, hw, hc, w1, w2, w3, ih', lenB, b1, b2]
def manyM (w : Wd) : Bool := decide ((200 : Int) < w.classes.length) || decide ((500 : Int) < w.bodies.length) || decide ((64 : Int) < w.roots.length) || w.classes.any bigC || w.bodies.any bigB
def smallM (w : Wd) : Bool :=
  if (210 : Int) < w.classes.length ∨ (510 : Int) < w.bodies.length ∨ (70 : Int) < w.roots.length then false
  else if manyM w then decide (lenS w.classes < 500) && decide (lenB w.bodies < 500)
  else decide ((w.classes.length : Int) ≤ 12) && decide (lenS w.classes ≤ 60) && decide ((w.bodies.length : Int) ≤ 30) && decide (lenB w.bodies ≤ 100) && decide ((w.roots.length : Int) ≤ 10)
/-- What can be handed in: no list is longer than a machine holds. -/
def inpW (w : Wd) : Prop := (∀ c ∈ w.classes, (c.length : Int) ≤ 1000000000000000) ∧ ∀ b ∈ w.bodies, (b.ss.length : Int) ≤ 1000000000000000 ∧ (b.ms.length : Int) ≤ 1000000000000000 ∧ (b.cs.length : Int) ≤ 1000000000000000
theorem small_ev {w : Wd} (hw : inpW w) : E.F 14 [wdV w] [] = some ((.bool (smallM w), []), True) := by
  rw [e14]
  unfold smallM
  by_cases a1 : (210 : Int) < w.classes.length
  · rw [if_pos (.inl a1)]
    simp (maxSteps := 100000000) only [ivc, anf, vop, vlen, vbuiltin, nilR, salloc, eq_self, Nat.reduceEqDiff, Nat.reduceLT, Nat.reduceLeDiff, Nat.reduceAdd, Nat.reduceBEq, Int.reduceLT, reduceCtorEq, ↓reduceIte, tyb, wdV, a1]
  by_cases a2 : (510 : Int) < w.bodies.length
  · rw [if_pos (.inr (.inl a2))]
    simp (maxSteps := 100000000) only [ivc, anf, vop, vlen, vbuiltin, nilR, salloc, eq_self, Nat.reduceEqDiff, Nat.reduceLT, Nat.reduceLeDiff, Nat.reduceAdd, Nat.reduceBEq, Int.reduceLT, reduceCtorEq, ↓reduceIte, tyb, wdV, a1, a2]
  by_cases a3 : (70 : Int) < w.roots.length
  · rw [if_pos (.inr (.inr a3))]
    simp (maxSteps := 100000000) only [ivc, anf, vop, vlen, vbuiltin, nilR, salloc, eq_self, Nat.reduceEqDiff, Nat.reduceLT, Nat.reduceLeDiff, Nat.reduceAdd, Nat.reduceBEq, reduceCtorEq, ↓reduceIte, tyb, wdV, a1, a2, a3]
  rw [if_neg (by omega)]
  have lp1 := fun b => sm6_loop (w := w) (k := 0) (by omega) hw.1 w.classes [] 0 b rfl (by omega) (by omega)
  have lp2 := fun n b => sm11_loop (w := w) (n := n) (by omega) hw.2 w.bodies [] 0 b rfl (by omega) (by omega)
  simp only [List.length_nil, Int.natCast_zero, Int.zero_add, wO, wdV] at lp1 lp2
  unfold manyM
  have hb : ((200 : Int) < w.classes.length ∧ True ∧ True) ∨ (¬ (200 : Int) < w.classes.length ∧ (500 : Int) < w.bodies.length ∧ True) ∨ (¬ (200 : Int) < w.classes.length ∧ ¬ (500 : Int) < w.bodies.length ∧ (64 : Int) < w.roots.length) ∨ (¬ (200 : Int) < w.classes.length ∧ ¬ (500 : Int) < w.bodies.length ∧ ¬ (64 : Int) < w.roots.length) := by
    by_cases x1 : (200 : Int) < w.classes.length
    · exact .inl ⟨x1, trivial, trivial⟩
    by_cases x2 : (500 : Int) < w.bodies.length
    · exact .inr (.inl ⟨x1, x2, trivial⟩)
    by_cases x3 : (64 : Int) < w.roots.length
    · exact .inr (.inr (.inl ⟨x1, x2, x3⟩))
    exact .inr (.inr (.inr ⟨x1, x2, x3⟩))
  rcases hb with ⟨b1, b2, b3⟩ | ⟨b1, b2, b3⟩ | ⟨b1, b2, b3⟩ | ⟨b1, b2, b3⟩
  rotate_right
  · cases hA : w.classes.any bigC
    · cases hB : w.bodies.any bigB
      · by_cases q1 : (w.classes.length : Int) ≤ 12
        · by_cases q2 : lenS w.classes ≤ 60
          · by_cases q3 : (w.bodies.length : Int) ≤ 30
            · by_cases q4 : lenB w.bodies ≤ 100
              · simp (maxSteps := 100000000) only [ivc, anf, vop, vlen, vbuiltin, nilR, salloc, eq_self, Nat.reduceEqDiff, Nat.reduceLT, Nat.reduceLeDiff, Nat.reduceAdd, Nat.reduceBEq, reduceCtorEq, ↓reduceIte, tyb, wdV, a1, a2, a3, b1, b2, b3, lp1, lp2, hA, hB, q1, q2, q3, q4]
              · simp (maxSteps := 100000000) only [ivc, anf, vop, vlen, vbuiltin, nilR, salloc, eq_self, Nat.reduceEqDiff, Nat.reduceLT, Nat.reduceLeDiff, Nat.reduceAdd, Nat.reduceBEq, Int.reduceLE, reduceCtorEq, ↓reduceIte, tyb, wdV, a1, a2, a3, b1, b2, b3, lp1, lp2, hA, hB, q1, q2, q3, q4]
            · simp (maxSteps := 100000000) only [ivc, anf, vop, vlen, vbuiltin, nilR, salloc, eq_self, Nat.reduceEqDiff, Nat.reduceLT, Nat.reduceLeDiff, Nat.reduceAdd, Nat.reduceBEq, Int.reduceLE, reduceCtorEq, ↓reduceIte, tyb, wdV, a1, a2, a3, b1, b2, b3, lp1, lp2, hA, hB, q1, q2, q3]
          · simp (maxSteps := 100000000) only [ivc, anf, vop, vlen, vbuiltin, nilR, salloc, eq_self, Nat.reduceEqDiff, Nat.reduceLT, Nat.reduceLeDiff, Nat.reduceAdd, Nat.reduceBEq, Int.reduceLE, reduceCtorEq, ↓reduceIte, tyb, wdV, a1, a2, a3, b1, b2, b3, lp1, lp2, hA, hB, q1, q2]
        · simp (maxSteps := 100000000) only [ivc, anf, vop, vlen, vbuiltin, nilR, salloc, eq_self, Nat.reduceEqDiff, Nat.reduceLT, Nat.reduceLeDiff, Nat.reduceAdd, Nat.reduceBEq, Int.reduceLE, reduceCtorEq, ↓reduceIte, tyb, wdV, a1, a2, a3, b1, b2, b3, lp1, lp2, hA, hB, q1]
      · by_cases q1 : lenS w.classes < 500
        · simp (maxSteps := 100000000) only [ivc, anf, vop, vlen, vbuiltin, nilR, salloc, eq_self, Nat.reduceEqDiff, Nat.reduceLT, Nat.reduceLeDiff, Nat.reduceAdd, Nat.reduceBEq, reduceCtorEq, ↓reduceIte, tyb, wdV, a1, a2, a3, b1, b2, b3, lp1, lp2, hA, hB, q1]
        · simp (maxSteps := 100000000) only [ivc, anf, vop, vlen, vbuiltin, nilR, salloc, eq_self, Nat.reduceEqDiff, Nat.reduceLT, Nat.reduceLeDiff, Nat.reduceAdd, Nat.reduceBEq, reduceCtorEq, ↓reduceIte, tyb, wdV, a1, a2, a3, b1, b2, b3, lp1, lp2, hA, hB, q1]
    · by_cases q1 : lenS w.classes < 500
      · simp (maxSteps := 100000000) only [ivc, anf, vop, vlen, vbuiltin, nilR, salloc, eq_self, Nat.reduceEqDiff, Nat.reduceLT, Nat.reduceLeDiff, Nat.reduceAdd, Nat.reduceBEq, reduceCtorEq, ↓reduceIte, tyb, wdV, a1, a2, a3, b1, b2, b3, lp1, lp2, hA, q1]
      · simp (maxSteps := 100000000) only [ivc, anf, vop, vlen, vbuiltin, nilR, salloc, eq_self, Nat.reduceEqDiff, Nat.reduceLT, Nat.reduceLeDiff, Nat.reduceAdd, Nat.reduceBEq, reduceCtorEq, ↓reduceIte, tyb, wdV, a1, a2, a3, b1, b2, b3, lp1, lp2, hA, q1]
  all_goals
    by_cases q1 : lenS w.classes < 500
    · simp (maxSteps := 100000000) only [ivc, anf, vop, vlen, vbuiltin, nilR, salloc, eq_self, Nat.reduceEqDiff, Nat.reduceLT, Nat.reduceLeDiff, Nat.reduceAdd, Nat.reduceBEq, reduceCtorEq, ↓reduceIte, tyb, wdV, a1, a2, a3, b1, b2, b3, lp1, lp2, q1]
    · simp (maxSteps := 100000000) only [ivc, anf, vop, vlen, vbuiltin, nilR, salloc, eq_self, Nat.reduceEqDiff, Nat.reduceLT, Nat.reduceLeDiff, Nat.reduceAdd, Nat.reduceBEq, reduceCtorEq, ↓reduceIte, tyb, wdV, a1, a2, a3, b1, b2, b3, lp1, lp2, q1]
end Go.Proofs.YtikppcfabnnhfaaDoor

/- What all rows of this seat share: the table, types of what comes in. -/
namespace Go.Proofs.YtikppcfabnnhfaaDoor
open Go Go.Aw
set_option maxRecDepth 100000
theorem own : ownKnob Tryd.prog.godebug = none := by kernel_rfl
theorem laidOut : laidOutB Tryd.prog = true := by kernel_rfl
def laidL : List (String × DataW Unit) := [("math/bits.deBruijn64tab", Rows.laid_math_bits_deBruijn64tab)]
theorem gT : Tryd.prog.globalNamed "math/bits.deBruijn64tab" = some 0 := by kernel_rfl
theorem tab_laid {W : World} (h : laidMetH Tryd.prog laidL W) : ∀ g, RV ⟨noμ, oldB W⟩ noH W (G g) (.pointer (some ⟨g, 0, none⟩)) := by
  have h' : laidMet Tryd.prog (("math/bits.deBruijn64tab", Lib.tabData .u8 tab) :: []) W := by
    rw [MakeChecks.laidMetH_plain _ _ _ (by kernel_rfl)] at h
    exact h
  have ht := Lib.tabIs_of_head (t := 147) (e := 5) (n := 64) gT (by kernel_rfl) (by kernel_rfl) Tryd.underlying5 (by kernel_rfl) (by kernel_rfl) h'
  intro g
  by_cases hg : g = 0
  · subst hg
    exact rop_table (by decide) fun i hi => ht.cell gT i hi
  · rw [show G g = .junk from if_neg hg]
    exact .junk _
theorem door_met (os : Os) (args : Array Value) : laidMetH Tryd.prog laidL ((World.doorLaid Tryd.prog 400 os).forCall (fun _ _ => 0) ⟨#[], args, []⟩).memory :=
  laidMetH_of_parts3 (fuel := 8) (laidMet_of_run' 8 (by kernel_rfl) (by kernel_rfl)) (by kernel_rfl) (by kernel_rfl)
theorem wf64 {x : Int} (h : (Lit.int .i64 x).wf = true) : i64r x := by
  simp only [Lit.wf, Bool.and_eq_true, decide_eq_true_eq] at h
  exact h
theorem ints_of {n : Nat} {xs : List AV} (h : typed Tryd.prog n 23 xs) : ∃ l : List Int, (∀ x ∈ l, i64r x) ∧ l.length ≤ maxLen ∧ (l.length : Int) ≤ 17592186044416 ∧ xs = [.ro 1 (l.map (AV.int .i64))] := by
  obtain ⟨m, es, hl, hb, he, rfl⟩ := typed_slice Tryd.underlying23 h
  obtain ⟨l, h1, rfl⟩ := list_map_of (f := AV.int .i64) (Q := fun x => i64r x) (es := es) fun y hy => by
    obtain ⟨k, hk, e⟩ := typed_int Tryd.underlying3 (he y hy).1
    have h2 := (he y hy).2
    simp only [isE, Tryd.underlying3] at h2
    rw [h2] at e
    exact ⟨k, wf64 hk, by simpa using e⟩
  rw [show Tryd.prog.bytesOf 3 = 8 by kernel_rfl, List.length_map] at hb
  exact ⟨l, h1, by simpa using hl, by unfold reachBytes at hb; omega, rfl⟩
theorem int_of {n : Nat} {xs : List AV} (h : typed Tryd.prog n 3 xs) : ∃ x, i64r x ∧ xs = [.int .i64 x] := by
  obtain ⟨k, hk, e⟩ := typed_int Tryd.underlying3 h
  exact ⟨k, wf64 hk, e⟩
/-- Pairs of integers, as entries and slots are. -/
theorem pairs_of {u e n : Nat} {xs : List AV} {fs : Array Field} (hu : Tryd.prog.underlying u = some (.slice e)) (he : Tryd.prog.underlying e = some (.struct fs)) (hts : fs.toList.map (·.type) = [3, 3]) (hc : Tryd.prog.cellsOf e = 2) (hy : Tryd.prog.bytesOf e = 16) (h : typed Tryd.prog n u xs) :
    ∃ l : List Et, (∀ x ∈ l, i64r x.s ∧ i64r x.m) ∧ l.length ≤ maxLen ∧ (l.length : Int) ≤ 17592186044416 ∧ xs = [clV l] := by
  obtain ⟨m, es, hl, hb, hh, rfl⟩ := typed_slice hu h
  obtain ⟨l, h1, rfl⟩ := list_map_of (f := enV) (Q := fun x => i64r x.s ∧ i64r x.m) (es := es) fun y hy => by
    obtain ⟨cs, rfl⟩ := isE_struct he (hh y hy).2
    obtain ⟨m, y0, r0, e0, h0, y1, r1, rfl, h1, rfl⟩ := typed_struct he (hh _ hy).1 hts
    obtain ⟨a, wa, rfl⟩ := int_of h0
    obtain ⟨b, wb, rfl⟩ := int_of h1
    exact ⟨⟨a, b⟩, ⟨wa, wb⟩, by show AV.agg cs = _; rw [show cs = _ from e0]; rfl⟩
  rw [hy, List.length_map] at hb
  exact ⟨l, h1, by simpa using hl, by unfold reachBytes at hb; omega, by rw [hc]; rfl⟩
/-- All numbers of a world are integers of the program. -/
def inpR (w : Wd) : Prop := (∀ c ∈ w.classes, ∀ e ∈ c, i64r e.s ∧ i64r e.m) ∧ (∀ b ∈ w.bodies, (∀ x ∈ b.ss, i64r x) ∧ (∀ x ∈ b.ms, i64r x) ∧ ∀ x ∈ b.cs, i64r x) ∧ ∀ x ∈ w.roots, i64r x
theorem world_of {n : Nat} {xs : List AV} (h : typed Tryd.prog n 35 xs) : ∃ w : Wd, inpW w ∧ inpR w ∧ AV.agg xs = wdV w := by
  obtain ⟨m, y0, r0, rfl, h0, y1, r1, rfl, h1, y2, r2, rfl, h2, rfl⟩ := typed_struct Tryd.underlying35 h rfl
  obtain ⟨m0, es0, _, _, he0, rfl⟩ := typed_slice Tryd.underlying32 h0
  obtain ⟨m1, es1, _, _, he1, rfl⟩ := typed_slice Tryd.underlying33 h1
  obtain ⟨l2, q2, _, _, rfl⟩ := ints_of h2
  obtain ⟨cs, q0, rfl⟩ := list_map_of (f := clV) (Q := fun c => (∀ e ∈ c, i64r e.s ∧ i64r e.m) ∧ (c.length : Int) ≤ 1000000000000000) (es := es0) fun y hy => by
    obtain ⟨c, c1, _, c2, e⟩ := pairs_of Tryd.underlying36 Tryd.underlying71 rfl (by kernel_rfl) (by kernel_rfl) (he0 y hy).1
    have h3 := (he0 y hy).2
    simp only [isE, Tryd.underlying36] at h3
    rw [h3] at e
    exact ⟨c, ⟨c1, by omega⟩, by simpa using e⟩
  obtain ⟨bs, q1, rfl⟩ := list_map_of (f := bdV) (Q := fun b => ((∀ x ∈ b.ss, i64r x) ∧ (∀ x ∈ b.ms, i64r x) ∧ ∀ x ∈ b.cs, i64r x) ∧ (b.ss.length : Int) ≤ 1000000000000000 ∧ (b.ms.length : Int) ≤ 1000000000000000 ∧ (b.cs.length : Int) ≤ 1000000000000000) (es := es1) fun y hy => by
    obtain ⟨cs, rfl⟩ := isE_struct Tryd.underlying83 (he1 y hy).2
    obtain ⟨m, z0, s0, e0, g0, z1, s1, rfl, g1, z2, s2, rfl, g2, rfl⟩ := typed_struct Tryd.underlying83 (he1 _ hy).1 rfl
    obtain ⟨a, wa, _, la, rfl⟩ := ints_of g0
    obtain ⟨b, wb, _, lb, rfl⟩ := ints_of g1
    obtain ⟨c, wc, _, lc, rfl⟩ := ints_of g2
    exact ⟨⟨a, b, c⟩, ⟨⟨wa, wb, wc⟩, by dsimp only; omega⟩, by show AV.agg cs = _; rw [show cs = _ from e0]; rfl⟩
  refine ⟨⟨cs, bs, l2⟩, ⟨fun c hc => (q0 c hc).2, fun b hb => (q1 b hb).2⟩, ⟨fun c hc => (q0 c hc).1, fun b hb => (q1 b hb).1, q2⟩, ?_⟩
  rw [show Tryd.prog.cellsOf 36 = 1 by kernel_rfl, show Tryd.prog.cellsOf 83 = 3 by kernel_rfl]
  rfl
end Go.Proofs.YtikppcfabnnhfaaDoor

/- Clone, the closure of Grow. -/
namespace Go.Proofs.YtikppcfabnnhfaaDoor
open Go Go.Aw
set_option linter.unusedSimpArgs false
set_option linter.unusedVariables false
set_option maxRecDepth 100000
set_option maxHeartbeats 40000000
theorem clone46_ev {l : List Int} (hl : l.length ≤ 1000000) : E.F 46 [.ro 1 (l.map (AV.int .i64))] [] = some ((.sl 200000 0 l.length, [(200000, iR l)]), True) := by
  rw [e46]
  simp (maxSteps := 100000000) only [ivc, anf, nilR, salloc, sappend, eq_self, Nat.reduceEqDiff, Nat.reduceLT, Nat.reduceLeDiff, Nat.reduceAdd, Nat.reduceBEq, reduceCtorEq, ↓reduceIte, tyb, iR]
  by_cases h0 : l.length = 0
  · have e : l = [] := List.eq_nil_of_length_eq_zero h0
    subst e
    simp
  · rw [if_neg h0]
    exact some_true (by omega)
theorem clone45_ev {l : List (List Et)} (hl : l.length ≤ 1000000) : E.F 45 [.ro 1 (l.map clV)] [] = some ((.sl 200000 0 l.length, [(200000, ⟨false, 1, l.map clV⟩)]), True) := by
  rw [e45]
  simp (maxSteps := 100000000) only [ivc, anf, nilR, salloc, sappend, eq_self, Nat.reduceEqDiff, Nat.reduceLT, Nat.reduceLeDiff, Nat.reduceAdd, Nat.reduceBEq, reduceCtorEq, ↓reduceIte, tyb]
  by_cases h0 : l.length = 0
  · have e : l = [] := List.eq_nil_of_length_eq_zero h0
    subst e
    simp
  · rw [if_neg h0]
    exact some_true (by omega)
theorem w49 {out : List Int} {c : Int} {e : Et} (he : 0 ≤ e.s ∧ e.s < out.length) : E.F 49 [enV e, .rop (.ro 1 (out.map (AV.int .i64))) 0, .rop (.int .i64 c) 0] [] = some ((.bool (colAt out e.s == c), []), True) := by
  have q : (0 ≤ e.s ∧ e.s < out.length) = True := eq_true he
  have g : (out.map (AV.int .i64)).getD e.s.toNat .junk = .int .i64 (colAt out e.s) := getI (by omega)
  rw [e49]
  simp (maxSteps := 100000000) only [ivc, anf, vop, nilR, salloc, eq_self, Nat.reduceEqDiff, Nat.reduceLT, Nat.reduceLeDiff, Nat.reduceAdd, Nat.reduceBEq, reduceCtorEq, ↓reduceIte, tyb, enV, q, g]
theorem idx81_loop {l : List Et} {out : List Int} {c : Int} (hl : l.length ≤ 1000000) (ho : ∀ e ∈ l, 0 ≤ e.s ∧ e.s < out.length) : ∀ (r m : List Et), l = m ++ r →
    ∃ v e : Int, E.L 81 3 [.ro 2 (l.map enV), .fn (Fn.func 49) [] [.rop (.ro 1 (out.map (AV.int .i64))) 0, .rop (.int .i64 c) 0], .int .i64 0, .int .i64 l.length, .int .i64 m.length] [] = some ((if r.any (fun e => colAt out e.s == c) then .ret else .exit 0, [.ro 2 (l.map enV), .fn (Fn.func 49) [] [.rop (.ro 1 (out.map (AV.int .i64))) 0, .rop (.int .i64 c) 0], .int .i64 v, .int .i64 l.length, .int .i64 e], []), True) ∧ 0 ≤ v := by
  intro r
  induction r with
  | nil =>
    intro m h
    rw [List.append_nil] at h
    subst h
    refine ⟨0, l.length, ?_, by omega⟩
    rw [l81_3]
    simp (maxSteps := 100000000) only [ivc, anf, nilR, eq_self, Nat.reduceEqDiff, Nat.reduceLT, Nat.reduceBEq, reduceCtorEq, ↓reduceIte, tyb, Int.lt_irrefl, List.any_nil]
  | cons x r ih =>
    intro m h
    have hn : m.length + (r.length + 1) = l.length := by rw [h]; simp
    have hi' : (m.length : Int) < l.length := by omega
    have hg := getD_map (f := enV) (show l[m.length]? = some x by rw [h]; simp)
    have hw : IntKind.i64.wrap ((m.length : Int) + 1) = m.length + 1 := wrap_id (by omega) (by omega)
    have hc : (0 ≤ (m.length : Int)) = True := eq_true (by omega)
    have hb := w49 (c := c) (ho x (by rw [h]; simp))
    by_cases hx : (colAt out x.s == c) = true
    · refine ⟨m.length, m.length, ?_, by omega⟩
      rw [hx] at hb
      simp only [enV] at hb
      rw [l81_3]
      simp (maxSteps := 100000000) only [ivc, anf, nilR, eq_self, Nat.reduceEqDiff, Nat.reduceLT, Nat.reduceLeDiff, Nat.reduceAdd, Nat.reduceMul, Nat.reduceBEq, reduceCtorEq, ↓reduceIte, tyb, enV, hi', hg, hc, hb, List.any_cons, hx]
    · obtain ⟨v, e, ih', hv⟩ := ih (m ++ [x]) (by simp [h])
      refine ⟨v, e, ?_, hv⟩
      simp only [List.length_append, List.length_cons, List.length_nil, Nat.zero_add, Int.natCast_add, Int.cast_ofNat_Int] at ih'
      have hx' : (colAt out x.s == c) = false := by simpa using hx
      rw [hx'] at hb
      simp only [enV] at hb
      rw [l81_3]
      simp (maxSteps := 100000000) only [ivc, anf, nilR, eq_self, Nat.reduceEqDiff, Nat.reduceLT, Nat.reduceLeDiff, Nat.reduceAdd, Nat.reduceMul, Nat.reduceBEq, reduceCtorEq, ↓reduceIte, tyb, enV, hi', hg, hw, hc, hb, ih', List.any_cons, hx']
theorem any48_ev {l : List Et} {out : List Int} {c : Int} (hl : l.length ≤ 1000000) (ho : ∀ e ∈ l, 0 ≤ e.s ∧ e.s < out.length) : E.F 48 [.ro 2 (l.map enV), .fn (Fn.func 49) [] [.rop (.ro 1 (out.map (AV.int .i64))) 0, .rop (.int .i64 c) 0]] [] = some ((.bool (l.any fun e => colAt out e.s == c), []), True) := by
  obtain ⟨v, e, h, hv⟩ := idx81_loop (c := c) hl ho l [] rfl
  simp only [List.length_nil, Int.natCast_zero] at h
  have hv' : (decide (0 ≤ v)) = true := by simpa using hv
  rw [e48]
  by_cases ha : l.any (fun e => colAt out e.s == c) = true
  · rw [ha]
    simp only [ha, if_true] at h
    simp (maxSteps := 100000000) only [ivc, anf, vlen, vbuiltin, nilR, eq_self, Nat.reduceEqDiff, Nat.reduceLT, Nat.reduceLeDiff, Nat.reduceAdd, Nat.reduceBEq, Int.reduceNeg, reduceCtorEq, ↓reduceIte, tyb, e81, h, hv']
  · have ha' : l.any (fun e => colAt out e.s == c) = false := by simpa using ha
    rw [ha']
    simp only [ha', Bool.false_eq_true, if_false] at h
    simp (maxSteps := 100000000) only [ivc, anf, vlen, vbuiltin, nilR, eq_self, Nat.reduceEqDiff, Nat.reduceLT, Nat.reduceLeDiff, Nat.reduceAdd, Nat.reduceBEq, Int.reduceLE, Int.reduceNeg, reduceCtorEq, ↓reduceIte, tyb, e81, h]
end Go.Proofs.YtikppcfabnnhfaaDoor

/- Plain: sets of numbers. -/
namespace Go.Proofs.YtikppcfabnnhfaaDoor
open Go Go.Aw
set_option linter.unusedSimpArgs false
set_option linter.unusedVariables false
def u64r (x : Int) : Prop := 0 ≤ x ∧ x < 18446744073709551616
theorem ofNat_u64 {x : Nat} (h : x < 18446744073709551616) : (BitVec.ofInt IntKind.u64.bits (x : Int)).toNat = x := by
  rw [BitVec.toNat_ofInt]
  show ((x : Int) % ((2 ^ 64 : Nat) : Int)).toNat = x
  rw [Int.emod_eq_of_lt (by omega) (by omega)]
  rfl
theorem and_nat {x y : Nat} (hx : x < 18446744073709551616) (hy : y < 18446744073709551616) : bitsI .and .u64 x y = ((x &&& y : Nat) : Int) := by
  unfold bitsI
  simp only
  rw [BitVec.toNat_and, ofNat_u64 hx, ofNat_u64 hy]
  have h : x &&& y ≤ y := Nat.and_le_right
  show ((x &&& y : Nat) : Int) % 18446744073709551616 = _
  exact Int.emod_eq_of_lt (by omega) (by omega)
theorem or_nat {x y : Nat} (hx : x < 18446744073709551616) (hy : y < 18446744073709551616) : bitsI .or .u64 x y = ((x ||| y : Nat) : Int) := by
  unfold bitsI
  simp only
  rw [BitVec.toNat_or, ofNat_u64 hx, ofNat_u64 hy]
  have h : x ||| y < 2 ^ 64 := Nat.or_lt_two_pow hx hy
  show ((x ||| y : Nat) : Int) % 18446744073709551616 = _
  exact Int.emod_eq_of_lt (by omega) (by omega)
theorem bitW_nat {x : Nat} {j : Int} (hx : x < 18446744073709551616) (h0 : 0 ≤ j) (h1 : j < 64) : bitW x j = x.testBit j.toNat := by
  unfold bitW
  have e1 : min j.toNat IntKind.u64.bits = j.toNat := Nat.min_eq_left (show j.toNat ≤ 64 by omega)
  have e2 : ((x : Int)).fdiv (2 ^ j.toNat) = ((x / 2 ^ j.toNat : Nat) : Int) := by
    rw [Int.fdiv_eq_ediv_of_nonneg _ (Int.le_of_lt (Int.pow_pos (by omega)))]
    simp
  have e3 : x / 2 ^ j.toNat ≤ x := Nat.div_le_self _ _
  rw [e1, e2, show (1 : Int) = ((1 : Nat) : Int) from rfl, and_nat (by omega) (by omega), Nat.and_one_is_mod, Nat.testBit_eq_decide_div_mod_eq]
  rw [Bool.eq_iff_iff, beq_iff_eq, decide_eq_true_eq]
  omega
theorem orW_nat {x : Nat} {j : Int} (hx : x < 18446744073709551616) (h0 : 0 ≤ j) (h1 : j < 64) : orW x j = ((x ||| 2 ^ j.toNat : Nat) : Int) := by
  unfold orW
  have e1 : min j.toNat IntKind.u64.bits = j.toNat := Nat.min_eq_left (show j.toNat ≤ 64 by omega)
  have e4 : (2 : Nat) ^ j.toNat < 2 ^ 64 := Nat.pow_lt_pow_right (by omega) (by omega)
  have e2 : IntKind.u64.wrap (1 * 2 ^ j.toNat) = ((2 ^ j.toNat : Nat) : Int) := by
    show (1 * (2 : Int) ^ j.toNat) % 18446744073709551616 = _
    rw [Int.one_mul]
    have : ((2 : Int) ^ j.toNat) = ((2 ^ j.toNat : Nat) : Int) := by simp
    rw [this]
    generalize 2 ^ j.toNat = p at e4
    exact Int.emod_eq_of_lt (by omega) (by omega)
  rw [e1, e2, or_nat hx e4]
theorem u64nat {x : Int} (h : u64r x) : ∃ n : Nat, x = n ∧ n < 18446744073709551616 := ⟨x.toNat, by have := h.1; omega, by have := h.1; have := h.2; omega⟩
theorem orW_r {x j : Int} (h : u64r x) (h0 : 0 ≤ j) (h1 : j < 64) : u64r (orW x j) := by
  obtain ⟨n, rfl, hn⟩ := u64nat h
  rw [orW_nat hn h0 h1]
  have e4 : (2 : Nat) ^ j.toNat < 2 ^ 64 := Nat.pow_lt_pow_right (by omega) (by omega)
  have : n ||| 2 ^ j.toNat < 2 ^ 64 := Nat.or_lt_two_pow hn e4
  exact ⟨by omega, by omega⟩
theorem bit_or {x j i : Int} (h : u64r x) (h0 : 0 ≤ j) (h1 : j < 64) (h2 : 0 ≤ i) (h3 : i < 64) : bitW (orW x j) i = (bitW x i || decide (j = i)) := by
  obtain ⟨n, rfl, hn⟩ := u64nat h
  have hr := orW_r h h0 h1
  rw [orW_nat hn h0 h1] at hr ⊢
  rw [bitW_nat (by have := hr.2; omega) h2 h3, bitW_nat hn h2 h3, Nat.testBit_or, Nat.testBit_two_pow]
  congr 1
  by_cases e : j = i
  · subst e; simp
  · have : j.toNat ≠ i.toNat := by omega
    simp [this, e]
def allR (l : List Int) : Prop := ∀ x ∈ l, u64r x
theorem allR_getD {l : List Int} (h : allR l) (i : Nat) : u64r (l.getD i 0) := by
  rw [List.getD_eq_getElem?_getD]
  cases e : l[i]? with
  | none => exact ⟨by simp, by simp⟩
  | some x => exact h x (List.mem_of_getElem? e)
theorem addW_r {l : List Int} {c : Nat} {n : Int} (h : allR l) : allR (addW l c n) := by
  intro x hx
  unfold addW at hx
  rcases List.mem_or_eq_of_mem_set hx with hx | hx
  · exact h x hx
  · subst hx
    exact orW_r (allR_getD h _) (by omega) (by omega)
theorem zs_r (n : Nat) : allR (zs n) := fun x hx => by
  have := List.eq_of_mem_replicate hx
  subst this
  exact ⟨by omega, by omega⟩
/-- Add, then ask. Rows begin at places that are multiples of 8. -/
theorem has_add {l : List Int} {a b : Nat} {n m : Int} (h : allR l) (ha : 8 * a + 8 ≤ l.length) (hn : 0 ≤ n ∧ n < 512) (hm : 0 ≤ m ∧ m < 512) :
    hasW (addW l (8 * a) n) (8 * b) m = (hasW l (8 * b) m || decide (a = b ∧ n = m)) := by
  unfold hasW addW
  by_cases e : 8 * a + (n / 64).toNat = 8 * b + (m / 64).toNat
  · have e1 : a = b := by omega
    have e2 : n / 64 = m / 64 := by omega
    have e3 : (l.set (8 * a + (n / 64).toNat) (orW (l.getD (8 * a + (n / 64).toNat) 0) (n % 64))).getD (8 * b + (m / 64).toNat) 0 = orW (l.getD (8 * a + (n / 64).toNat) 0) (n % 64) := by
      rw [e, List.getD_eq_getElem?_getD, List.getElem?_set]
      have : 8 * b + (m / 64).toNat < l.length := by omega
      simp [this]
    rw [e3, bit_or (allR_getD h _) (by omega) (by omega) (by omega) (by omega), e]
    congr 1
    rw [Bool.eq_iff_iff, decide_eq_true_eq, decide_eq_true_eq]
    omega
  · have e3 : (l.set (8 * a + (n / 64).toNat) (orW (l.getD (8 * a + (n / 64).toNat) 0) (n % 64))).getD (8 * b + (m / 64).toNat) 0 = l.getD (8 * b + (m / 64).toNat) 0 := by
      rw [List.getD_eq_getElem?_getD, List.getElem?_set, if_neg e, ← List.getD_eq_getElem?_getD]
    rw [e3]
    have : ¬ (a = b ∧ n = m) := by
      rintro ⟨rfl, rfl⟩
      exact e rfl
    simp [this]
theorem has_zs {n b : Nat} {m : Int} (hm : 0 ≤ m) : hasW (zs n) b m = false := by
  unfold hasW
  have : (zs n).getD (b + (m / 64).toNat) 0 = 0 := by
    rw [List.getD_eq_getElem?_getD, zs, List.getElem?_replicate]
    split <;> rfl
  rw [this, show (0 : Int) = ((0 : Nat) : Int) from rfl, bitW_nat (by omega) (by omega) (by omega)]
  simp
end Go.Proofs.YtikppcfabnnhfaaDoor

/- Plain: the graph. -/
namespace Go.Proofs.YtikppcfabnnhfaaDoor
open Go Go.Aw
set_option linter.unusedSimpArgs false
set_option linter.unusedVariables false
def gok (g : List Int) : Prop := g.length = 4008 ∧ allR g
theorem gok_add {g : List Int} {c : Nat} {n : Int} (h : gok g) : gok (addW g c n) := ⟨by rw [addW_len]; exact h.1, addW_r h.2⟩
theorem nb_eq (s : Int) : 8 + s.toNat * 8 = 8 * (s.toNat + 1) := by omega
theorem nb_eq' (s : Int) : nb s = 8 * (s.toNat + 1) := by unfold nb; omega
def selN (s : Int) : Prop := 0 ≤ s ∧ s < 500
theorem near_add {g : List Int} {s n a b : Int} (h : gok g) (hs : selN s) (hn : selN n) (ha : selN a) (hb : selN b) : hasW (addW g (8 + s.toNat * 8) n) (nb a) b = (hasW g (nb a) b || decide (s = a ∧ n = b)) := by
  rw [nb_eq, nb_eq', has_add h.2 (by have := h.1; have := hs.2; omega) ⟨hn.1, by have := hn.2; omega⟩ ⟨hb.1, by have := hb.2; omega⟩]
  congr 1
  rw [Bool.eq_iff_iff, decide_eq_true_eq, decide_eq_true_eq]
  have := hs.1; have := ha.1
  omega
theorem near_known {g : List Int} {n a b : Int} (h : gok g) (hn : selN n) (ha : selN a) (hb : selN b) : hasW (addW g 0 n) (nb a) b = hasW g (nb a) b := by
  rw [show (0 : Nat) = 8 * 0 from rfl, nb_eq', has_add h.2 (by have := h.1; omega) ⟨hn.1, by have := hn.2; omega⟩ ⟨hb.1, by have := hb.2; omega⟩]
  simp
theorem known_add {g : List Int} {n m : Int} (h : gok g) (hn : selN n) (hm : 0 ≤ m ∧ m < 512) : hasW (addW g 0 n) 0 m = (hasW g 0 m || decide (n = m)) := by
  have e := has_add (a := 0) (b := 0) (n := n) (m := m) h.2 (by have := h.1; omega) ⟨hn.1, by have := hn.2; omega⟩ hm
  rw [show 8 * 0 = 0 from rfl] at e
  rw [e]
  simp
theorem known_near {g : List Int} {s n m : Int} (h : gok g) (hs : selN s) (hn : selN n) (hm : 0 ≤ m ∧ m < 512) : hasW (addW g (8 + s.toNat * 8) n) 0 m = hasW g 0 m := by
  have e := has_add (a := s.toNat + 1) (b := 0) (n := n) (m := m) h.2 (by have := h.1; have := hs.2; omega) ⟨hn.1, by have := hn.2; omega⟩ hm
  rw [show 8 * 0 = 0 from rfl, ← nb_eq] at e
  rw [e]
  simp
theorem gok_pair {g : List Int} {x y : Et} (h : gok g) : gok (pairM g x y) := gok_add (gok_add h)
theorem near_pair {g : List Int} {x y : Et} {a b : Int} (h : gok g) (hx : selN x.s) (hy : selN y.s) (ha : selN a) (hb : selN b) : hasW (pairM g x y) (nb a) b = true ↔ hasW g (nb a) b = true ∨ (x.s = a ∧ y.s = b) ∨ (y.s = a ∧ x.s = b) := by
  unfold pairM
  rw [near_add (gok_add h) hy hx ha hb, near_add h hx hy ha hb, Bool.or_eq_true, Bool.or_eq_true, decide_eq_true_eq, decide_eq_true_eq, or_assoc]
theorem known_pair {g : List Int} {x y : Et} {m : Int} (h : gok g) (hx : selN x.s) (hy : selN y.s) (hm : 0 ≤ m ∧ m < 512) : hasW (pairM g x y) 0 m = hasW g 0 m := by
  unfold pairM
  rw [known_near (gok_add h) hy hx hm, known_near h hx hy hm]
theorem gok_pairs {x : Et} : ∀ {p : List Et} {g : List Int}, gok g → gok (p.foldl (pairM · x ·) g)
  | [], _, h => h
  | _ :: p, _, h => gok_pairs (p := p) (gok_pair h)
theorem near_pairs {x : Et} {a b : Int} (hx : selN x.s) (ha : selN a) (hb : selN b) : ∀ {p : List Et} {g : List Int}, gok g → (∀ y ∈ p, selN y.s) → (hasW (p.foldl (pairM · x ·) g) (nb a) b = true ↔ hasW g (nb a) b = true ∨ ∃ y ∈ p, (x.s = a ∧ y.s = b) ∨ (y.s = a ∧ x.s = b))
  | [], g, h, _ => by simp
  | y :: p, g, h, hp => by
    rw [List.foldl_cons, near_pairs hx ha hb (gok_pair h) (fun z hz => hp z (by simp [hz])), near_pair h hx (hp y (by simp)) ha hb, or_assoc]
    simp only [List.mem_cons, exists_eq_or_imp]
theorem known_pairs {x : Et} {m : Int} (hx : selN x.s) (hm : 0 ≤ m ∧ m < 512) : ∀ {p : List Et} {g : List Int}, gok g → (∀ y ∈ p, selN y.s) → hasW (p.foldl (pairM · x ·) g) 0 m = hasW g 0 m
  | [], g, h, _ => rfl
  | y :: p, g, h, hp => by
    rw [List.foldl_cons, known_pairs hx hm (gok_pair h) (fun z hz => hp z (by simp [hz])), known_pair h hx (hp y (by simp)) hm]
theorem gok_ents : ∀ {r p : List Et} {g : List Int}, gok g → gok (entsM p r g)
  | [], _, _, h => h
  | _ :: r, _, _, h => gok_ents (r := r) (gok_pairs (gok_add h))
theorem known_ents {m : Int} (hm : 0 ≤ m ∧ m < 512) : ∀ {r p : List Et} {g : List Int}, gok g → (∀ y ∈ p, selN y.s) → (∀ y ∈ r, selN y.s) → (hasW (entsM p r g) 0 m = true ↔ hasW g 0 m = true ∨ ∃ y ∈ r, y.s = m)
  | [], p, g, h, _, _ => by simp [entsM]
  | x :: r, p, g, h, hp, hr => by
    have hx := hr x (by simp)
    rw [entsM, known_ents hm (gok_pairs (gok_add h)) (fun y hy => by rcases List.mem_append.1 hy with hy | hy; exact hp y hy; rw [List.mem_singleton] at hy; exact hy ▸ hx) (fun y hy => hr y (by simp [hy])), known_pairs hx hm (gok_add h) hp, known_add h hx hm, Bool.or_eq_true, decide_eq_true_eq, or_assoc]
    simp only [List.mem_cons, exists_eq_or_imp]
/-- Two selectors of one list, of which the first ones were looked at. -/
theorem near_ents {a b : Int} (ha : selN a) (hb : selN b) : ∀ {r p : List Et} {g : List Int}, gok g → (∀ y ∈ p, selN y.s) → (∀ y ∈ r, selN y.s) → ((p ++ r).map Et.s).Nodup →
    (hasW (entsM p r g) (nb a) b = true ↔ hasW g (nb a) b = true ∨ (a ≠ b ∧ ∃ x ∈ p ++ r, ∃ y ∈ p ++ r, x.s = a ∧ y.s = b ∧ (x ∈ r ∨ y ∈ r)))
  | [], p, g, h, _, _, _ => by simp [entsM]
  | x :: r, p, g, h, hp, hr, hnd => by
    have hx := hr x (by simp)
    have e : (p ++ [x]) ++ r = p ++ x :: r := by simp
    rw [entsM, near_ents ha hb (gok_pairs (gok_add h)) (fun y hy => by rcases List.mem_append.1 hy with hy | hy; exact hp y hy; rw [List.mem_singleton] at hy; exact hy ▸ hx) (fun y hy => hr y (by simp [hy])) (by rw [e]; exact hnd), near_pairs hx ha hb (gok_add h) hp, near_known h hx ha hb, e, or_assoc]
    have hne : ∀ y ∈ p, y.s ≠ x.s := fun y hy he => by
      rw [List.map_append, List.nodup_append] at hnd
      exact hnd.2.2 y.s (List.mem_map.2 ⟨y, hy, rfl⟩) x.s (by simp) he
    refine or_congr_right ?_
    constructor
    · rintro (⟨y, hy, h1⟩ | ⟨hab, u, hu, v, hv, h1, h2, h3⟩)
      · have hny := hne y hy
        rcases h1 with ⟨rfl, rfl⟩ | ⟨rfl, rfl⟩
        · exact ⟨fun he => hny he.symm, x, by simp, y, by simp [hy], rfl, rfl, .inl (by simp)⟩
        · exact ⟨hny, y, by simp [hy], x, by simp, rfl, rfl, .inr (by simp)⟩
      · exact ⟨hab, u, hu, v, hv, h1, h2, h3.imp (fun h => by simp [h]) (fun h => by simp [h])⟩
    · rintro ⟨hab, u, hu, v, hv, rfl, rfl, h3⟩
      by_cases c1 : u ∈ r ∨ v ∈ r
      · exact .inr ⟨hab, u, hu, v, hv, rfl, rfl, c1⟩
      · have c2 : u ∉ r := fun h => c1 (.inl h)
        have c3 : v ∉ r := fun h => c1 (.inr h)
        have d1 : u = x ∨ u ∈ p := by
          rcases List.mem_append.1 hu with h | h
          · exact .inr h
          · rcases List.mem_cons.1 h with h | h
            · exact .inl h
            · exact absurd h c2
        have d2 : v = x ∨ v ∈ p := by
          rcases List.mem_append.1 hv with h | h
          · exact .inr h
          · rcases List.mem_cons.1 h with h | h
            · exact .inl h
            · exact absurd h c3
        have d3 : u = x ∨ v = x := by
          rcases h3 with h | h
          · rcases List.mem_cons.1 h with h | h
            · exact .inl h
            · exact absurd h c2
          · rcases List.mem_cons.1 h with h | h
            · exact .inr h
            · exact absurd h c3
        left
        rcases d3 with h | h
        · subst h
          rcases d2 with h | h
          · exact absurd (by rw [h]) hab
          · exact ⟨v, h, .inl ⟨rfl, rfl⟩⟩
        · subst h
          rcases d1 with h | h
          · exact absurd (by rw [h]) hab
          · exact ⟨u, h, .inr ⟨rfl, rfl⟩⟩
theorem near_class {c : List Et} {g : List Int} {a b : Int} (ha : selN a) (hb : selN b) (h : gok g) (hc : ∀ y ∈ c, selN y.s) (hnd : (c.map Et.s).Nodup) :
    hasW (entsM [] c g) (nb a) b = true ↔ hasW g (nb a) b = true ∨ (a ≠ b ∧ a ∈ c.map Et.s ∧ b ∈ c.map Et.s) := by
  rw [near_ents (p := []) ha hb h (fun y hy => by cases hy) hc hnd]
  refine or_congr_right (and_congr_right fun _ => ?_)
  simp only [List.nil_append, List.mem_map]
  constructor
  · rintro ⟨x, hx, y, hy, h1, h2, _⟩
    exact ⟨⟨x, hx, h1⟩, ⟨y, hy, h2⟩⟩
  · rintro ⟨⟨x, hx, h1⟩, ⟨y, hy, h2⟩⟩
    exact ⟨x, hx, y, hy, h1, h2, .inl hx⟩
theorem gok_zs : gok (zs 4008) := ⟨zs_len 4008, zs_r 4008⟩
/-- The classes' lists, as they are behind a check. -/
def clsok (cs : List (List Et)) : Prop := ∀ c ∈ cs, (∀ y ∈ c, selN y.s) ∧ (c.map Et.s).Nodup
theorem known_graph {m : Int} (hm : 0 ≤ m ∧ m < 512) : ∀ {cs : List (List Et)} {g : List Int}, gok g → clsok cs → (hasW (graphM cs g) 0 m = true ↔ hasW g 0 m = true ∨ ∃ c ∈ cs, m ∈ c.map Et.s)
  | [], g, h, _ => by simp [graphM]
  | c :: cs, g, h, hc => by
    have := known_graph hm (cs := cs) (gok_ents (r := c) (p := []) h) (fun d hd => hc d (by simp [hd]))
    simp only [graphM, List.foldl_cons] at this ⊢
    rw [this, known_ents hm h (fun y hy => by cases hy) (hc c (by simp)).1, or_assoc]
    simp only [List.mem_cons, exists_eq_or_imp, List.mem_map]
theorem near_graph {a b : Int} (ha : selN a) (hb : selN b) : ∀ {cs : List (List Et)} {g : List Int}, gok g → clsok cs → (hasW (graphM cs g) (nb a) b = true ↔ hasW g (nb a) b = true ∨ ∃ c ∈ cs, a ≠ b ∧ a ∈ c.map Et.s ∧ b ∈ c.map Et.s)
  | [], g, h, _ => by simp [graphM]
  | c :: cs, g, h, hc => by
    have := near_graph ha hb (cs := cs) (gok_ents (r := c) (p := []) h) (fun d hd => hc d (by simp [hd]))
    simp only [graphM, List.foldl_cons] at this ⊢
    rw [this, near_class ha hb h (hc c (by simp)).1 (hc c (by simp)).2, or_assoc]
    simp only [List.mem_cons, exists_eq_or_imp]
/-- **Which selectors are understood.** -/
theorem known5W {w : Wd} {m : Int} (hm : 0 ≤ m ∧ m < 512) (hc : clsok w.classes) : hasW (graphW w) 0 m = true ↔ ∃ c ∈ w.classes, m ∈ c.map Et.s := by
  rw [graphW, known_graph hm gok_zs hc, has_zs hm.1]
  simp
theorem knownW {w : Wd} {m : Int} (hm : selN m) (hc : clsok w.classes) : hasW (graphW w) 0 m = true ↔ ∃ c ∈ w.classes, m ∈ c.map Et.s := known5W ⟨hm.1, by have := hm.2; omega⟩ hc
/-- **Which selectors conflict.** -/
theorem nearW {w : Wd} {a b : Int} (ha : selN a) (hb : selN b) (hc : clsok w.classes) : hasW (graphW w) (nb a) b = true ↔ a ≠ b ∧ ∃ c ∈ w.classes, a ∈ c.map Et.s ∧ b ∈ c.map Et.s := by
  rw [graphW, near_graph ha hb gok_zs hc, has_zs hb.1]
  constructor
  · rintro (h | ⟨c, hc, h1, h2, h3⟩)
    · cases h
    · exact ⟨h1, c, hc, h2, h3⟩
  · rintro ⟨h1, c, hc, h2, h3⟩
    exact .inr ⟨c, hc, h1, h2, h3⟩
end Go.Proofs.YtikppcfabnnhfaaDoor

/- Plain: a world that is checked. -/
namespace Go.Proofs.YtikppcfabnnhfaaDoor
open Go Go.Aw
set_option linter.unusedSimpArgs false
set_option linter.unusedVariables false
def goodE (nb : Int) (e : Et) : Prop := (0 ≤ e.s ∧ e.s < 500) ∧ 0 ≤ e.m ∧ e.m < nb
theorem badE_iff {nb : Int} {e : Et} : badE nb e = false ↔ goodE nb e := by
  simp only [badE, goodE, Bool.or_eq_false_iff, decide_eq_false_iff_not]
  omega
theorem ckC_some {nb : Int} : ∀ {l : List Et} {q : Int}, ckC nb (some q) l = 0 ↔ (∀ e ∈ l, goodE nb e) ∧ ((q :: l.map Et.s).Pairwise (· < ·))
  | [], q => by simp [ckC]
  | e :: l, q => by
    rw [ckC]
    by_cases h : badE nb e = true
    · rw [if_pos h]
      constructor
      · intro h; cases h
      · rintro ⟨h1, _⟩
        rw [badE_iff.2 (h1 e (by simp))] at h
        cases h
    · have h' : badE nb e = false := by simpa using h
      have hg := badE_iff.1 h'
      rw [if_neg h]
      simp only [decide_eq_true_eq]
      by_cases h2 : e.s ≤ q
      · rw [if_pos h2]
        constructor
        · intro h; cases h
        · rintro ⟨_, h3⟩
          have := (List.pairwise_cons.1 h3).1 e.s (by simp)
          omega
      · rw [if_neg h2, ckC_some]
        constructor
        · rintro ⟨h3, h4⟩
          refine ⟨fun x hx => ?_, ?_⟩
          · rcases List.mem_cons.1 hx with rfl | hx
            · exact hg
            · exact h3 x hx
          · rw [List.map_cons]
            refine List.pairwise_cons.2 ⟨fun x hx => ?_, h4⟩
            rcases List.mem_cons.1 hx with rfl | hx
            · omega
            · have := (List.pairwise_cons.1 h4).1 x hx
              omega
        · rintro ⟨h3, h4⟩
          exact ⟨fun x hx => h3 x (by simp [hx]), (List.pairwise_cons.1 h4).2⟩
theorem ckC_none {nb : Int} {l : List Et} : ckC nb none l = 0 ↔ (∀ e ∈ l, goodE nb e) ∧ ((l.map Et.s).Pairwise (· < ·)) := by
  match l with
  | [] => simp [ckC]
  | e :: l =>
    rw [ckC]
    by_cases h : badE nb e = true
    · rw [if_pos h]
      constructor
      · intro h; cases h
      · rintro ⟨h1, _⟩
        rw [badE_iff.2 (h1 e (by simp))] at h
        cases h
    · have h' : badE nb e = false := by simpa using h
      have hg := badE_iff.1 h'
      rw [if_neg h]
      simp only [Bool.false_eq_true, if_false]
      rw [ckC_some]
      constructor
      · rintro ⟨h3, h4⟩
        refine ⟨fun x hx => ?_, h4⟩
        rcases List.mem_cons.1 hx with rfl | hx
        · exact hg
        · exact h3 x hx
      · rintro ⟨h3, h4⟩
        exact ⟨fun x hx => h3 x (by simp [hx]), h4⟩
theorem ckCs_iff {nb : Int} : ∀ {cs : List (List Et)}, ckCs nb cs = 0 ↔ ∀ c ∈ cs, ckC nb none c = 0
  | [] => by simp [ckCs]
  | c :: cs => by
    rw [ckCs]
    by_cases h : ckC nb none c = 0
    · rw [if_pos h, ckCs_iff]
      simp [h]
    · rw [if_neg h]
      simp [h]
structure Good (w : Wd) : Prop where
  nc : w.classes.length ≤ 200
  nb : w.bodies.length ≤ 500
  nr : w.roots.length ≤ 64
  len : ∀ c ∈ w.classes, c.length ≤ 100
  ent : ∀ c ∈ w.classes, ∀ e ∈ c, goodE w.bodies.length e
  asc : ∀ c ∈ w.classes, (c.map Et.s).Pairwise (· < ·)
  bl : ∀ b ∈ w.bodies, b.ss.length ≤ 100 ∧ b.ms.length ≤ 100 ∧ b.cs.length ≤ 100
  br : ∀ b ∈ w.bodies, (∀ x ∈ b.ss, 0 ≤ x ∧ x < 500) ∧ (∀ x ∈ b.ms, 0 ≤ x ∧ x < w.bodies.length) ∧ (∀ x ∈ b.cs, 0 ≤ x ∧ x < w.classes.length)
  rr : ∀ x ∈ w.roots, 0 ≤ x ∧ x < w.bodies.length
theorem inR_all {n : Int} {l : List Int} : l.all (inR n) = true ↔ ∀ x ∈ l, 0 ≤ x ∧ x < n := by
  rw [List.all_eq_true]
  refine forall_congr' fun x => forall_congr' fun _ => ?_
  simp only [inR, Bool.not_eq_true', Bool.or_eq_false_iff, decide_eq_false_iff_not]
  omega
theorem good_of {w : Wd} (h : ckM w = 0) : Good w := by
  unfold ckM at h
  split at h
  · cases h
  rename_i h1
  split at h
  · cases h
  rename_i h2
  split at h
  · cases h
  rename_i h3
  split at h
  · rename_i h4; exact absurd h h4
  rename_i h4
  split at h
  · cases h
  rename_i h5
  split at h
  case isFalse => cases h
  rename_i h6
  have c1 := ckCs_iff.1 (Classical.not_not.1 h4)
  have h2' : w.classes.any bigC = false := by simpa using h2
  have h3' : w.bodies.any bigB = false := by simpa using h3
  have h5' : w.bodies.any (badB w.bodies.length w.classes.length) = false := by simpa using h5
  refine ⟨by omega, by omega, by omega, fun c hc => ?_, fun c hc => (ckC_none.1 (c1 c hc)).1, fun c hc => (ckC_none.1 (c1 c hc)).2, fun b hb => ?_, fun b hb => ?_, inR_all.1 h6⟩
  · have := List.any_eq_false.1 h2' c hc
    simp only [bigC, decide_eq_true_eq] at this
    omega
  · have := List.any_eq_false.1 h3' b hb
    simp only [bigB, Bool.or_eq_true, decide_eq_true_eq] at this
    omega
  · have := List.any_eq_false.1 h5' b hb
    simp only [badB, Bool.or_eq_true, Bool.not_eq_true', not_or, Bool.not_eq_false] at this
    exact ⟨inR_all.1 this.1.1, inR_all.1 this.1.2, inR_all.1 this.2⟩
theorem okW_of {w : Wd} (h : ckM w = 0) : okW w := by
  have g := good_of h
  exact ⟨g.nc, fun c hc => ⟨g.len c hc, fun e he => (g.ent c hc e he).1⟩⟩
theorem pw_nodup {l : List Int} (h : l.Pairwise (· < ·)) : l.Nodup := h.imp (fun h e => by omega)
theorem clsok_of {w : Wd} (g : Good w) : clsok w.classes := fun c hc => ⟨fun e he => (g.ent c hc e he).1, pw_nodup (g.asc c hc)⟩
end Go.Proofs.YtikppcfabnnhfaaDoor

/- Contains, fits. -/
namespace Go.Proofs.YtikppcfabnnhfaaDoor
open Go Go.Aw
set_option linter.unusedSimpArgs false
set_option linter.unusedVariables false
set_option maxRecDepth 100000
set_option maxHeartbeats 40000000
theorem index_loop {l : List Int} {x : Int} (hl : l.length ≤ 1000000) : ∀ (r m : List Int), l = m ++ r →
    ∃ v e : Int, E.L 84 3 [.ro 1 (l.map (AV.int .i64)), .int .i64 x, .int .i64 0, .int .i64 l.length, .int .i64 m.length] [] = some ((if r.contains x then .ret else .exit 0, [.ro 1 (l.map (AV.int .i64)), .int .i64 x, .int .i64 v, .int .i64 l.length, .int .i64 e], []), True) ∧ 0 ≤ v := by
  intro r
  induction r with
  | nil =>
    intro m h
    rw [List.append_nil] at h
    subst h
    refine ⟨0, l.length, ?_, by omega⟩
    rw [l84_3]
    simp (maxSteps := 100000000) only [ivc, anf, nilR, eq_self, Nat.reduceEqDiff, Nat.reduceLT, Nat.reduceBEq, reduceCtorEq, ↓reduceIte, tyb, Int.lt_irrefl, List.contains_nil]
  | cons y r ih =>
    intro m h
    have hn : m.length + (r.length + 1) = l.length := by rw [h]; simp
    have hi' : (m.length : Int) < l.length := by omega
    have hg := getD_map (f := AV.int .i64) (show l[m.length]? = some y by rw [h]; simp)
    have hw : IntKind.i64.wrap ((m.length : Int) + 1) = m.length + 1 := wrap_id (by omega) (by omega)
    have hc : (0 ≤ (m.length : Int)) = True := eq_true (by omega)
    by_cases hx : x = y
    · have hx' : (x == y) = true := by simp [hx]
      have hcc : (y :: r).contains x = true := by simp [hx]
      refine ⟨m.length, m.length, ?_, by omega⟩
      rw [hcc, l84_3]
      simp (maxSteps := 100000000) only [ivc, anf, nilR, eq_self, Nat.reduceEqDiff, Nat.reduceLT, Nat.reduceBEq, reduceCtorEq, ↓reduceIte, tyb, hi', hg, hc, hx']
    · have hx' : (x == y) = false := by simp [hx]
      have hcc : (y :: r).contains x = r.contains x := by simp [hx]
      obtain ⟨v, e, ih', hv⟩ := ih (m ++ [y]) (by simp [h])
      refine ⟨v, e, ?_, hv⟩
      simp only [List.length_append, List.length_cons, List.length_nil, Nat.zero_add, Int.natCast_add, Int.cast_ofNat_Int] at ih'
      rw [hcc, l84_3]
      simp (maxSteps := 100000000) only [ivc, anf, nilR, eq_self, Nat.reduceEqDiff, Nat.reduceLT, Nat.reduceBEq, reduceCtorEq, ↓reduceIte, tyb, hi', hg, hw, hc, hx', ih']
theorem contains_ev {l : List Int} {x : Int} (hl : l.length ≤ 1000000) : E.F 58 [.ro 1 (l.map (AV.int .i64)), .int .i64 x] [] = some ((.bool (l.contains x), []), True) := by
  obtain ⟨v, e, h, hv⟩ := index_loop (x := x) hl l [] rfl
  simp only [List.length_nil, Int.natCast_zero] at h
  have hv' : (decide (0 ≤ v)) = true := by simpa using hv
  rw [e58]
  by_cases ha : l.contains x = true
  · rw [ha]
    simp only [ha, if_true] at h
    simp (maxSteps := 100000000) only [ivc, anf, vlen, vbuiltin, nilR, eq_self, Nat.reduceEqDiff, Nat.reduceLT, Nat.reduceLeDiff, Nat.reduceAdd, Nat.reduceBEq, Int.reduceNeg, reduceCtorEq, ↓reduceIte, tyb, e84, h, hv']
  · have ha' : l.contains x = false := by simpa using ha
    rw [ha']
    simp only [ha', Bool.false_eq_true, if_false] at h
    simp (maxSteps := 100000000) only [ivc, anf, vlen, vbuiltin, nilR, eq_self, Nat.reduceEqDiff, Nat.reduceLT, Nat.reduceLeDiff, Nat.reduceAdd, Nat.reduceBEq, Int.reduceLE, Int.reduceNeg, reduceCtorEq, ↓reduceIte, tyb, e84, h]
def fitL (vec : List Et) : List Et → Int → Bool
  | [], _ => true
  | s :: r, p => if 0 ≤ s.s ∧ p < vec.length ∧ 0 ≤ (vec.getD p.toNat ⟨0, 0⟩).s then false else fitL vec r (p + 1)
theorem fits_loop {vec t : List Et} {at0 : Int} (ha : 0 ≤ at0) (hal : at0 ≤ 1000000) (hl : t.length ≤ 1000000) (hv : vec.length ≤ 1000000) : ∀ (r m : List Et), t = m ++ r →
    ∃ e : Int, E.L 57 3 [.int .i64 at0, .rop (.ro 2 (vec.map enV)) 0, .bool false, .ro 2 (t.map enV), .int .i64 t.length, .int .i64 m.length] [] = some ((if fitL vec r (at0 + m.length) then .exit 0 else .ret, [.int .i64 at0, .rop (.ro 2 (vec.map enV)) 0, .bool false, .ro 2 (t.map enV), .int .i64 t.length, .int .i64 e], []), True) := by
  intro r
  induction r with
  | nil =>
    intro m h
    rw [List.append_nil] at h
    subst h
    refine ⟨t.length, ?_⟩
    rw [l57_3]
    simp (maxSteps := 100000000) only [ivc, anf, nilR, eq_self, Nat.reduceEqDiff, Nat.reduceLT, Nat.reduceBEq, reduceCtorEq, ↓reduceIte, tyb, Int.lt_irrefl, fitL]
  | cons s r ih =>
    intro m h
    have hn : m.length + (r.length + 1) = t.length := by rw [h]; simp
    have hi' : (m.length : Int) < t.length := by omega
    have hg := getD_map (f := enV) (show t[m.length]? = some s by rw [h]; simp)
    have hw : IntKind.i64.wrap ((m.length : Int) + 1) = m.length + 1 := wrap_id (by omega) (by omega)
    have hw2 : IntKind.i64.wrap (at0 + m.length) = at0 + m.length := wrap_id (by omega) (by omega)
    have hc : (0 ≤ (m.length : Int)) = True := eq_true (by omega)
    have hc2 : (0 ≤ at0 + (m.length : Int)) = True := eq_true (by omega)
    by_cases h1 : 0 ≤ s.s
    · by_cases h2 : at0 + (m.length : Int) < vec.length
      · have gv : (vec.map enV).getD (at0 + (m.length : Int)).toNat .junk = .agg [.int .i64 (vec.getD (at0 + (m.length : Int)).toNat ⟨0, 0⟩).s, .int .i64 (vec.getD (at0 + (m.length : Int)).toNat ⟨0, 0⟩).m] := by
          have : (at0 + (m.length : Int)).toNat < vec.length := by omega
          simp [List.getD_eq_getElem?_getD, List.getElem?_eq_getElem this, enV]
        by_cases h3 : 0 ≤ (vec.getD (at0 + (m.length : Int)).toNat ⟨0, 0⟩).s
        · have hf : fitL vec (s :: r) (at0 + m.length) = false := by rw [fitL, if_pos ⟨h1, h2, h3⟩]
          refine ⟨m.length, ?_⟩
          rw [hf, l57_3]
          simp (maxSteps := 100000000) only [ivc, anf, vop, vlen, vbuiltin, nilR, salloc, eq_self, Nat.reduceEqDiff, Nat.reduceLT, Nat.reduceLeDiff, Nat.reduceAdd, Nat.reduceBEq, reduceCtorEq, ↓reduceIte, tyb, enV, hi', hg, hw2, hc, hc2, h1, h2, gv, h3]
        · have hf : fitL vec (s :: r) (at0 + m.length) = fitL vec r (at0 + m.length + 1) := by rw [fitL, if_neg (fun h => h3 h.2.2)]
          obtain ⟨e, ih'⟩ := ih (m ++ [s]) (by simp [h])
          refine ⟨e, ?_⟩
          simp only [List.length_append, List.length_cons, List.length_nil, Nat.zero_add, Int.natCast_add, Int.cast_ofNat_Int, ← Int.add_assoc] at ih'
          rw [hf, l57_3]
          simp (maxSteps := 100000000) only [ivc, anf, vop, vlen, vbuiltin, nilR, salloc, eq_self, Nat.reduceEqDiff, Nat.reduceLT, Nat.reduceLeDiff, Nat.reduceAdd, Nat.reduceBEq, reduceCtorEq, ↓reduceIte, tyb, enV, hi', hg, hw, hw2, hc, hc2, h1, h2, gv, h3, ih']
      · have hf : fitL vec (s :: r) (at0 + m.length) = fitL vec r (at0 + m.length + 1) := by rw [fitL, if_neg (fun h => h2 h.2.1)]
        obtain ⟨e, ih'⟩ := ih (m ++ [s]) (by simp [h])
        refine ⟨e, ?_⟩
        simp only [List.length_append, List.length_cons, List.length_nil, Nat.zero_add, Int.natCast_add, Int.cast_ofNat_Int, ← Int.add_assoc] at ih'
        rw [hf, l57_3]
        simp (maxSteps := 100000000) only [ivc, anf, vop, vlen, vbuiltin, nilR, salloc, eq_self, Nat.reduceEqDiff, Nat.reduceLT, Nat.reduceLeDiff, Nat.reduceAdd, Nat.reduceBEq, Int.reduceLE, reduceCtorEq, ↓reduceIte, tyb, enV, hi', hg, hw, hw2, hc, hc2, h1, h2, ih']
    · have hf : fitL vec (s :: r) (at0 + m.length) = fitL vec r (at0 + m.length + 1) := by rw [fitL, if_neg (fun h => h1 h.1)]
      obtain ⟨e, ih'⟩ := ih (m ++ [s]) (by simp [h])
      refine ⟨e, ?_⟩
      simp only [List.length_append, List.length_cons, List.length_nil, Nat.zero_add, Int.natCast_add, Int.cast_ofNat_Int, ← Int.add_assoc] at ih'
      rw [hf, l57_3]
      simp (maxSteps := 100000000) only [ivc, anf, vop, vlen, vbuiltin, nilR, salloc, eq_self, Nat.reduceEqDiff, Nat.reduceLT, Nat.reduceLeDiff, Nat.reduceAdd, Nat.reduceBEq, Int.reduceLE, reduceCtorEq, ↓reduceIte, tyb, enV, hi', hg, hw, hw2, hc, hc2, h1, ih']
theorem fits_ev {vec t : List Et} {at0 : Int} (ha : 0 ≤ at0) (hal : at0 ≤ 1000000) (hl : t.length ≤ 1000000) (hv : vec.length ≤ 1000000) : E.F 57 [.ro 2 (t.map enV), .int .i64 at0, .rop (.ro 2 (vec.map enV)) 0] [] = some ((.bool (fitL vec t at0), []), True) := by
  obtain ⟨e, h⟩ := fits_loop ha hal hl hv t [] rfl
  simp only [List.length_nil, Int.natCast_zero, Int.add_zero] at h
  rw [e57]
  by_cases hf : fitL vec t at0 = true
  · rw [hf]
    simp only [hf, if_true] at h
    simp (maxSteps := 100000000) only [ivc, anf, vlen, vbuiltin, eq_self, Nat.reduceEqDiff, Nat.reduceLT, Nat.reduceLeDiff, Nat.reduceAdd, Nat.reduceBEq, reduceCtorEq, ↓reduceIte, tyb, h]
  · have hf' : fitL vec t at0 = false := by simpa using hf
    rw [hf']
    simp only [hf', Bool.false_eq_true, if_false] at h
    simp (maxSteps := 100000000) only [ivc, anf, vlen, vbuiltin, eq_self, Nat.reduceEqDiff, Nat.reduceLT, Nat.reduceLeDiff, Nat.reduceAdd, Nat.reduceBEq, reduceCtorEq, ↓reduceIte, tyb, h]
end Go.Proofs.YtikppcfabnnhfaaDoor

namespace Go.Proofs.YtikppcfabnnhfaaDoor
open Go Go.Aw
noncomputable def givP : FuncId → List AV → HL → Option ((AV × HL) × Prop) := fun f a l => E.F f a l
noncomputable def ANP : Go.Aw.An := mkAn [12, 13, 20, 23, 26, 27, 30, 32, 33, 38, 41, 42, 47, 48, 50, 54, 57, 58, 60, 61, 62, 67, 69, 71, 72, 75, 80, 81, 84, 85, 86, 87, 93] [15, 28, 31, 36, 37, 53, 63, 64, 65, 66, 78, 82, 83] [59]
  [24, 59]
  [(24, 20, [1, 2, 8, 9, 10, 13, 26, 27, 72, 73, 74]), (24, 13, [1, 2, 8, 9, 10, 12, 13, 26, 27]), (24, 9, [1, 2, 8, 9, 10, 26, 27]), (59, 9, [7, 8])]
  [(24, 20, [(0, [], 1), (3, [], 1), (8, [], 2), (2, [0], 2)]), (24, 13, [(0, [], 1), (3, [], 1), (5, [], 2), (2, [0], 2)]), (24, 9, [(0, [], 1), (3, [], 1), (2, [0], 2)]), (59, 9, [(0, [], 2)])]
  []
  [(24, [(0, [], 2), (1, [], 1)]), (59, [(0, [], 2)])]
  [24, 59]
  [(24, 17, ([65, 1000014, 1000066], false, [8], [some 66])), (59, 9, ([], false, [], []))] [] [(59, 7), (59, 9)] givP
noncomputable abbrev EP : Sig := ev Tryd.prog G ANP
theorem ok24P : fchk Tryd.prog ANP 24 = true := by kernel_rfl
theorem ok59P : fchk Tryd.prog ANP 59 = true := by kernel_rfl
theorem evokP : EvOk Tryd.prog G ANP where
  chk f h := by
    have h : [24, 59].contains f = true := h
    have h := List.contains_iff_mem.1 h
    simp only [List.mem_cons, List.mem_nil_iff, or_false] at h
    rcases h with rfl | rfl
    · exact ok24P
    · exact ok59P
  pureG g := by
    by_cases h : g = 0
    · subst h; exact .inl (by kernel_rfl)
    · exact .inr (if_neg h)
  mixed := by kernel_rfl
  giv f a l r l' φ h hφ := ev_sound evok h hφ
theorem acpP : ∀ f k, ANP.cp f k = has2 f k [(59, 7), (59, 9)] := fun _ _ => rfl
set_option maxRecDepth 100000
theorem anf0P : (ANP.bor 24 = false) ∧ (ANP.pur 24 = false) ∧ (ANP.ro 24 = false) ∧ (ANP.frz 24 = true) ∧ (ANP.fra 24 = false) ∧ (ANP.res 24 = [(0, [], 2), (1, [], 1)]) ∧ (ANP.bor 26 = true) ∧ (ANP.pur 26 = false) ∧ (ANP.ro 26 = false) ∧ (ANP.frz 26 = false) ∧ (ANP.fra 26 = false) ∧ (ANP.res 26 = []) ∧ (ANP.bor 55 = false) ∧ (ANP.pur 55 = false) ∧ (ANP.ro 55 = false) ∧ (ANP.frz 55 = false) ∧ (ANP.fra 55 = false) ∧ (ANP.res 55 = []) ∧ (ANP.bor 57 = true) ∧ (ANP.pur 57 = false) ∧ (ANP.ro 57 = false) ∧ (ANP.frz 57 = false) ∧ (ANP.fra 57 = false) ∧ (ANP.res 57 = []) ∧ (ANP.bor 58 = true) ∧ (ANP.pur 58 = false) ∧ (ANP.ro 58 = false) ∧ (ANP.frz 58 = false) ∧ (ANP.fra 58 = false) ∧ (ANP.res 58 = []) ∧ (ANP.bor 59 = false) ∧ (ANP.pur 59 = false) ∧ (ANP.ro 59 = true) ∧ (ANP.frz 59 = true) ∧ (ANP.fra 59 = false) ∧ (ANP.res 59 = [(0, [], 2)]) ∧ (ANP.bor 79 = false) ∧ (ANP.pur 79 = false) ∧ (ANP.ro 79 = false) ∧ (ANP.frz 79 = false) ∧ (ANP.fra 79 = false) ∧ (ANP.res 79 = []) ∧ (ANP.dr 24 17 = some ([65, 1000014, 1000066], false, [8], [some 66])) ∧ (ANP.dr 59 9 = some ([], false, [], [])) ∧ (ANP.keep 24 20 = some [1, 2, 8, 9, 10, 13, 26, 27, 72, 73, 74]) ∧ (ANP.fix 24 20 = [(0, [], 1), (3, [], 1), (8, [], 2), (2, [0], 2)]) ∧ (ANP.frl 24 20 = false) ∧ (ANP.keep 24 13 = some [1, 2, 8, 9, 10, 12, 13, 26, 27]) ∧ (ANP.fix 24 13 = [(0, [], 1), (3, [], 1), (5, [], 2), (2, [0], 2)]) ∧ (ANP.frl 24 13 = false) ∧ (ANP.keep 24 9 = some [1, 2, 8, 9, 10, 26, 27]) ∧ (ANP.fix 24 9 = [(0, [], 1), (3, [], 1), (2, [0], 2)]) ∧ (ANP.frl 24 9 = false) ∧ (ANP.keep 59 9 = some [7, 8]) ∧ (ANP.fix 59 9 = [(0, [], 2)]) ∧ (ANP.frl 59 9 = false) := by and_intros <;> kernel_rfl
theorem anfP : type_of% @anf0P ∧ type_of% @acpP := ⟨@anf0P, @acpP⟩
variable (a v : List AV) (l : HL)
theorem l24_20P : type_of% (ev_lp ANP G 24 20 92 [1, 2, 8, 9, 10, 13, 26, 27, 72, 73, 74] (by kernel_rfl) Tryd.func24 rfl rfl rfl (by kernel_rfl) v l) :=
  ev_lp ANP G 24 20 92 [1, 2, 8, 9, 10, 13, 26, 27, 72, 73, 74] (by kernel_rfl) Tryd.func24 rfl rfl rfl (by kernel_rfl) v l
theorem l24_13P : type_of% (ev_lp ANP G 24 13 92 [1, 2, 8, 9, 10, 12, 13, 26, 27] (by kernel_rfl) Tryd.func24 rfl rfl rfl (by kernel_rfl) v l) :=
  ev_lp ANP G 24 13 92 [1, 2, 8, 9, 10, 12, 13, 26, 27] (by kernel_rfl) Tryd.func24 rfl rfl rfl (by kernel_rfl) v l
theorem l24_9P : type_of% (ev_lp ANP G 24 9 92 [1, 2, 8, 9, 10, 26, 27] (by kernel_rfl) Tryd.func24 rfl rfl rfl (by kernel_rfl) v l) :=
  ev_lp ANP G 24 9 92 [1, 2, 8, 9, 10, 26, 27] (by kernel_rfl) Tryd.func24 rfl rfl rfl (by kernel_rfl) v l
theorem l59_9P : type_of% (ev_lp ANP G 59 9 48 [7, 8] (by kernel_rfl) Tryd.func59 rfl rfl rfl (by kernel_rfl) v l) :=
  ev_lp ANP G 59 9 48 [7, 8] (by kernel_rfl) Tryd.func59 rfl rfl rfl (by kernel_rfl) v l
theorem e24P : type_of% (ev_fn ANP G 24 92 [.tmp 4, .tmp 5, .tmp 6] (by kernel_rfl) Tryd.func24 rfl rfl rfl a l) :=
  ev_fn ANP G 24 92 [.tmp 4, .tmp 5, .tmp 6] (by kernel_rfl) Tryd.func24 rfl rfl rfl a l
theorem e59P : type_of% (ev_fn ANP G 59 48 [.tmp 4] (by kernel_rfl) Tryd.func59 rfl rfl rfl a l) :=
  ev_fn ANP G 59 48 [.tmp 4] (by kernel_rfl) Tryd.func59 rfl rfl rfl a l
theorem gv26P : EP.F 26 a l = E.F 26 a l := ev_giv (by kernel_rfl) a l
theorem gv55P : EP.F 55 a l = E.F 55 a l := ev_giv (by kernel_rfl) a l
theorem gv57P : EP.F 57 a l = E.F 57 a l := ev_giv (by kernel_rfl) a l
theorem gv58P : EP.F 58 a l = E.F 58 a l := ev_giv (by kernel_rfl) a l
theorem gv79P : EP.F 79 a l = E.F 79 a l := ev_giv (by kernel_rfl) a l
end Go.Proofs.YtikppcfabnnhfaaDoor

/- Pack. -/
namespace Go.Proofs.YtikppcfabnnhfaaDoor
open Go Go.Aw
set_option linter.unusedSimpArgs false
set_option linter.unusedVariables false
set_option maxRecDepth 100000
set_option maxHeartbeats 40000000
theorem rep2P_loop {x : Et} {n : Nat} (hn : n ≤ 1000000) : ∀ (s k d : Nat), k ≤ s → d + k = n → (k = 0 ∨ 1 ≤ d) →
    EP.L 59 9 [.sl 60000 0 n, .int .i64 d] (rp2H x d k) = some ((.exit 0, [.sl 60000 0 n, .int .i64 n], rp2H x n 0), True) := by
  intro s
  induction s with
  | zero =>
    intro k d hk h hd
    have hk0 : k = 0 := by omega
    subst hk0
    have hd0 : d = n := by omega
    subst hd0
    have q : ((d : Int) < d) = False := eq_false (by omega)
    rw [l59_9P]
    simp (maxSteps := 100000000) only [ivc, vlen, vbuiltin, nilR, eq_self, Nat.reduceEqDiff, Nat.reduceLT, Nat.reduceLeDiff, Nat.reduceAdd, Nat.reduceBEq, reduceCtorEq, ↓reduceIte, anfP, tyb, rp2H, q]
  | succ s ih =>
    intro k d hk h hd
    by_cases hk0 : k = 0
    · exact ih k d (by omega) h hd
    have hlen := rpL_len (x := x) (z := (⟨0, 0⟩ : Et)) (d := d) (k := k)
    have q : ((d : Int) < n) = True := eq_true (by omega)
    have q2 : (0 ≤ (d : Int)) = True := eq_true (by omega)
    have q3 : ((d : Int) ≤ n) = True := eq_true (by omega)
    have nd : n - d = k := by omega
    have hw : IntKind.i64.wrap ((d : Int) + (min d k : Nat)) = d + (min d k : Nat) := wrap_id (by omega) (by omega)
    have ih' := ih (k - min d k) (d + min d k) (by omega) (by omega) (by omega)
    simp only [rp2H, Int.natCast_add] at ih'
    have hd' : 1 ≤ d := by omega
    rw [l59_9P]
    simp (maxSteps := 100000000) only [ivc, vop, vslice, vlen, vbuiltin, nilR, eq_self, Nat.reduceEqDiff, Nat.reduceLT, Nat.reduceLeDiff, Nat.reduceAdd, Nat.reduceBEq, Int.reduceLE, Int.reduceToNat, reduceCtorEq, implies_true, ↓reduceIte, anfP, tyb, rp2H, q, q2, q3, nd, hw, cp_en, rp_take, rp_take2, rp_drop, rp_join, List.length_replicate, ih']
    exact some_true (by omega)
theorem rep2P_ev {x : Et} {n : Nat} (hn : n ≤ 1000000) : EP.F 59 [.sl 100000 0 1, .int .i64 n] [(100000, ⟨false, 2, [.agg [.int .i64 x.s, .int .i64 x.m]]⟩)] = some ((.ro 2 ((List.replicate n x).map enV), [(100000, ⟨false, 2, [.agg [.int .i64 x.s, .int .i64 x.m]]⟩)]), True) := by
  have a := mul79_ev (y := n) (by omega) (by omega)
  have q : ((n : Int) < 0) = False := eq_false (by omega)
  have q2 : ((9223372036854775807 : Int) < n) = False := eq_false (by omega)
  have w1 := u64id (y := n) (by omega) (by omega)
  have w2 : IntKind.i64.wrap n = n := wrap_id (by omega) (by omega)
  have h := rep2P_loop (x := x) hn n (n - min 1 n) (min 1 n) (by omega) (by omega) (by omega)
  simp only [rp2H, rp_done] at h
  have f1 : List.take n [AV.agg [.int .i64 x.s, .int .i64 x.m]] ++ List.drop (min 1 n) (List.replicate n (AV.agg [.int .i64 0, .int .i64 0])) = _ := rp_first (f := enV) (x := x) (z := (⟨0, 0⟩ : Et)) (n := n)
  have w3 := u64id (y := 1) (by omega) (by omega)
  have tk : List.take n (List.map enV (List.replicate n x)) = List.map enV (List.replicate n x) := List.take_of_length_le (by simp)
  rw [e59P]
  simp (maxSteps := 100000000) only [ivc, vop, vlen, vbuiltin, nilR, salloc, eq_self, Nat.reduceEqDiff, Nat.reduceLT, Nat.reduceLeDiff, Nat.reduceAdd, Nat.reduceMul, Nat.reduceBEq, Int.reduceLT, reduceCtorEq, ↓reduceIte, anfP, gv79P, tyb, q, q2, a, w1, w2, w3, f1, h, tk]
  refine some_true ?_
  exact ⟨by omega, fun e he => by rw [List.eq_of_mem_replicate he]; rfl⟩
end Go.Proofs.YtikppcfabnnhfaaDoor

/- Pack: loops. -/
namespace Go.Proofs.YtikppcfabnnhfaaDoor
open Go Go.Aw
set_option linter.unusedSimpArgs false
set_option linter.unusedVariables false
set_option maxRecDepth 100000
set_option maxHeartbeats 40000000
theorem getSl {l : List Et} {i : Nat} (h : i < l.length) : (l.map enV).getD i .junk = .agg [.int .i64 (l.getD i ⟨0, 0⟩).s, .int .i64 (l.getD i ⟨0, 0⟩).m] := by
  simp [List.getD_eq_getElem?_getD, List.getElem?_eq_getElem h, enV]
def okA (offs : List Int) (vec t : List Et) (a : Int) : Bool := !(offs.contains a) && fitL vec t a
def fAt (ok : Int → Bool) : Nat → Int → Int
  | 0, a => a
  | k + 1, a => if ok a = true then a else fAt ok k (a + 1)
theorem fitL_far {vec : List Et} : ∀ {r : List Et} {p : Int}, (vec.length : Int) ≤ p → fitL vec r p = true
  | [], _, _ => rfl
  | s :: r, p, h => by
    rw [fitL, if_neg (by omega)]
    exact fitL_far (r := r) (by omega)
def pkT (w : Wd) (offs : List Int) (vec t : List Et) : HL := [(60000, ⟨true, 3, [wdV w]⟩), (60001, ⟨true, 1, [.sl 60004 0 vec.length]⟩), (60002, iR offs), (60003, ⟨false, 2, t.map enV⟩), (60004, ⟨false, 2, vec.map enV⟩)]
def pkF : AV := .fn (Fn.func 57) [] [.ptr 60001 0 0]
theorem at_loop {w : Wd} {cs offs : List Int} {vec t : List Et} {nc ci : Int} {B : Int} (ho : ∀ o ∈ offs, o < B) (hv : vec.length ≤ B) (hB : B ≤ 900000) (hol : offs.length ≤ 1000) (htl : t.length ≤ 1000) : ∀ (k : Nat) (a : Int), 0 ≤ a → a + k = B →
    EP.L 24 13 [.ro 1 (cs.map (AV.int .i64)), .ptr 60000 0 0, .ptr 60001 0 0, .sl 60002 0 offs.length, pkF, .sl 60003 0 t.length, .int .i64 a, .int .i64 nc, .int .i64 ci] (pkT w offs vec t)
    = some ((.exit 2, [.ro 1 (cs.map (AV.int .i64)), .ptr 60000 0 0, .ptr 60001 0 0, .sl 60002 0 offs.length, pkF, .sl 60003 0 t.length, .int .i64 (fAt (okA offs vec t) k a), .int .i64 nc, .int .i64 ci], pkT w offs vec t), True) := by
  intro k
  induction k with
  | zero =>
    intro a h0 h
    have c1 := contains_ev (l := offs) (x := a) (by omega)
    have c2 := fits_ev (vec := vec) (t := t) (at0 := a) h0 (by omega) (by omega) (by omega)
    have d1 : offs.contains a = false := by
      cases hc : offs.contains a with
      | false => rfl
      | true =>
        have := ho a (by simpa using hc)
        omega
    rw [d1] at c1
    rw [fitL_far (by omega)] at c2
    rw [l24_13P]
    simp (maxSteps := 100000000) only [ivc, vop, eq_self, Nat.reduceEqDiff, Nat.reduceLT, Nat.reduceLeDiff, Nat.reduceAdd, Nat.reduceBEq, reduceCtorEq, ↓reduceIte, anfP, gv58P, gv57P, pkT, pkF, iR, wdV, c1, c2, fAt]
  | succ k ih =>
    intro a h0 h
    have c1 := contains_ev (l := offs) (x := a) (by omega)
    have c2 := fits_ev (vec := vec) (t := t) (at0 := a) h0 (by omega) (by omega) (by omega)
    have hw : IntKind.i64.wrap (a + 1) = a + 1 := wrap_id (by omega) (by omega)
    have ih' := ih (a + 1) (by omega) (by omega)
    simp only [pkT, pkF, iR, wdV] at ih'
    rw [l24_13P]
    cases d1 : offs.contains a with
    | true =>
      have e : fAt (okA offs vec t) (k + 1) a = fAt (okA offs vec t) k (a + 1) := by
        rw [fAt, if_neg]
        unfold okA
        rw [d1]
        simp
      rw [e]
      rw [d1] at c1
      simp (maxSteps := 100000000) only [ivc, vop, nilR, eq_self, Nat.reduceEqDiff, Nat.reduceLT, Nat.reduceLeDiff, Nat.reduceAdd, Nat.reduceBEq, reduceCtorEq, ↓reduceIte, anfP, gv58P, tyb, pkT, pkF, iR, wdV, c1, hw, ih']
    | false =>
      rw [d1] at c1
      cases d2 : fitL vec t a with
      | true =>
        have e : fAt (okA offs vec t) (k + 1) a = a := by
          rw [fAt, if_pos]
          unfold okA
          rw [d1, d2]
          rfl
        rw [e]
        rw [d2] at c2
        simp (maxSteps := 100000000) only [ivc, vop, eq_self, Nat.reduceEqDiff, Nat.reduceLT, Nat.reduceLeDiff, Nat.reduceAdd, Nat.reduceBEq, reduceCtorEq, ↓reduceIte, anfP, gv58P, gv57P, pkT, pkF, iR, wdV, c1, c2]
      | false =>
        have e : fAt (okA offs vec t) (k + 1) a = fAt (okA offs vec t) k (a + 1) := by
          rw [fAt, if_neg]
          unfold okA
          rw [d2]
          simp
        rw [e]
        rw [d2] at c2
        simp (maxSteps := 100000000) only [ivc, vop, nilR, eq_self, Nat.reduceEqDiff, Nat.reduceLT, Nat.reduceLeDiff, Nat.reduceAdd, Nat.reduceBEq, reduceCtorEq, ↓reduceIte, anfP, gv58P, gv57P, tyb, pkT, pkF, iR, wdV, c1, c2, hw, ih']
def putL : List Et → Int → List Et → List Et
  | [], _, v => v
  | s :: r, p, v => putL r (p + 1) (if 0 ≤ s.s then v.set p.toNat s else v)
theorem putL_len : ∀ {r : List Et} {p : Int} {v : List Et}, (putL r p v).length = v.length
  | [], _, _ => rfl
  | s :: r, p, v => by
    rw [putL, putL_len]
    split
    · exact List.length_set
    · rfl
theorem put_loop {w : Wd} {cs offs : List Int} {t : List Et} {nc ci a : Int} (h0 : 0 ≤ a) (hB : a ≤ 900000) (htl : t.length ≤ 1000) : ∀ (r m vec : List Et), t = m ++ r → (r = [] ∨ a + t.length ≤ vec.length) →
    EP.L 24 20 [.ro 1 (cs.map (AV.int .i64)), .ptr 60000 0 0, .ptr 60001 0 0, .sl 60002 0 offs.length, pkF, .int .i64 a, .int .i64 nc, .int .i64 ci, .sl 60003 0 t.length, .int .i64 t.length, .int .i64 m.length] (pkT w offs vec t)
    = some ((.exit 4, [.ro 1 (cs.map (AV.int .i64)), .ptr 60000 0 0, .ptr 60001 0 0, .sl 60002 0 offs.length, pkF, .int .i64 a, .int .i64 nc, .int .i64 ci, .sl 60003 0 t.length, .int .i64 t.length, .int .i64 t.length], pkT w offs (putL r (a + m.length) vec) t), True) := by
  intro r
  induction r with
  | nil =>
    intro m vec h hv
    rw [List.append_nil] at h
    subst h
    rw [l24_20P]
    simp (maxSteps := 100000000) only [ivc, nilR, eq_self, Nat.reduceEqDiff, Nat.reduceLT, Nat.reduceLeDiff, Nat.reduceAdd, Nat.reduceBEq, reduceCtorEq, ↓reduceIte, anfP, tyb, pkT, pkF, iR, wdV, Int.lt_irrefl, putL]
  | cons s r ih =>
    intro m vec h hv
    have hv' : a + t.length ≤ vec.length := hv.elim (fun h => by cases h) id
    have hn : m.length + (r.length + 1) = t.length := by rw [h]; simp
    have hi' : (m.length : Int) < t.length := by omega
    have hg := getD_map (f := enV) (show t[m.length]? = some s by rw [h]; simp)
    have hw : IntKind.i64.wrap ((m.length : Int) + 1) = m.length + 1 := wrap_id (by omega) (by omega)
    have hw2 : IntKind.i64.wrap (a + m.length) = a + m.length := wrap_id (by omega) (by omega)
    have hc : (0 ≤ (m.length : Int)) = True := eq_true (by omega)
    have hc2 : (0 ≤ a + (m.length : Int) ∧ a + (m.length : Int) < vec.length) = True := eq_true (by omega)
    have g2 := getSl (l := vec) (i := (a + (m.length : Int)).toNat) (by omega)
    have g3 : (vec.map enV).set (a + (m.length : Int)).toNat (.agg [.int .i64 s.s, .int .i64 s.m]) = (vec.set (a + (m.length : Int)).toNat s).map enV := set_map (f := enV)
    by_cases h1 : 0 ≤ s.s
    · have ih' := ih (m ++ [s]) (vec.set (a + m.length).toNat s) (by simp [h]) (.inr (by rw [List.length_set]; exact hv'))
      simp only [List.length_append, List.length_cons, List.length_nil, Nat.zero_add, Int.natCast_add, Int.cast_ofNat_Int, pkT, pkF, iR, wdV, List.length_set, putL_len, ← Int.add_assoc] at ih'
      rw [l24_20P]
      simp (maxSteps := 100000000) only [ivc, vop, nilR, salloc, eq_self, Nat.reduceEqDiff, Nat.reduceLT, Nat.reduceLeDiff, Nat.reduceAdd, Nat.reduceBEq, reduceCtorEq, ↓reduceIte, anfP, tyb, pkT, pkF, iR, wdV, enV, hi', hg, hw, hw2, hc, hc2, g2, g3, h1, ih', putL, putL_len, List.length_set]
    · have ih' := ih (m ++ [s]) vec (by simp [h]) (.inr hv')
      simp only [List.length_append, List.length_cons, List.length_nil, Nat.zero_add, Int.natCast_add, Int.cast_ofNat_Int, pkT, pkF, iR, wdV, putL_len, ← Int.add_assoc] at ih'
      rw [l24_20P]
      simp (maxSteps := 100000000) only [ivc, vop, nilR, salloc, eq_self, Nat.reduceEqDiff, Nat.reduceLT, Nat.reduceLeDiff, Nat.reduceAdd, Nat.reduceBEq, reduceCtorEq, ↓reduceIte, anfP, tyb, pkT, pkF, iR, wdV, enV, hi', hg, hw, hc, h1, ih', putL, putL_len]
end Go.Proofs.YtikppcfabnnhfaaDoor

/- Pack: all. -/
namespace Go.Proofs.YtikppcfabnnhfaaDoor
open Go Go.Aw
set_option linter.unusedSimpArgs false
set_option linter.unusedVariables false
set_option maxRecDepth 100000
set_option maxHeartbeats 40000000
def topM (offs : List Int) (vec : List Et) : Int := offs.foldl (fun n o => max n (o + 1)) vec.length
theorem top_fold : ∀ {offs : List Int} {n : Int}, n ≤ offs.foldl (fun n o => max n (o + 1)) n ∧ ∀ o ∈ offs, o < offs.foldl (fun n o => max n (o + 1)) n
  | [], n => ⟨Int.le_refl _, fun _ h => by cases h⟩
  | x :: offs, n => by
    obtain ⟨h1, h2⟩ := top_fold (offs := offs) (n := max n (x + 1))
    rw [List.foldl_cons]
    refine ⟨by omega, fun o ho => ?_⟩
    rcases List.mem_cons.1 ho with rfl | ho
    · omega
    · exact h2 o ho
theorem top_le {N : Int} : ∀ {offs : List Int} {n : Int}, n ≤ N → (∀ o ∈ offs, o < N) → offs.foldl (fun n o => max n (o + 1)) n ≤ N
  | [], _, h, _ => h
  | x :: offs, n, h, ho => by
    rw [List.foldl_cons]
    exact top_le (offs := offs) (by have := ho x (by simp); omega) (fun o h => ho o (by simp [h]))
theorem fAt_rng {ok : Int → Bool} : ∀ {k : Nat} {a : Int}, a ≤ fAt ok k a ∧ fAt ok k a ≤ a + k
  | 0, a => by simp [fAt]
  | k + 1, a => by
    obtain ⟨h1, h2⟩ := fAt_rng (ok := ok) (k := k) (a := a + 1)
    rw [fAt]
    split <;> omega
def growM (vec t : List Et) (a : Int) : List Et := if 0 < t.length ∧ (vec.length : Int) < a + t.length then vec ++ reN (a + t.length - vec.length).toNat else vec
def placeA (offs : List Int) (vec t : List Et) : Int := fAt (okA offs vec t) (topM offs vec).toNat 0
def packM (cs : List Int) : List (List Et) → List Et × List Int → List Et × List Int
  | [], p => p
  | c :: r, p => packM cs r (putL (tblM cs c) (placeA p.2 p.1 (tblM cs c)) (growM p.1 (tblM cs c) (placeA p.2 p.1 (tblM cs c))), p.2 ++ [placeA p.2 p.1 (tblM cs c)])
theorem growM_len {vec t : List Et} {a : Int} (h0 : 0 ≤ a) : (vec.length ≤ (growM vec t a).length) ∧ (t = [] ∨ a + t.length ≤ ((growM vec t a).length : Int)) ∧ ((growM vec t a).length : Int) ≤ max (vec.length : Int) (a + t.length) := by
  unfold growM
  split
  · simp only [List.length_append, reN, List.length_replicate]
    omega
  · rename_i h
    refine ⟨Nat.le_refl _, ?_, by omega⟩
    by_cases ht : t.length = 0
    · exact .inl (List.eq_nil_of_length_eq_zero ht)
    · exact .inr (by omega)
theorem tbl_len {cs : List Int} {c : List Et} (h : ∀ e ∈ c, hasC cs e) : (tblM cs c).length ≤ 500 := by
  obtain ⟨_, a2, _⟩ := tsM_rng (n := 0) h (by omega) (by omega)
  rw [tblM, tuM_len, reN, List.length_replicate]
  omega
def pkH (w : Wd) (offs : List Int) (vec : List Et) : HL := [(60000, ⟨true, 3, [wdV w]⟩), (60001, ⟨true, 1, [.sl 60003 0 vec.length]⟩), (60002, iR offs), (60003, ⟨false, 2, vec.map enV⟩)]
theorem pack_loop {w : Wd} {cs : List Int} (hcl : w.classes.length ≤ 200) (hc : ∀ c ∈ w.classes, c.length ≤ 100 ∧ ∀ e ∈ c, hasC cs e) : ∀ (r m : List (List Et)) (vec : List Et) (offs : List Int), w.classes = m ++ r → offs.length = m.length → (∀ o ∈ offs, 0 ≤ o) → topM offs vec ≤ 501 * m.length →
    EP.L 24 9 [.ro 1 (cs.map (AV.int .i64)), .ptr 60000 0 0, .ptr 60001 0 0, .sl 60002 0 offs.length, pkF, .int .i64 w.classes.length, .int .i64 m.length] (pkH w offs vec)
    = some ((.exit 0, [.ro 1 (cs.map (AV.int .i64)), .ptr 60000 0 0, .ptr 60001 0 0, .sl 60002 0 (packM cs r (vec, offs)).2.length, pkF, .int .i64 w.classes.length, .int .i64 w.classes.length], pkH w (packM cs r (vec, offs)).2 (packM cs r (vec, offs)).1), True) := by
  intro r
  induction r with
  | nil =>
    intro m vec offs h hol ho0 hT
    rw [List.append_nil] at h
    have q : ((w.classes.length : Int) < w.classes.length) = False := eq_false (by omega)
    rw [← h, l24_9P]
    simp (maxSteps := 100000000) only [ivc, nilR, eq_self, Nat.reduceEqDiff, Nat.reduceLT, Nat.reduceLeDiff, Nat.reduceAdd, Nat.reduceBEq, Int.reduceNeg, reduceCtorEq, ↓reduceIte, anfP, tyb, pkH, pkF, iR, wdV, q, packM]
  | cons c r ih =>
    intro m vec offs h hol ho0 hT
    have hn : m.length + (r.length + 1) = w.classes.length := by rw [h]; simp
    have hi' : (m.length : Int) < w.classes.length := by omega
    have hm : w.classes[m.length]? = some c := by rw [h]; simp
    obtain ⟨c1, c2⟩ := hc c (List.mem_of_getElem? hm)
    have tb := table_ev (w := w) hm (by omega) c2 (by omega)
    have tl := tbl_len c2
    have hw : IntKind.i64.wrap ((m.length : Int) + 1) = m.length + 1 := wrap_id (by omega) (by omega)
    obtain ⟨t1, t2⟩ := top_fold (offs := offs) (n := (vec.length : Int))
    change (vec.length : Int) ≤ topM offs vec at t1
    change ∀ o ∈ offs, o < topM offs vec at t2
    have hpk : packM cs (c :: r) (vec, offs) = packM cs r (putL (tblM cs c) (placeA offs vec (tblM cs c)) (growM vec (tblM cs c) (placeA offs vec (tblM cs c))), offs ++ [placeA offs vec (tblM cs c)]) := rfl
    rw [hpk]
    generalize tblM cs c = t at tb tl ⊢
    have al := at_loop (w := w) (cs := cs) (nc := w.classes.length) (ci := m.length) t2 t1 (by omega) (by omega) (t := t) (by omega) (topM offs vec).toNat 0 (by omega) (by omega)
    have ar := fAt_rng (ok := okA offs vec t) (k := (topM offs vec).toNat) (a := 0)
    change EP.L 24 13 _ _ = some ((.exit 2, [_, _, _, _, _, _, .int .i64 (placeA offs vec t), _, _], _), True) at al
    change 0 ≤ placeA offs vec t ∧ placeA offs vec t ≤ 0 + (topM offs vec).toNat at ar
    generalize placeA offs vec t = a at al ar ⊢
    obtain ⟨g1, g2, g3⟩ := growM_len (vec := vec) (t := t) ar.1
    have pl := put_loop (w := w) (cs := cs) (offs := offs ++ [a]) (nc := w.classes.length) (ci := m.length) (a := a) (t := t) ar.1 (by omega) (by omega) t [] (growM vec t a) rfl g2
    have ih' := ih (m ++ [c]) (putL t a (growM vec t a)) (offs ++ [a]) (by simp [h]) (by simp [hol]) (fun o ho => by
      rcases List.mem_append.1 ho with ho | ho
      · exact ho0 o ho
      · rw [List.mem_singleton] at ho
        omega) (by
      refine top_le (by rw [putL_len]; simp; omega) (fun o ho => ?_)
      rcases List.mem_append.1 ho with ho | ho
      · have := t2 o ho
        simp; omega
      · rw [List.mem_singleton] at ho
        simp; omega)
    simp only [List.length_append, List.length_cons, List.length_nil, Nat.zero_add, Int.natCast_add, Int.cast_ofNat_Int, pkH, pkF, iR, wdV, putL_len, List.map_append, List.map_cons, List.map_nil] at ih'
    simp only [List.length_append, List.length_cons, List.length_nil, Nat.zero_add, Int.add_zero, Int.cast_ofNat_Int, pkT, pkF, iR, wdV, putL_len, List.map_append, List.map_cons, List.map_nil] at pl al
    simp only [wdV] at tb
    have hw2 : IntKind.i64.wrap (a + t.length) = a + t.length := wrap_id (by omega) (by omega)
    rw [l24_9P]
    by_cases z1 : 0 < t.length
    · have z1' : (0 < (t.length : Int)) = True := eq_true (by omega)
      by_cases z2 : (vec.length : Int) < a + t.length
      · have hg : growM vec t a = vec ++ reN (a + t.length - vec.length).toNat := by unfold growM; rw [if_pos ⟨z1, z2⟩]
        have hw3 : IntKind.i64.wrap (a + t.length - vec.length) = a + t.length - vec.length := wrap_id (by omega) (by omega)
        have rp := rep2P_ev (x := noE) (n := (a + t.length - vec.length).toNat) (by omega)
        rw [show (((a + t.length - vec.length).toNat : Nat) : Int) = a + t.length - vec.length by omega] at rp
        change EP.F 59 [.sl 100000 0 1, _] [(100000, ⟨false, 2, [.agg [.int .i64 (-1), .int .i64 (-1)]]⟩)] = some ((.ro 2 ((reN (a + t.length - vec.length).toNat).map enV), [(100000, ⟨false, 2, [.agg [.int .i64 (-1), .int .i64 (-1)]]⟩)]), True) at rp
        have hrl : (reN (a + t.length - vec.length).toNat).length = (a + t.length - vec.length).toNat := by rw [reN, List.length_replicate]
        rw [hg] at pl ih' ⊢
        generalize reN (a + t.length - vec.length).toNat = R at rp pl ih' hrl ⊢
        simp only [List.length_append, List.map_append] at pl ih'
        simp (maxSteps := 100000000) only [ivc, vop, vlen, vbuiltin, nilR, salloc, sappend, eq_self, Nat.reduceEqDiff, Nat.reduceLT, Nat.reduceLeDiff, Nat.reduceAdd, Nat.reduceMul, Nat.reduceSub, Nat.reduceBEq, Int.reduceNeg, reduceCtorEq, ↓reduceIte, anfP, gv55P, tyb, pkH, pkF, iR, wdV, hi', hw, hw2, hw3, tb, al, z1', z2, rp, pl, ih']
        exact some_true (by omega)
      · have hg : growM vec t a = vec := by unfold growM; rw [if_neg (fun h => z2 h.2)]
        rw [hg] at pl ih' ⊢
        simp (maxSteps := 100000000) only [ivc, vlen, vbuiltin, nilR, salloc, sappend, eq_self, Nat.reduceEqDiff, Nat.reduceLT, Nat.reduceLeDiff, Nat.reduceAdd, Nat.reduceMul, Nat.reduceBEq, Int.reduceNeg, reduceCtorEq, ↓reduceIte, anfP, gv55P, tyb, pkH, pkF, iR, wdV, hi', hw, hw2, tb, al, z1', z2, pl, ih']
        exact some_true (by omega)
    · have z1' : (0 < (t.length : Int)) = False := eq_false (by omega)
      have hg : growM vec t a = vec := by unfold growM; rw [if_neg (fun h => z1 h.1)]
      rw [hg] at pl ih' ⊢
      simp (maxSteps := 100000000) only [ivc, vlen, vbuiltin, nilR, salloc, sappend, eq_self, Nat.reduceEqDiff, Nat.reduceLT, Nat.reduceLeDiff, Nat.reduceAdd, Nat.reduceMul, Nat.reduceBEq, Int.reduceNeg, reduceCtorEq, ↓reduceIte, anfP, gv55P, tyb, pkH, pkF, iR, wdV, hi', hw, hw2, tb, al, z1', pl, ih']
      exact some_true (by omega)
theorem pack_ev {w : Wd} {cs : List Int} (ok : ckM w = 0 → okW w) (hcc : ckM w = 0 → ccW (graphW w) cs = 0 → ∀ c ∈ w.classes, ∀ e ∈ c, hasC cs e) :
    EP.F 24 [wdV w, .ro 1 (cs.map (AV.int .i64))] [] = some ((if ckM w = 0 then if ccW (graphW w) cs = 0 then .tup [.ro 2 ((packM cs w.classes ([], [])).1.map enV), .ro 1 ((packM cs w.classes ([], [])).2.map (AV.int .i64)), .int .i64 0] else .tup [.ro 2 [], .ro 1 [], .int .i64 (ccW (graphW w) cs)] else .tup [.ro 2 [], .ro 1 [], .int .i64 (ckM w)], []), True) := by
  have h1 := cc_ev (cs := cs) ok
  simp only [wdV] at h1
  by_cases h : ckM w = 0
  · rw [if_pos h] at h1 ⊢
    by_cases h2 : ccW (graphW w) cs = 0
    · rw [if_pos h2]
      rw [h2] at h1
      obtain ⟨o1, o2⟩ := ok h
      have lp := pack_loop (cs := cs) o1 (fun c hc => ⟨(o2 c hc).1, hcc h h2 c hc⟩) w.classes [] [] [] rfl rfl (fun o ho => by cases ho) (by simp [topM])
      generalize packM cs w.classes ([], []) = p at lp ⊢
      simp only [pkH, pkF, iR, wdV, List.length_nil, List.map_nil, Int.natCast_zero] at lp
      rw [e24P]
      simp (maxSteps := 100000000) only [ivc, vop, vlen, vbuiltin, nilR, salloc, eq_self, Nat.reduceEqDiff, Nat.reduceLT, Nat.reduceLeDiff, Nat.reduceAdd, Nat.reduceBEq, Int.reduceNeg, reduceCtorEq, ↓reduceIte, anfP, gv26P, tyb, wdV, h1, lp]
    · rw [if_neg h2]
      have h' : (ccW (graphW w) cs != 0) = true := by simp [h2]
      generalize ccW (graphW w) cs = v at h1 h' ⊢
      rw [e24P]
      simp (maxSteps := 100000000) only [ivc, nilR, salloc, eq_self, Nat.reduceEqDiff, Nat.reduceLT, Nat.reduceLeDiff, Nat.reduceAdd, Nat.reduceBEq, Int.reduceNeg, ↓reduceIte, anfP, gv26P, tyb, wdV, h1, h']
  · rw [if_neg h] at h1 ⊢
    have h' : (ckM w != 0) = true := by simp [h]
    rw [e24P]
    simp (maxSteps := 100000000) only [ivc, nilR, salloc, eq_self, Nat.reduceEqDiff, Nat.reduceLT, Nat.reduceLeDiff, Nat.reduceAdd, Nat.reduceBEq, Int.reduceNeg, ↓reduceIte, anfP, gv26P, tyb, wdV, h1, h']
end Go.Proofs.YtikppcfabnnhfaaDoor

/- Grow. -/
namespace Go.Proofs.YtikppcfabnnhfaaDoor
open Go Go.Aw
set_option linter.unusedSimpArgs false
set_option linter.unusedVariables false
set_option maxRecDepth 100000
set_option maxHeartbeats 40000000
def gwM (g : List Int) : List Et → List Et → List Int → List Int → Option (List Int × List Int)
  | [], _, out, chg => some (out, chg)
  | x :: r, p, out, chg =>
    if 0 ≤ colAt out x.s ∧ (p.any fun e => colAt out e.s == colAt out x.s) = false then gwM g r (p ++ [x]) out chg
    else if 500 ≤ leastL (takW g x.s out) 0 then none
    else gwM g r (p ++ [x]) (out.set x.s.toNat (leastL (takW g x.s out) 0)) (if 0 ≤ colAt out x.s then chg ++ [x.s] else chg)
def gwV (cl : List Et) (n : Nat) (i : Int) (k : Nat) : List AV := [.ro 2 (cl.map enV), .sl 60000 0 0, .sl 60001 0 k, .int .i64 0, .ptr 60002 0 0, .ptr 60003 0 0, .ro 2 (cl.map enV), .int .i64 cl.length, .int .i64 i]
def gwH (g out chg : List Int) : HL := [(60000, iR []), (60001, iR chg), (60002, gO g), (60003, ⟨true, 1, [.sl 60004 0 out.length]⟩), (60004, iR out)]
theorem gw_loop {g : List Int} {cl : List Et} (hg : g.length = 4008) (hcl : cl.length ≤ 100) : ∀ (r m : List Et) (out chg : List Int), cl = m ++ r → out.length ≤ 500 → (∀ c ∈ out, c < 500) → (∀ e ∈ cl, 0 ≤ e.s ∧ e.s < out.length) → chg.length ≤ m.length →
    ∀ o' c', gwM g r m out chg = some (o', c') → E.L 17 13 (gwV cl out.length m.length chg.length) (gwH g out chg) = some ((.exit 0, gwV cl out.length cl.length c'.length, gwH g o' c'), True) := by
  intro r
  induction r with
  | nil =>
    intro m out chg h ho hc hs hl o' c' hr
    cases hr
    rw [List.append_nil] at h
    have q : ((cl.length : Int) < cl.length) = False := eq_false (by omega)
    rw [← h, l17_13]
    simp (maxSteps := 100000000) only [ivc, anf, nilR, eq_self, Nat.reduceEqDiff, Nat.reduceLT, Nat.reduceLeDiff, Nat.reduceAdd, Nat.reduceBEq, reduceCtorEq, ↓reduceIte, tyb, gwV, gwH, gO, iR, ldb, q]
  | cons x r ih =>
    intro m out chg h ho hc hs hl o' c' hr
    have hn : m.length + (r.length + 1) = cl.length := by rw [h]; simp
    have hi' : (m.length : Int) < cl.length := by omega
    have hg0 := getD_map (f := enV) (show cl[m.length]? = some x by rw [h]; simp)
    have hw : IntKind.i64.wrap ((m.length : Int) + 1) = m.length + 1 := wrap_id (by omega) (by omega)
    have hc0 : (0 ≤ (m.length : Int)) = True := eq_true (by omega)
    have hx := hs x (by rw [h]; simp)
    have q := eq_true hx
    have k1 := getI (l := out) (i := x.s.toNat) (by omega)
    have htk : cl.take m.length = m := by rw [h]; simp
    have htm : (cl.map enV).take m.length = m.map enV := by rw [← List.map_take, htk]
    have q5 : (0 ≤ (m.length : Int) ∧ (m.length : Int) ≤ cl.length) = True := eq_true (by omega)
    have a := any48_ev (l := m) (out := out) (c := colAt out x.s) (by omega) (fun e he => hs e (by rw [h]; simp [he]))
    rw [gwM] at hr
    by_cases b1 : 0 ≤ colAt out x.s ∧ (m.any fun e => colAt out e.s == colAt out x.s) = false
    · rw [if_pos b1] at hr
      have ih' := ih (m ++ [x]) out chg (by simp [h]) ho hc hs (by simp; omega) o' c' hr
      simp only [List.length_append, List.length_cons, List.length_nil, Nat.zero_add, Int.natCast_add, Int.cast_ofNat_Int, gwV, gwH, gO, iR, List.map_nil] at ih'
      have b11 := b1.1
      rw [b1.2] at a
      simp only [colAt] at a b11
      rw [l17_13]
      simp (maxSteps := 100000000) only [ivc, anf, vop, vslice, nilR, salloc, eq_self, Nat.reduceEqDiff, Nat.reduceLT, Nat.reduceLeDiff, Nat.reduceAdd, Nat.reduceBEq, Int.reduceLE, Int.reduceToNat, reduceCtorEq, implies_true, ↓reduceIte, tyb, gwV, gwH, gO, iR, enV, ldb, hi', hg0, hw, hc0, q, k1, htm, a, b11, ih']
      exact some_true (by omega)
    · rw [if_neg b1] at hr
      split at hr
      · cases hr
      rename_i b2
      have tk := taken_ev (g := g) (cs := out) (s := x.s) hg ⟨hx.1, by omega⟩ (by omega) (fun c h => by have := hc c h; omega)
      have hT8 : (takW g x.s out).length = 8 := takW_len
      generalize takW g x.s out = T at hr tk hT8 b2
      have le := least_ev hT8
      generalize leastL T 0 = n at hr le b2
      have t1 := take8 hT8
      have t2 := put8 hT8
      have ih' := ih (m ++ [x]) (out.set x.s.toNat n) (if 0 ≤ colAt out x.s then chg ++ [x.s] else chg) (by simp [h]) (by rw [List.length_set]; exact ho) (fun c hcc => by
        rcases List.mem_or_eq_of_mem_set hcc with hcc | hcc
        · exact hc c hcc
        · omega) (by rw [List.length_set]; exact hs) (by split <;> simp <;> omega) o' c' hr
      simp only [gR] at tk
      by_cases b3 : 0 ≤ colAt out x.s
      · have b4 : (m.any fun e => colAt out e.s == colAt out x.s) = true := by
          cases hh : (m.any fun e => colAt out e.s == colAt out x.s) with
          | true => rfl
          | false => exact absurd ⟨b3, hh⟩ b1
        rw [if_pos b3] at ih'
        simp only [List.length_append, List.length_cons, List.length_nil, Nat.zero_add, Int.natCast_add, Int.cast_ofNat_Int, gwV, gwH, gO, iR, List.map_nil, List.length_set, List.map_append, List.map_cons] at ih'
        rw [b4] at a
        simp only [colAt] at a b3
        rw [l17_13]
        simp (maxSteps := 100000000) only [ivc, anf, vop, vslice, nilR, salloc, sappend, eq_self, Nat.reduceEqDiff, Nat.reduceLT, Nat.reduceLeDiff, Nat.reduceAdd, Nat.reduceMul, Nat.reduceBEq, Int.reduceLE, Int.reduceToNat, reduceCtorEq, implies_true, ↓reduceIte, tyb, ↓zrep, zs_len, t90z, gwV, gwH, gO, iR, enV, ldb, agg_flats, agg_imm, hi', hg0, hw, hc0, q, k1, htm, a, b2, b3, tk, hT8, t2, le, set_map, ih']
        exact some_true (by omega)
      · rw [if_neg b3] at ih'
        simp only [List.length_append, List.length_cons, List.length_nil, Nat.zero_add, Int.natCast_add, Int.cast_ofNat_Int, gwV, gwH, gO, iR, List.map_nil, List.length_set] at ih'
        simp only [colAt] at a b3
        rw [l17_13]
        simp (maxSteps := 100000000) only [ivc, anf, vop, vslice, nilR, salloc, eq_self, Nat.reduceEqDiff, Nat.reduceLT, Nat.reduceLeDiff, Nat.reduceAdd, Nat.reduceMul, Nat.reduceBEq, Int.reduceLE, Int.reduceToNat, reduceCtorEq, implies_true, ↓reduceIte, tyb, ↓zrep, zs_len, t90z, gwV, gwH, gO, iR, enV, ldb, agg_flats, agg_imm, hi', hg0, hw, hc0, q, k1, htm, a, b2, b3, tk, hT8, t2, le, set_map, ih']
        exact some_true (by omega)
end Go.Proofs.YtikppcfabnnhfaaDoor

/- Grow: all. -/
namespace Go.Proofs.YtikppcfabnnhfaaDoor
open Go Go.Aw
set_option linter.unusedSimpArgs false
set_option linter.unusedVariables false
set_option maxRecDepth 100000
set_option maxHeartbeats 40000000
def moreW (w : Wd) (cl : List Et) : Wd := ⟨w.classes ++ [cl], w.bodies, w.roots⟩
def ms0 (w : Wd) (cl : List Et) (cs : List Int) : List Int := cs ++ ms (szM (graphW (moreW w cl)) 500 - cs.length)
theorem grow_ev {w : Wd} {cs : List Int} {cl : List Et} {o' c' : List Int} (hwl : w.classes.length ≤ 1000) (h1 : ckM w = 0) (ok : okW w) (h2 : ccW (graphW w) cs = 0) (h3 : ckM (moreW w cl) = 0) (ok2 : okW (moreW w cl)) (hsz : cs.length ≤ szM (graphW (moreW w cl)) 500) (hcs : ∀ c ∈ cs, c < 500) (hs : ∀ e ∈ cl, 0 ≤ e.s ∧ e.s < szM (graphW (moreW w cl)) 500)
    (hr : gwM (graphW (moreW w cl)) cl [] (ms0 w cl cs) [] = some (o', c')) :
    E.F 17 [wdV w, .ro 1 (cs.map (AV.int .i64)), .ro 2 (cl.map enV)] [] = some ((.tup [.ro 1 (o'.map (AV.int .i64)), .ro 1 (c'.map (AV.int .i64)), .int .i64 0], []), True) := by
  have a1 := cc_ev (w := w) (cs := cs) (fun _ => ok)
  rw [if_pos h1, h2] at a1
  have a2 := clone45_ev (l := w.classes) (by omega)
  have a3 := check_ev (w := moreW w cl)
  rw [h3] at a3
  have a4 := graph_ev ok2
  have hg : (graphW (moreW w cl)).length = 4008 := graphW_len
  have hcl : cl.length ≤ 100 := (ok2.2 cl (by simp [moreW])).1
  have hz := szM_le (graphW (moreW w cl)) 500
  have a5 := clone46_ev (l := cs) (by omega)
  unfold ms0 at hr
  generalize graphW (moreW w cl) = g at a4 hg hr hsz hs hz
  have a6 := size_ev hg
  generalize szM g 500 = z at a6 hr hsz hs hz
  have a7 := rep_ms (n := z - cs.length) (by omega)
  have e1 : ((z - cs.length : Nat) : Int) = (z : Int) - cs.length := by omega
  have hol : (cs ++ ms (z - cs.length)).length = z := by rw [List.length_append, ms_len]; omega
  have lp := gw_loop hg hcl cl [] (cs ++ ms (z - cs.length)) [] rfl (by omega) (fun c h => by
    rcases List.mem_append.1 h with h | h
    · exact hcs c h
    · have := List.eq_of_mem_replicate h
      omega) (fun e he => by rw [hol]; exact hs e he) (Nat.le_refl _) o' c' hr
  rw [e1] at a7
  have hml : (ms (z - cs.length)).length = z - cs.length := ms_len
  generalize ms (z - cs.length) = M at a7 lp hml
  have hw : IntKind.i64.wrap ((z : Int) - cs.length) = z - cs.length := wrap_id (by omega) (by omega)
  have e2 : cs.length + M.length = z := by omega
  have e3 : cs.length + (z - cs.length) = z := by omega
  have tkM : List.take (z - cs.length) (M.map (AV.int .i64)) = M.map (AV.int .i64) := List.take_of_length_le (by simp [hml])
  have e4 : ((0 : Int) ≤ (z : Int) - cs.length) = True := eq_true (by omega)
  simp only [wdV] at a1
  simp only [wdV, moreW, clV, List.map_append, List.map_cons, List.map_nil] at a3 a4
  simp only [gwV, gwH, gO, gR, iR, List.length_nil, List.map_nil, Int.natCast_zero, List.length_append, List.map_append] at a4 a5 a6 a7 lp
  rw [e17]
  simp (maxSteps := 100000000) only [ivc, anf, vop, vlen, vbuiltin, nilR, salloc, sappend, eq_self, Nat.reduceEqDiff, Nat.reduceLT, Nat.reduceLeDiff, Nat.reduceAdd, Nat.reduceMul, Nat.reduceBEq, Int.reduceNeg, reduceCtorEq, ↓reduceIte, tyb, wdV, ldb, agg_imm, a1, a2, a3, a4, a5, a6, a7, lp, hw, tkM]
  exact some_true (by omega)
end Go.Proofs.YtikppcfabnnhfaaDoor

/- Plain: sizes, colours, the least one. -/
namespace Go.Proofs.YtikppcfabnnhfaaDoor
open Go Go.Aw
set_option linter.unusedSimpArgs false
set_option linter.unusedVariables false
/-- The size: 1 more than the greatest. -/
theorem szM_spec {g : List Int} : ∀ {n : Nat}, (∀ m : Nat, szM g n ≤ m → m < n → hasW g 0 m = false) ∧ (∀ m : Nat, szM g n = m + 1 → hasW g 0 m = true)
  | 0 => ⟨fun m h1 h2 => by omega, fun m h => by cases h⟩
  | n + 1 => by
    by_cases h : hasW g 0 n = true
    · have e : szM g (n + 1) = n + 1 := by rw [szM, if_pos h]
      rw [e]
      exact ⟨fun m h1 h2 => by omega, fun m hm => by cases hm; exact h⟩
    · have e : szM g (n + 1) = szM g n := by rw [szM, if_neg h]
      obtain ⟨a, b⟩ := szM_spec (g := g) (n := n)
      rw [e]
      refine ⟨fun m h1 h2 => ?_, b⟩
      by_cases hm : m = n
      · subst hm; simpa using h
      · exact a m h1 (by omega)
theorem szM_lt {g : List Int} {n m : Nat} (h : hasW g 0 m = true) (hm : m < n) : m < szM g n := by
  cases Nat.lt_or_ge m (szM g n) with
  | inl h => exact h
  | inr h1 =>
    have := (szM_spec (g := g) (n := n)).1 m h1 hm
    rw [h] at this
    cases this
end Go.Proofs.YtikppcfabnnhfaaDoor

/- Plain: the least number that a set does not have. -/
namespace Go.Proofs.YtikppcfabnnhfaaDoor
open Go Go.Aw
set_option linter.unusedVariables false
set_option maxRecDepth 100000
end Go.Proofs.YtikppcfabnnhfaaDoor

/- Plain: the least number of colours. -/
namespace Go.Proofs.YtikppcfabnnhfaaDoor
open Go Go.Aw
set_option linter.unusedVariables false
def confG (g : List Int) (a b : Int) : Prop := hasW g (nb a) b = true
theorem get_D {cs : List Int} {i : Nat} (h : i < cs.length) : cs.getD i 0 = cs[i] := by
  rw [List.getD_eq_getElem?_getD, List.getElem?_eq_getElem h]; rfl
end Go.Proofs.YtikppcfabnnhfaaDoor

/- Colours. -/
namespace Go.Proofs.YtikppcfabnnhfaaDoor
open Go Go.Aw
set_option linter.unusedSimpArgs false
set_option linter.unusedVariables false
set_option maxRecDepth 100000
set_option maxHeartbeats 40000000
end Go.Proofs.YtikppcfabnnhfaaDoor

/- Plain: Least says the least number of colours. -/
namespace Go.Proofs.YtikppcfabnnhfaaDoor
open Go Go.Aw
set_option linter.unusedVariables false
/-- A graph as a world has it. -/
structure GrOk (g : List Int) : Prop where
  sym : ∀ a b, selN a → selN b → confG g a b → confG g b a
  irr : ∀ a, selN a → ¬ confG g a a
/-! What the classes say. -/
theorem nodup_map_of {f : Int → Int} : ∀ {l : List Int}, l.Nodup → (∀ a ∈ l, ∀ b ∈ l, a ≠ b → f a ≠ f b) → (l.map f).Nodup
  | [], _, _ => List.nodup_nil
  | x :: l, h, hf => by
    rw [List.map_cons, List.nodup_cons]
    refine ⟨fun hm => ?_, nodup_map_of (List.nodup_cons.1 h).2 fun a ha b hb => hf a (by simp [ha]) b (by simp [hb])⟩
    obtain ⟨y, hy, he⟩ := List.mem_map.1 hm
    exact hf y (by simp [hy]) x (by simp) (fun e => (List.nodup_cons.1 h).1 (e ▸ hy)) he
end Go.Proofs.YtikppcfabnnhfaaDoor

/- Plain: how many bits a word has. -/
namespace Go.Proofs.YtikppcfabnnhfaaDoor
open Go Go.Aw
set_option linter.unusedVariables false
set_option maxRecDepth 100000
def mk (c : Nat) : Nat → Nat
  | 0 => 0
  | n + 1 => c + 256 * mk c n
def s1 (u : Nat) : Nat := (u / 2 &&& 85) + (u &&& 85)
def s2 (u : Nat) : Nat := (u / 4 &&& 51) + (u &&& 51)
def s3 (u : Nat) : Nat := (u / 16 + u) % 16
theorem h1 : ∀ u, u < 512 → u / 2 % 256 &&& 85 = (u % 256) / 2 &&& 85 := by decide +kernel
theorem h2 : ∀ u, u < 1024 → u / 4 % 256 &&& 51 = (u % 256) / 4 &&& 51 := by decide +kernel
theorem h3 : ∀ v, v < 256 → v &&& 15 = v % 16 := by decide +kernel
theorem d4 : ∀ u, u < 256 → (s2 (s1 u) % 16 ≤ 4 ∧ s2 (s1 u) / 16 ≤ 4) := by decide +kernel
end Go.Proofs.YtikppcfabnnhfaaDoor

/- Plain: how many selectors are understood. -/
namespace Go.Proofs.YtikppcfabnnhfaaDoor
open Go Go.Aw
set_option linter.unusedVariables false
set_option maxRecDepth 100000
set_option maxHeartbeats 4000000
end Go.Proofs.YtikppcfabnnhfaaDoor

/- Plain: what a check takes; what ColourFew says. -/
namespace Go.Proofs.YtikppcfabnnhfaaDoor
open Go Go.Aw
set_option linter.unusedVariables false
end Go.Proofs.YtikppcfabnnhfaaDoor

/- Plain: Colours are colours. -/
namespace Go.Proofs.YtikppcfabnnhfaaDoor
open Go Go.Aw
set_option linter.unusedVariables false
end Go.Proofs.YtikppcfabnnhfaaDoor

/- Plain: what CheckColours takes. -/
namespace Go.Proofs.YtikppcfabnnhfaaDoor
open Go Go.Aw
set_option linter.unusedVariables false
/-- Colours of a graph. -/
structure ColsOk (g cs : List Int) : Prop where
  len : cs.length = szM g 500
  bd : ∀ c ∈ cs, -1 ≤ c ∧ c < 500
  kn : ∀ i : Nat, i < cs.length → (hasW g 0 i = true → 0 ≤ cs.getD i 0)
  un : ∀ i : Nat, i < cs.length → (hasW g 0 i = false → cs.getD i 0 = -1)
  no : ∀ i j : Nat, i < cs.length → j < cs.length → 0 ≤ cs.getD i 0 → cs.getD i 0 = cs.getD j 0 → ¬ confG g i j
theorem getD_mem {l : List Int} {i : Nat} (h : i < l.length) : l.getD i 0 ∈ l := by
  rw [get_D h]; exact List.getElem_mem _
end Go.Proofs.YtikppcfabnnhfaaDoor

