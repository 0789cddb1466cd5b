/- small. -/
import Derived.Test.YtikppcfabnnhfaaDoorCNC6
namespace Go.Proofs.YtikppcfabnnhfaaDoor
open Go Go.Aw
set_option linter.unusedSimpArgs false
set_option linter.unusedVariables false
set_option maxRecDepth 100000
set_option maxHeartbeats 40000000
def lenS : List (List Et) → Int
  | [] => 0
  | c :: r => c.length + lenS r
def lenB : List Bd → Int
  | [] => 0
  | b :: r => b.ss.length + b.ms.length + b.cs.length + lenB r
theorem sm6_loop {w : Wd} {k : Int} (hl : w.classes.length ≤ 210) (hs : ∀ c ∈ w.classes, (c.length : Int) ≤ 1000000000000000) : ∀ (r m : List (List Et)) (n : Int) (b : Bool), w.classes = m ++ r → 0 ≤ n → n + r.length * 1000000000000000 ≤ 4000000000000000000 →
    E.L 14 6 [.ptr 60000 0 0, .int .i64 n, .int .i64 k, .bool b, .int .i64 m.length] (wO w) = some ((.exit 0, [.ptr 60000 0 0, .int .i64 (n + lenS r), .int .i64 k, .bool (b || r.any bigC), .int .i64 w.classes.length], wO w), True) := by
  intro r
  induction r with
  | nil =>
    intro m n b h _ _
    rw [List.append_nil] at h
    rw [l14_6]
    simp (maxSteps := 100000000) only [ivc, anf, vop, vlen, vbuiltin, nilR, eq_self, Nat.reduceEqDiff, Nat.reduceLT, Nat.reduceLeDiff, Nat.reduceAdd, Nat.reduceBEq, reduceCtorEq, ↓reduceIte, tyb, wO, wdV, h, Int.lt_irrefl, List.any_nil, lenS, Int.add_zero]
  | cons x r ih =>
    intro m n b h h0 hb
    have hn : m.length + (r.length + 1) = w.classes.length := by rw [h]; simp
    have hi' : (m.length : Int) < w.classes.length := by omega
    have hg := getD_map (f := clV) (show w.classes[m.length]? = some x by rw [h]; simp)
    have hw : IntKind.i64.wrap ((m.length : Int) + 1) = m.length + 1 := wrap_id (by omega) (by omega)
    have hc : (0 ≤ (m.length : Int)) = True := eq_true (by omega)
    have hx : (x.length : Int) ≤ 1000000000000000 := hs x (by rw [h]; simp)
    rw [List.length_cons] at hb
    have hw2 : IntKind.i64.wrap (n + x.length) = n + x.length := wrap_id (by omega) (by omega)
    have ih' := ih (m ++ [x]) (n + x.length) (b || bigC x) (by simp [h]) (by omega) (by omega)
    have e : n + x.length + lenS r = n + (x.length + lenS r) := by omega
    simp only [List.length_append, List.length_cons, List.length_nil, Nat.zero_add, Int.natCast_add, Int.cast_ofNat_Int, wO, wdV, e] at ih'
    rw [l14_6]
    cases b with
    | true =>
      simp only [Bool.true_or] at ih'
      simp (maxSteps := 100000000) only [ivc, anf, vop, vlen, vbuiltin, nilR, eq_self, Nat.reduceEqDiff, Nat.reduceLT, Nat.reduceLeDiff, Nat.reduceAdd, Nat.reduceBEq, Int.reduceLT, reduceCtorEq, ↓reduceIte, tyb, wO, wdV, clV, hi', hg, hw, hc, hw2, ih', lenS]
    | false =>
      simp only [Bool.false_or, bigC] at ih'
      simp (maxSteps := 100000000) only [ivc, anf, vop, vlen, vbuiltin, nilR, eq_self, Nat.reduceEqDiff, Nat.reduceLT, Nat.reduceLeDiff, Nat.reduceAdd, Nat.reduceBEq, reduceCtorEq, ↓reduceIte, tyb, wO, wdV, clV, hi', hg, hw, hc, hw2, ih', lenS, List.any_cons, bigC]
theorem sm11_loop {w : Wd} {n : Int} (hl : w.bodies.length ≤ 510) (hs : ∀ b ∈ w.bodies, (b.ss.length : Int) ≤ 1000000000000000 ∧ (b.ms.length : Int) ≤ 1000000000000000 ∧ (b.cs.length : Int) ≤ 1000000000000000) : ∀ (r m : List Bd) (k : Int) (b : Bool), w.bodies = m ++ r → 0 ≤ k → k + r.length * 3000000000000000 ≤ 4000000000000000000 →
    E.L 14 11 [.ptr 60000 0 0, .int .i64 n, .int .i64 k, .bool b, .int .i64 m.length] (wO w) = some ((.exit 2, [.ptr 60000 0 0, .int .i64 n, .int .i64 (k + lenB r), .bool (b || r.any bigB), .int .i64 w.bodies.length], wO w), True) := by
  intro r
  induction r with
  | nil =>
    intro m n b h _ _
    rw [List.append_nil] at h
    rw [l14_11]
    simp (maxSteps := 100000000) only [ivc, anf, vop, vlen, vbuiltin, nilR, eq_self, Nat.reduceEqDiff, Nat.reduceLT, Nat.reduceLeDiff, Nat.reduceAdd, Nat.reduceBEq, reduceCtorEq, ↓reduceIte, tyb, wO, wdV, h, Int.lt_irrefl, List.any_nil, lenB, Int.add_zero]
  | cons x r ih =>
    intro m k b h h0 hb
    have hn : m.length + (r.length + 1) = w.bodies.length := by rw [h]; simp
    have hi' : (m.length : Int) < w.bodies.length := by omega
    have hg := getD_map (f := bdV) (show w.bodies[m.length]? = some x by rw [h]; simp)
    have hw : IntKind.i64.wrap ((m.length : Int) + 1) = m.length + 1 := wrap_id (by omega) (by omega)
    have hc : (0 ≤ (m.length : Int)) = True := eq_true (by omega)
    obtain ⟨x1, x2, x3⟩ := hs x (by rw [h]; simp)
    rw [List.length_cons] at hb
    have w1 : IntKind.i64.wrap ((x.ss.length : Int) + x.ms.length) = (x.ss.length : Int) + x.ms.length := wrap_id (by omega) (by omega)
    have w2 : IntKind.i64.wrap ((x.ss.length : Int) + x.ms.length + x.cs.length) = (x.ss.length : Int) + x.ms.length + x.cs.length := wrap_id (by omega) (by omega)
    have w3 : IntKind.i64.wrap (k + ((x.ss.length : Int) + x.ms.length + x.cs.length)) = k + ((x.ss.length : Int) + x.ms.length + x.cs.length) := wrap_id (by omega) (by omega)
    have ih' := ih (m ++ [x]) (k + ((x.ss.length : Int) + x.ms.length + x.cs.length)) (b || bigB x) (by simp [h]) (by omega) (by omega)
    have e : k + ((x.ss.length : Int) + x.ms.length + x.cs.length) + lenB r = k + ((x.ss.length : Int) + x.ms.length + x.cs.length + lenB r) := by omega
    simp only [List.length_append, List.length_cons, List.length_nil, Nat.zero_add, Int.natCast_add, Int.cast_ofNat_Int, wO, wdV, e] at ih'
    rw [l14_11]
    cases b with
    | true =>
      simp only [Bool.true_or] at ih'
      simp (maxSteps := 100000000) only [ivc, anf, vop, vlen, vbuiltin, nilR, salloc, eq_self, Nat.reduceEqDiff, Nat.reduceLT, Nat.reduceLeDiff, Nat.reduceAdd, Nat.reduceBEq, Int.reduceLT, reduceCtorEq, ↓reduceIte, tyb, wO, wdV, bdV, hi', hg, hw, hc, w1, w2, w3, ih', lenB]
    | false =>
      have big : bigB x = (decide ((100 : Int) < x.ss.length) || decide ((100 : Int) < x.ms.length) || decide ((100 : Int) < x.cs.length)) := rfl
      simp only [Bool.false_or, big] at ih'
      rw [List.any_cons, big]
      by_cases b1 : (100 : Int) < x.ss.length
      · simp only [b1, decide_true, Bool.true_or] at ih'
        simp (maxSteps := 100000000) only [ivc, anf, vop, vlen, vbuiltin, nilR, salloc, eq_self, Nat.reduceEqDiff, Nat.reduceLT, Nat.reduceLeDiff, Nat.reduceAdd, Nat.reduceBEq, Int.reduceLT, reduceCtorEq, ↓reduceIte, tyb, wO, wdV, bdV, hi', hg, hw, hc, w1, w2, w3, ih', lenB, b1]
      · by_cases b2 : (100 : Int) < x.ms.length
        · simp only [b1, b2, decide_true, Bool.true_or, Bool.or_true] at ih'
          simp (maxSteps := 100000000) only [ivc, anf, vop, vlen, vbuiltin, nilR, salloc, eq_self, Nat.reduceEqDiff, Nat.reduceLT, Nat.reduceLeDiff, Nat.reduceAdd, Nat.reduceBEq, Int.reduceLT, reduceCtorEq, ↓reduceIte, tyb, wO, wdV, bdV, hi', hg, hw, hc, w1, w2, w3, ih', lenB, b1, b2]
        · simp only [b1, b2, decide_false, Bool.false_or] at ih'
          simp (maxSteps := 100000000) only [ivc, anf, vop, vlen, vbuiltin, nilR, salloc, eq_self, Nat.reduceEqDiff, Nat.reduceLT, Nat.reduceLeDiff, Nat.reduceAdd, Nat.reduceBEq, reduceCtorEq, ↓reduceIte, tyb, wO, wdV, bdV, hi', hg, hw, hc, w1, w2, w3, ih', lenB, b1, b2]
def manyM (w : Wd) : Bool := decide ((200 : Int) < w.classes.length) || decide ((500 : Int) < w.bodies.length) || decide ((64 : Int) < w.roots.length) || w.classes.any bigC || w.bodies.any bigB
def smallM (w : Wd) : Bool :=
  if (210 : Int) < w.classes.length ∨ (510 : Int) < w.bodies.length ∨ (70 : Int) < w.roots.length then false
  else if manyM w then decide (lenS w.classes < 500) && decide (lenB w.bodies < 500)
  else decide ((w.classes.length : Int) ≤ 12) && decide (lenS w.classes ≤ 60) && decide ((w.bodies.length : Int) ≤ 30) && decide (lenB w.bodies ≤ 100) && decide ((w.roots.length : Int) ≤ 10)
/-- What can be handed in: no list is longer than a machine holds. -/
def inpW (w : Wd) : Prop := (∀ c ∈ w.classes, (c.length : Int) ≤ 1000000000000000) ∧ ∀ b ∈ w.bodies, (b.ss.length : Int) ≤ 1000000000000000 ∧ (b.ms.length : Int) ≤ 1000000000000000 ∧ (b.cs.length : Int) ≤ 1000000000000000
theorem small_ev {w : Wd} (hw : inpW w) : E.F 14 [wdV w] [] = some ((.bool (smallM w), []), True) := by
  rw [e14]
  unfold smallM
  by_cases a1 : (210 : Int) < w.classes.length
  · rw [if_pos (.inl a1)]
    simp (maxSteps := 100000000) only [ivc, anf, vop, vlen, vbuiltin, nilR, salloc, eq_self, Nat.reduceEqDiff, Nat.reduceLT, Nat.reduceLeDiff, Nat.reduceAdd, Nat.reduceBEq, Int.reduceLT, reduceCtorEq, ↓reduceIte, tyb, wdV, a1]
  by_cases a2 : (510 : Int) < w.bodies.length
  · rw [if_pos (.inr (.inl a2))]
    simp (maxSteps := 100000000) only [ivc, anf, vop, vlen, vbuiltin, nilR, salloc, eq_self, Nat.reduceEqDiff, Nat.reduceLT, Nat.reduceLeDiff, Nat.reduceAdd, Nat.reduceBEq, Int.reduceLT, reduceCtorEq, ↓reduceIte, tyb, wdV, a1, a2]
  by_cases a3 : (70 : Int) < w.roots.length
  · rw [if_pos (.inr (.inr a3))]
    simp (maxSteps := 100000000) only [ivc, anf, vop, vlen, vbuiltin, nilR, salloc, eq_self, Nat.reduceEqDiff, Nat.reduceLT, Nat.reduceLeDiff, Nat.reduceAdd, Nat.reduceBEq, reduceCtorEq, ↓reduceIte, tyb, wdV, a1, a2, a3]
  rw [if_neg (by omega)]
  have lp1 := fun b => sm6_loop (w := w) (k := 0) (by omega) hw.1 w.classes [] 0 b rfl (by omega) (by omega)
  have lp2 := fun n b => sm11_loop (w := w) (n := n) (by omega) hw.2 w.bodies [] 0 b rfl (by omega) (by omega)
  simp only [List.length_nil, Int.natCast_zero, Int.zero_add, wO, wdV] at lp1 lp2
  unfold manyM
  have hb : ((200 : Int) < w.classes.length ∧ True ∧ True) ∨ (¬ (200 : Int) < w.classes.length ∧ (500 : Int) < w.bodies.length ∧ True) ∨ (¬ (200 : Int) < w.classes.length ∧ ¬ (500 : Int) < w.bodies.length ∧ (64 : Int) < w.roots.length) ∨ (¬ (200 : Int) < w.classes.length ∧ ¬ (500 : Int) < w.bodies.length ∧ ¬ (64 : Int) < w.roots.length) := by
    by_cases x1 : (200 : Int) < w.classes.length
    · exact .inl ⟨x1, trivial, trivial⟩
    by_cases x2 : (500 : Int) < w.bodies.length
    · exact .inr (.inl ⟨x1, x2, trivial⟩)
    by_cases x3 : (64 : Int) < w.roots.length
    · exact .inr (.inr (.inl ⟨x1, x2, x3⟩))
    exact .inr (.inr (.inr ⟨x1, x2, x3⟩))
  rcases hb with ⟨b1, b2, b3⟩ | ⟨b1, b2, b3⟩ | ⟨b1, b2, b3⟩ | ⟨b1, b2, b3⟩
  rotate_right
  · cases hA : w.classes.any bigC
    · cases hB : w.bodies.any bigB
      · by_cases q1 : (w.classes.length : Int) ≤ 12
        · by_cases q2 : lenS w.classes ≤ 60
          · by_cases q3 : (w.bodies.length : Int) ≤ 30
            · by_cases q4 : lenB w.bodies ≤ 100
              · simp (maxSteps := 100000000) only [ivc, anf, vop, vlen, vbuiltin, nilR, salloc, eq_self, Nat.reduceEqDiff, Nat.reduceLT, Nat.reduceLeDiff, Nat.reduceAdd, Nat.reduceBEq, reduceCtorEq, ↓reduceIte, tyb, wdV, a1, a2, a3, b1, b2, b3, lp1, lp2, hA, hB, q1, q2, q3, q4]
              · simp (maxSteps := 100000000) only [ivc, anf, vop, vlen, vbuiltin, nilR, salloc, eq_self, Nat.reduceEqDiff, Nat.reduceLT, Nat.reduceLeDiff, Nat.reduceAdd, Nat.reduceBEq, Int.reduceLE, reduceCtorEq, ↓reduceIte, tyb, wdV, a1, a2, a3, b1, b2, b3, lp1, lp2, hA, hB, q1, q2, q3, q4]
            · simp (maxSteps := 100000000) only [ivc, anf, vop, vlen, vbuiltin, nilR, salloc, eq_self, Nat.reduceEqDiff, Nat.reduceLT, Nat.reduceLeDiff, Nat.reduceAdd, Nat.reduceBEq, Int.reduceLE, reduceCtorEq, ↓reduceIte, tyb, wdV, a1, a2, a3, b1, b2, b3, lp1, lp2, hA, hB, q1, q2, q3]
          · simp (maxSteps := 100000000) only [ivc, anf, vop, vlen, vbuiltin, nilR, salloc, eq_self, Nat.reduceEqDiff, Nat.reduceLT, Nat.reduceLeDiff, Nat.reduceAdd, Nat.reduceBEq, Int.reduceLE, reduceCtorEq, ↓reduceIte, tyb, wdV, a1, a2, a3, b1, b2, b3, lp1, lp2, hA, hB, q1, q2]
        · simp (maxSteps := 100000000) only [ivc, anf, vop, vlen, vbuiltin, nilR, salloc, eq_self, Nat.reduceEqDiff, Nat.reduceLT, Nat.reduceLeDiff, Nat.reduceAdd, Nat.reduceBEq, Int.reduceLE, reduceCtorEq, ↓reduceIte, tyb, wdV, a1, a2, a3, b1, b2, b3, lp1, lp2, hA, hB, q1]
      · by_cases q1 : lenS w.classes < 500
        · simp (maxSteps := 100000000) only [ivc, anf, vop, vlen, vbuiltin, nilR, salloc, eq_self, Nat.reduceEqDiff, Nat.reduceLT, Nat.reduceLeDiff, Nat.reduceAdd, Nat.reduceBEq, reduceCtorEq, ↓reduceIte, tyb, wdV, a1, a2, a3, b1, b2, b3, lp1, lp2, hA, hB, q1]
        · simp (maxSteps := 100000000) only [ivc, anf, vop, vlen, vbuiltin, nilR, salloc, eq_self, Nat.reduceEqDiff, Nat.reduceLT, Nat.reduceLeDiff, Nat.reduceAdd, Nat.reduceBEq, reduceCtorEq, ↓reduceIte, tyb, wdV, a1, a2, a3, b1, b2, b3, lp1, lp2, hA, hB, q1]
    · by_cases q1 : lenS w.classes < 500
      · simp (maxSteps := 100000000) only [ivc, anf, vop, vlen, vbuiltin, nilR, salloc, eq_self, Nat.reduceEqDiff, Nat.reduceLT, Nat.reduceLeDiff, Nat.reduceAdd, Nat.reduceBEq, reduceCtorEq, ↓reduceIte, tyb, wdV, a1, a2, a3, b1, b2, b3, lp1, lp2, hA, q1]
      · simp (maxSteps := 100000000) only [ivc, anf, vop, vlen, vbuiltin, nilR, salloc, eq_self, Nat.reduceEqDiff, Nat.reduceLT, Nat.reduceLeDiff, Nat.reduceAdd, Nat.reduceBEq, reduceCtorEq, ↓reduceIte, tyb, wdV, a1, a2, a3, b1, b2, b3, lp1, lp2, hA, q1]
  all_goals
    by_cases q1 : lenS w.classes < 500
    · simp (maxSteps := 100000000) only [ivc, anf, vop, vlen, vbuiltin, nilR, salloc, eq_self, Nat.reduceEqDiff, Nat.reduceLT, Nat.reduceLeDiff, Nat.reduceAdd, Nat.reduceBEq, reduceCtorEq, ↓reduceIte, tyb, wdV, a1, a2, a3, b1, b2, b3, lp1, lp2, q1]
    · simp (maxSteps := 100000000) only [ivc, anf, vop, vlen, vbuiltin, nilR, salloc, eq_self, Nat.reduceEqDiff, Nat.reduceLT, Nat.reduceLeDiff, Nat.reduceAdd, Nat.reduceBEq, reduceCtorEq, ↓reduceIte, tyb, wdV, a1, a2, a3, b1, b2, b3, lp1, lp2, q1]
end Go.Proofs.YtikppcfabnnhfaaDoor
