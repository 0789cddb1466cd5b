/- Max, least. -/
import Derived.Test.YtikppcfabnnhfaaDoorCNC13
namespace Go.Proofs.YtikppcfabnnhfaaDoor
open Go Go.Aw
set_option linter.unusedSimpArgs false
set_option linter.unusedVariables false
set_option maxRecDepth 100000
set_option maxHeartbeats 40000000
def maxI (a x : Int) : Int := if a < x then x else a
theorem max_loop {l : List Int} (hl : l.length ≤ 1000000) : ∀ (r m : List Int) (a : Int), l = m ++ r →
    E.L 80 6 [.ro 1 (l.map (AV.int .i64)), .int .i64 a, .int .i64 m.length] [] = some ((.exit 0, [.ro 1 (l.map (AV.int .i64)), .int .i64 (r.foldl maxI a), .int .i64 l.length], []), True) := by
  intro r
  induction r with
  | nil =>
    intro m a h
    rw [List.append_nil] at h
    subst h
    have q3 : ((l.length : Int) < (l.length : Int)) = False := eq_false (by omega)
    rw [l80_6]
    simp (maxSteps := 100000000) only [ivc, anf, vlen, vbuiltin, nilR, eq_self, Nat.reduceEqDiff, Nat.reduceLT, Nat.reduceBEq, reduceCtorEq, ↓reduceIte, tyb, q3, List.foldl_nil]
  | cons x r ih =>
    intro m a h
    have hn : m.length + (r.length + 1) = l.length := by rw [h]; simp
    have hi' : (m.length : Int) < l.length := by omega
    have hg := getD_map (f := AV.int .i64) (show l[m.length]? = some x by rw [h]; simp)
    have hw : IntKind.i64.wrap ((m.length : Int) + 1) = m.length + 1 := wrap_id (by omega) (by omega)
    have hc : (0 ≤ (m.length : Int)) = True := eq_true (by omega)
    have ih' := ih (m ++ [x]) (if a < x then x else a) (by simp [h])
    simp only [List.length_append, List.length_cons, List.length_nil, Nat.zero_add, Int.natCast_add, Int.cast_ofNat_Int] at ih'
    rw [l80_6]
    simp (maxSteps := 100000000) only [ivc, anf, vlen, vbuiltin, nilR, eq_self, Nat.reduceEqDiff, Nat.reduceLT, Nat.reduceBEq, reduceCtorEq, ↓reduceIte, tyb, hi', hg, hw, hc, ih', List.foldl_cons, maxI]
theorem max_ev {x : Int} {l : List Int} (hl : (x :: l).length ≤ 1000000) : E.F 80 [.ro 1 ((x :: l).map (AV.int .i64))] [] = some ((.int .i64 (l.foldl maxI x), []), True) := by
  have h := max_loop hl l [x] x rfl
  simp only [List.map_cons, List.length_cons, List.length_nil, Nat.zero_add, Int.natCast_add, Int.cast_ofNat_Int] at h
  have q : ((l.length : Int) + 1 < 1) = False := eq_false (by omega)
  have q2 : (0 < (l.length : Int) + 1) = True := eq_true (by omega)
  rw [e80]
  simp (maxSteps := 100000000) only [ivc, anf, vlen, vbuiltin, nilR, eq_self, Nat.reduceEqDiff, Nat.reduceLT, Nat.reduceLeDiff, Nat.reduceAdd, Nat.reduceBEq, Int.reduceLE, Int.reduceToNat, reduceCtorEq, ↓reduceIte, tyb, q, q2, h]
def notW (x : Int) : Int := bitsI .xor .u64 (if IntKind.u64.signed = true then -1 else IntKind.u64.max) x
def leastL : List Int → Int → Int
  | [], _ => 512
  | w :: r, i => if w = 18446744073709551615 then leastL r (i + 1) else 64 * i + tzW (notW w)
theorem tzW_rng (x : Int) : 0 ≤ tzW x ∧ tzW x ≤ 64 := by
  unfold tzW
  split
  · omega
  · have r := tzI_rng x
    have q4 := tab_rng (tzI x).toNat (by omega)
    omega
theorem least_loop : ∀ (r m : List Int), (m ++ r).length = 8 →
    ∃ v e : Int, E.L 51 3 [.int .i64 0, .ptr 100000 0 0, .int .i64 m.length] [(100000, ⟨true, 8, [.agg ((m ++ r).map (AV.int .u64))]⟩)] =
      some ((if v = 0 then .exit 0 else .ret, [.int .i64 (if v = 0 then 0 else leastL r m.length), .ptr 100000 0 0, .int .i64 e], [(100000, ⟨true, 8, [.agg ((m ++ r).map (AV.int .u64))]⟩)]), True) ∧ (v = 0 → leastL r m.length = 512) := by
  intro r
  induction r with
  | nil =>
    intro m h
    rw [List.append_nil] at h
    have h8 : ((m.length : Int) < 8) = False := eq_false (by omega)
    refine ⟨0, m.length, ?_, fun _ => rfl⟩
    rw [l51_3, List.append_nil]
    simp (maxSteps := 100000000) only [ivc, anf, nilR, eq_self, Nat.reduceEqDiff, Nat.reduceLT, Nat.reduceLeDiff, Nat.reduceBEq, reduceCtorEq, ↓reduceIte, tyb, ldb, h8]
  | cons x r ih =>
    intro m h
    have hn : m.length + (r.length + 1) = 8 := by rw [← h]; simp
    have hi' : (m.length : Int) < 8 := by omega
    have hg := getU (l := m ++ x :: r) (i := m.length) (by simp)
    have hg2 : (m ++ x :: r).getD m.length 0 = x := by simp
    have hw : IntKind.i64.wrap ((m.length : Int) + 1) = m.length + 1 := wrap_id (by omega) (by omega)
    have hw2 : IntKind.i64.wrap (64 * (m.length : Int)) = 64 * m.length := wrap_id (by omega) (by omega)
    have hc : (0 ≤ (m.length : Int) ∧ m.length < 8) = True := eq_true (by omega)
    have a := tz_ev (x := notW x)
    have hr := tzW_rng (notW x)
    have hw3 : IntKind.i64.wrap (64 * (m.length : Int) + tzW (notW x)) = 64 * m.length + tzW (notW x) := wrap_id (by omega) (by omega)
    simp only [notW] at a hw3
    rw [hg2] at hg
    by_cases hx : x = 18446744073709551615
    · have hx' : (x != 18446744073709551615) = false := by simp [hx]
      obtain ⟨v, e, i1, i2⟩ := ih (m ++ [x]) (by simpa using h)
      simp only [List.append_assoc, List.cons_append, List.nil_append, List.length_append, List.length_cons, List.length_nil, Nat.zero_add, Int.natCast_add, Int.cast_ofNat_Int] at i1 i2
      have hl : leastL (x :: r) m.length = leastL r (m.length + 1) := by rw [leastL, if_pos hx]
      refine ⟨v, e, ?_, ?_⟩
      · rw [l51_3, hl]
        generalize m ++ x :: r = l at hg hg2 h i1 ⊢
        simp (maxSteps := 100000000) only [ivc, anf, vop, nilR, eq_self, Nat.reduceEqDiff, Nat.reduceLT, Nat.reduceLeDiff, Nat.reduceBEq, reduceCtorEq, ↓reduceIte, tyb, ldb, hi', hg, hw, hc, hx', i1]
      · rw [hl]
        exact i2
    · have hx' : (x != 18446744073709551615) = true := by simp [hx]
      refine ⟨1, m.length, ?_, fun h => by omega⟩
      have hl : leastL (x :: r) m.length = 64 * m.length + tzW (notW x) := by rw [leastL, if_neg hx]
      rw [l51_3, hl]
      generalize m ++ x :: r = l at hg hg2 h ⊢
      simp (maxSteps := 100000000) only [ivc, anf, vop, nilR, eq_self, Nat.reduceEqDiff, Nat.reduceLT, Nat.reduceLeDiff, Nat.reduceBEq, Int.reduceEq, Int.reduceNeg, reduceCtorEq, ↓reduceIte, tyb, ldb, hi', hg, hc, hx', hw2, hw3, a, notW]
theorem least_ev {l : List Int} (h : l.length = 8) : E.F 51 [.ptr 100000 0 0] [(100000, ⟨true, 8, [.agg (l.map (AV.int .u64))]⟩)] = some ((.int .i64 (leastL l 0), [(100000, ⟨true, 8, [.agg (l.map (AV.int .u64))]⟩)]), True) := by
  obtain ⟨v, e, h1, h2⟩ := least_loop l [] h
  simp only [List.length_nil, List.nil_append, Int.natCast_zero] at h1 h2
  rw [e51]
  by_cases hv : v = 0
  · rw [h2 hv]
    rw [if_pos hv, if_pos hv] at h1
    simp (maxSteps := 100000000) only [ivc, anf, eq_self, Nat.reduceEqDiff, Nat.reduceLT, Nat.reduceLeDiff, Nat.reduceAdd, Nat.reduceBEq, reduceCtorEq, ↓reduceIte, ldb, h1]
  · rw [if_neg hv, if_neg hv] at h1
    simp (maxSteps := 100000000) only [ivc, anf, eq_self, Nat.reduceEqDiff, Nat.reduceLT, Nat.reduceLeDiff, Nat.reduceAdd, Nat.reduceBEq, reduceCtorEq, ↓reduceIte, ldb, h1]
end Go.Proofs.YtikppcfabnnhfaaDoor
