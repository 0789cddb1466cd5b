/- Clone, the closure of Grow. -/
import Derived.Test.YtikppcfabnnhfaaDoorCNC19
namespace Go.Proofs.YtikppcfabnnhfaaDoor
open Go Go.Aw
set_option linter.unusedSimpArgs false
set_option linter.unusedVariables false
set_option maxRecDepth 100000
set_option maxHeartbeats 40000000
theorem clone46_ev {l : List Int} (hl : l.length ≤ 1000000) : E.F 46 [.ro 1 (l.map (AV.int .i64))] [] = some ((.sl 200000 0 l.length, [(200000, iR l)]), True) := by
  rw [e46]
  simp (maxSteps := 100000000) only [ivc, anf, nilR, salloc, sappend, eq_self, Nat.reduceEqDiff, Nat.reduceLT, Nat.reduceLeDiff, Nat.reduceAdd, Nat.reduceBEq, reduceCtorEq, ↓reduceIte, tyb, iR]
  by_cases h0 : l.length = 0
  · have e : l = [] := List.eq_nil_of_length_eq_zero h0
    subst e
    simp
  · rw [if_neg h0]
    exact some_true (by omega)
theorem clone45_ev {l : List (List Et)} (hl : l.length ≤ 1000000) : E.F 45 [.ro 1 (l.map clV)] [] = some ((.sl 200000 0 l.length, [(200000, ⟨false, 1, l.map clV⟩)]), True) := by
  rw [e45]
  simp (maxSteps := 100000000) only [ivc, anf, nilR, salloc, sappend, eq_self, Nat.reduceEqDiff, Nat.reduceLT, Nat.reduceLeDiff, Nat.reduceAdd, Nat.reduceBEq, reduceCtorEq, ↓reduceIte, tyb]
  by_cases h0 : l.length = 0
  · have e : l = [] := List.eq_nil_of_length_eq_zero h0
    subst e
    simp
  · rw [if_neg h0]
    exact some_true (by omega)
theorem w49 {out : List Int} {c : Int} {e : Et} (he : 0 ≤ e.s ∧ e.s < out.length) : E.F 49 [enV e, .rop (.ro 1 (out.map (AV.int .i64))) 0, .rop (.int .i64 c) 0] [] = some ((.bool (colAt out e.s == c), []), True) := by
  have q : (0 ≤ e.s ∧ e.s < out.length) = True := eq_true he
  have g : (out.map (AV.int .i64)).getD e.s.toNat .junk = .int .i64 (colAt out e.s) := getI (by omega)
  rw [e49]
  simp (maxSteps := 100000000) only [ivc, anf, vop, nilR, salloc, eq_self, Nat.reduceEqDiff, Nat.reduceLT, Nat.reduceLeDiff, Nat.reduceAdd, Nat.reduceBEq, reduceCtorEq, ↓reduceIte, tyb, enV, q, g]
theorem idx81_loop {l : List Et} {out : List Int} {c : Int} (hl : l.length ≤ 1000000) (ho : ∀ e ∈ l, 0 ≤ e.s ∧ e.s < out.length) : ∀ (r m : List Et), l = m ++ r →
    ∃ v e : Int, E.L 81 3 [.ro 2 (l.map enV), .fn (Fn.func 49) [] [.rop (.ro 1 (out.map (AV.int .i64))) 0, .rop (.int .i64 c) 0], .int .i64 0, .int .i64 l.length, .int .i64 m.length] [] = some ((if r.any (fun e => colAt out e.s == c) then .ret else .exit 0, [.ro 2 (l.map enV), .fn (Fn.func 49) [] [.rop (.ro 1 (out.map (AV.int .i64))) 0, .rop (.int .i64 c) 0], .int .i64 v, .int .i64 l.length, .int .i64 e], []), True) ∧ 0 ≤ v := by
  intro r
  induction r with
  | nil =>
    intro m h
    rw [List.append_nil] at h
    subst h
    refine ⟨0, l.length, ?_, by omega⟩
    rw [l81_3]
    simp (maxSteps := 100000000) only [ivc, anf, nilR, eq_self, Nat.reduceEqDiff, Nat.reduceLT, Nat.reduceBEq, reduceCtorEq, ↓reduceIte, tyb, Int.lt_irrefl, List.any_nil]
  | cons x r ih =>
    intro m h
    have hn : m.length + (r.length + 1) = l.length := by rw [h]; simp
    have hi' : (m.length : Int) < l.length := by omega
    have hg := getD_map (f := enV) (show l[m.length]? = some x by rw [h]; simp)
    have hw : IntKind.i64.wrap ((m.length : Int) + 1) = m.length + 1 := wrap_id (by omega) (by omega)
    have hc : (0 ≤ (m.length : Int)) = True := eq_true (by omega)
    have hb := w49 (c := c) (ho x (by rw [h]; simp))
    by_cases hx : (colAt out x.s == c) = true
    · refine ⟨m.length, m.length, ?_, by omega⟩
      rw [hx] at hb
      simp only [enV] at hb
      rw [l81_3]
      simp (maxSteps := 100000000) only [ivc, anf, nilR, eq_self, Nat.reduceEqDiff, Nat.reduceLT, Nat.reduceLeDiff, Nat.reduceAdd, Nat.reduceMul, Nat.reduceBEq, reduceCtorEq, ↓reduceIte, tyb, enV, hi', hg, hc, hb, List.any_cons, hx]
    · obtain ⟨v, e, ih', hv⟩ := ih (m ++ [x]) (by simp [h])
      refine ⟨v, e, ?_, hv⟩
      simp only [List.length_append, List.length_cons, List.length_nil, Nat.zero_add, Int.natCast_add, Int.cast_ofNat_Int] at ih'
      have hx' : (colAt out x.s == c) = false := by simpa using hx
      rw [hx'] at hb
      simp only [enV] at hb
      rw [l81_3]
      simp (maxSteps := 100000000) only [ivc, anf, nilR, eq_self, Nat.reduceEqDiff, Nat.reduceLT, Nat.reduceLeDiff, Nat.reduceAdd, Nat.reduceMul, Nat.reduceBEq, reduceCtorEq, ↓reduceIte, tyb, enV, hi', hg, hw, hc, hb, ih', List.any_cons, hx']
theorem any48_ev {l : List Et} {out : List Int} {c : Int} (hl : l.length ≤ 1000000) (ho : ∀ e ∈ l, 0 ≤ e.s ∧ e.s < out.length) : E.F 48 [.ro 2 (l.map enV), .fn (Fn.func 49) [] [.rop (.ro 1 (out.map (AV.int .i64))) 0, .rop (.int .i64 c) 0]] [] = some ((.bool (l.any fun e => colAt out e.s == c), []), True) := by
  obtain ⟨v, e, h, hv⟩ := idx81_loop (c := c) hl ho l [] rfl
  simp only [List.length_nil, Int.natCast_zero] at h
  have hv' : (decide (0 ≤ v)) = true := by simpa using hv
  rw [e48]
  by_cases ha : l.any (fun e => colAt out e.s == c) = true
  · rw [ha]
    simp only [ha, if_true] at h
    simp (maxSteps := 100000000) only [ivc, anf, vlen, vbuiltin, nilR, eq_self, Nat.reduceEqDiff, Nat.reduceLT, Nat.reduceLeDiff, Nat.reduceAdd, Nat.reduceBEq, Int.reduceNeg, reduceCtorEq, ↓reduceIte, tyb, e81, h, hv']
  · have ha' : l.any (fun e => colAt out e.s == c) = false := by simpa using ha
    rw [ha']
    simp only [ha', Bool.false_eq_true, if_false] at h
    simp (maxSteps := 100000000) only [ivc, anf, vlen, vbuiltin, nilR, eq_self, Nat.reduceEqDiff, Nat.reduceLT, Nat.reduceLeDiff, Nat.reduceAdd, Nat.reduceBEq, Int.reduceLE, Int.reduceNeg, reduceCtorEq, ↓reduceIte, tyb, e81, h]
end Go.Proofs.YtikppcfabnnhfaaDoor
