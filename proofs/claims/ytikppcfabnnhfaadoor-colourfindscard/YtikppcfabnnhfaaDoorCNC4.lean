/- Check: what is too large. -/
import Derived.Test.YtikppcfabnnhfaaDoorCNC3
namespace Go.Proofs.YtikppcfabnnhfaaDoor
open Go Go.Aw
set_option linter.unusedSimpArgs false
set_option linter.unusedVariables false
set_option maxRecDepth 100000
set_option maxHeartbeats 40000000
def bigC (c : List Et) : Bool := decide ((100 : Int) < c.length)
def bigB (b : Bd) : Bool := decide ((100 : Int) < b.ss.length) || decide ((100 : Int) < b.ms.length) || decide ((100 : Int) < b.cs.length)
theorem w68 {x : List Et} : E.F 68 [clV x] [] = some ((.bool (bigC x), []), True) := by
  rw [e68]
  unfold bigC
  simp (maxSteps := 100000000) only [ivc, anf, vlen, vbuiltin, nilR, eq_self, Nat.reduceLT, Nat.reduceLeDiff, Nat.reduceBEq, reduceCtorEq, ↓reduceIte, tyb, clV]
theorem w70 {x : Bd} : E.F 70 [bdV x] [] = some ((.bool (bigB x), []), True) := by
  rw [e70]
  unfold bigB
  by_cases h1 : (100 : Int) < x.ss.length
  · simp (maxSteps := 100000000) only [ivc, anf, vop, vlen, vbuiltin, nilR, salloc, eq_self, Nat.reduceEqDiff, Nat.reduceLT, Nat.reduceLeDiff, Nat.reduceAdd, Nat.reduceBEq, Int.reduceLT, reduceCtorEq, ↓reduceIte, tyb, bdV, h1]
  by_cases h2 : (100 : Int) < x.ms.length
  · simp (maxSteps := 100000000) only [ivc, anf, vop, vlen, vbuiltin, nilR, salloc, eq_self, Nat.reduceEqDiff, Nat.reduceLT, Nat.reduceLeDiff, Nat.reduceAdd, Nat.reduceBEq, Int.reduceLT, reduceCtorEq, ↓reduceIte, tyb, bdV, h1, h2]
  · simp (maxSteps := 100000000) only [ivc, anf, vop, vlen, vbuiltin, nilR, salloc, eq_self, Nat.reduceEqDiff, Nat.reduceLT, Nat.reduceLeDiff, Nat.reduceAdd, Nat.reduceBEq, reduceCtorEq, ↓reduceIte, tyb, bdV, h1, h2]
theorem idx85_loop {l : List (List Et)} (hl : l.length ≤ 1000000) : ∀ (r m : List (List Et)), l = m ++ r →
    ∃ v e : Int, E.L 85 3 [.ro 1 (l.map clV), .fn (Fn.func 68) [] [], .int .i64 0, .int .i64 l.length, .int .i64 m.length] [] = some ((if r.any bigC then .ret else .exit 0, [.ro 1 (l.map clV), .fn (Fn.func 68) [] [], .int .i64 v, .int .i64 l.length, .int .i64 e], []), True) ∧ 0 ≤ v := by
  intro r
  induction r with
  | nil =>
    intro m h
    rw [List.append_nil] at h
    subst h
    refine ⟨0, l.length, ?_, by omega⟩
    rw [l85_3]
    simp (maxSteps := 100000000) only [ivc, anf, nilR, eq_self, Nat.reduceEqDiff, Nat.reduceLT, Nat.reduceBEq, reduceCtorEq, ↓reduceIte, tyb, Int.lt_irrefl, List.any_nil]
  | cons x r ih =>
    intro m h
    have hn : m.length + (r.length + 1) = l.length := by rw [h]; simp
    have hi' : (m.length : Int) < l.length := by omega
    have hg := getD_map (f := clV) (show l[m.length]? = some x by rw [h]; simp)
    have hw : IntKind.i64.wrap ((m.length : Int) + 1) = m.length + 1 := wrap_id (by omega) (by omega)
    have hc : (0 ≤ (m.length : Int)) = True := eq_true (by omega)
    by_cases hx : bigC x = true
    · refine ⟨m.length, m.length, ?_, by omega⟩
      have hb := w68 (x := x)
      rw [hx] at hb
      simp only [clV] at hb
      rw [l85_3]
      simp (maxSteps := 100000000) only [ivc, anf, nilR, eq_self, Nat.reduceEqDiff, Nat.reduceLT, Nat.reduceAdd, Nat.reduceMul, Nat.reduceBEq, reduceCtorEq, ↓reduceIte, tyb, clV, hi', hg, hc, hb, List.any_cons, hx]
    · obtain ⟨v, e, ih', hv⟩ := ih (m ++ [x]) (by simp [h])
      refine ⟨v, e, ?_, hv⟩
      simp only [List.length_append, List.length_cons, List.length_nil, Nat.zero_add, Int.natCast_add, Int.cast_ofNat_Int] at ih'
      have hx' : bigC x = false := by simpa using hx
      have hb := w68 (x := x)
      rw [hx'] at hb
      simp only [clV] at hb
      rw [l85_3]
      simp (maxSteps := 100000000) only [ivc, anf, nilR, eq_self, Nat.reduceEqDiff, Nat.reduceLT, Nat.reduceAdd, Nat.reduceMul, Nat.reduceBEq, reduceCtorEq, ↓reduceIte, tyb, clV, hi', hg, hw, hc, hb, ih', List.any_cons, hx']
theorem any67_ev {l : List (List Et)} (hl : l.length ≤ 1000000) : E.F 67 [.ro 1 (l.map clV), .fn (Fn.func 68) [] []] [] = some ((.bool (l.any bigC), []), True) := by
  obtain ⟨v, e, h, hv⟩ := idx85_loop hl l [] rfl
  simp only [List.length_nil, Int.natCast_zero] at h
  have hv' : (decide (0 ≤ v)) = true := by simpa using hv
  rw [e67]
  by_cases ha : l.any bigC = true
  · rw [ha] at h ⊢
    simp only [if_true] at h
    simp (maxSteps := 100000000) only [ivc, anf, vlen, vbuiltin, nilR, eq_self, Nat.reduceEqDiff, Nat.reduceLT, Nat.reduceLeDiff, Nat.reduceAdd, Nat.reduceBEq, Int.reduceNeg, reduceCtorEq, ↓reduceIte, tyb, e85, h, hv']
  · have ha' : l.any bigC = false := by simpa using ha
    rw [ha'] at h ⊢
    simp only [Bool.false_eq_true, if_false] at h
    simp (maxSteps := 100000000) only [ivc, anf, vlen, vbuiltin, nilR, eq_self, Nat.reduceEqDiff, Nat.reduceLT, Nat.reduceLeDiff, Nat.reduceAdd, Nat.reduceBEq, Int.reduceLE, Int.reduceNeg, reduceCtorEq, ↓reduceIte, tyb, e85, h]
theorem idx86_loop {l : List Bd} (hl : l.length ≤ 1000000) : ∀ (r m : List Bd), l = m ++ r →
    ∃ v e : Int, E.L 86 3 [.ro 3 (l.map bdV), .fn (Fn.func 70) [] [], .int .i64 0, .int .i64 l.length, .int .i64 m.length] [] = some ((if r.any bigB then .ret else .exit 0, [.ro 3 (l.map bdV), .fn (Fn.func 70) [] [], .int .i64 v, .int .i64 l.length, .int .i64 e], []), True) ∧ 0 ≤ v := by
  intro r
  induction r with
  | nil =>
    intro m h
    rw [List.append_nil] at h
    subst h
    refine ⟨0, l.length, ?_, by omega⟩
    rw [l86_3]
    simp (maxSteps := 100000000) only [ivc, anf, nilR, eq_self, Nat.reduceEqDiff, Nat.reduceLT, Nat.reduceBEq, reduceCtorEq, ↓reduceIte, tyb, Int.lt_irrefl, List.any_nil]
  | cons x r ih =>
    intro m h
    have hn : m.length + (r.length + 1) = l.length := by rw [h]; simp
    have hi' : (m.length : Int) < l.length := by omega
    have hg := getD_map (f := bdV) (show l[m.length]? = some x by rw [h]; simp)
    have hw : IntKind.i64.wrap ((m.length : Int) + 1) = m.length + 1 := wrap_id (by omega) (by omega)
    have hc : (0 ≤ (m.length : Int)) = True := eq_true (by omega)
    by_cases hx : bigB x = true
    · refine ⟨m.length, m.length, ?_, by omega⟩
      have hb := w70 (x := x)
      rw [hx] at hb
      simp only [bdV] at hb
      rw [l86_3]
      simp (maxSteps := 100000000) only [ivc, anf, nilR, eq_self, Nat.reduceEqDiff, Nat.reduceLT, Nat.reduceLeDiff, Nat.reduceAdd, Nat.reduceMul, Nat.reduceBEq, reduceCtorEq, ↓reduceIte, tyb, bdV, hi', hg, hc, hb, List.any_cons, hx]
    · obtain ⟨v, e, ih', hv⟩ := ih (m ++ [x]) (by simp [h])
      refine ⟨v, e, ?_, hv⟩
      simp only [List.length_append, List.length_cons, List.length_nil, Nat.zero_add, Int.natCast_add, Int.cast_ofNat_Int] at ih'
      have hx' : bigB x = false := by simpa using hx
      have hb := w70 (x := x)
      rw [hx'] at hb
      simp only [bdV] at hb
      rw [l86_3]
      simp (maxSteps := 100000000) only [ivc, anf, nilR, eq_self, Nat.reduceEqDiff, Nat.reduceLT, Nat.reduceLeDiff, Nat.reduceAdd, Nat.reduceMul, Nat.reduceBEq, reduceCtorEq, ↓reduceIte, tyb, bdV, hi', hg, hw, hc, hb, ih', List.any_cons, hx']
theorem any69_ev {l : List Bd} (hl : l.length ≤ 1000000) : E.F 69 [.ro 3 (l.map bdV), .fn (Fn.func 70) [] []] [] = some ((.bool (l.any bigB), []), True) := by
  obtain ⟨v, e, h, hv⟩ := idx86_loop hl l [] rfl
  simp only [List.length_nil, Int.natCast_zero] at h
  have hv' : (decide (0 ≤ v)) = true := by simpa using hv
  rw [e69]
  by_cases ha : l.any bigB = true
  · rw [ha] at h ⊢
    simp only [if_true] at h
    simp (maxSteps := 100000000) only [ivc, anf, vlen, vbuiltin, nilR, eq_self, Nat.reduceEqDiff, Nat.reduceLT, Nat.reduceLeDiff, Nat.reduceAdd, Nat.reduceBEq, Int.reduceNeg, reduceCtorEq, ↓reduceIte, tyb, e86, h, hv']
  · have ha' : l.any bigB = false := by simpa using ha
    rw [ha'] at h ⊢
    simp only [Bool.false_eq_true, if_false] at h
    simp (maxSteps := 100000000) only [ivc, anf, vlen, vbuiltin, nilR, eq_self, Nat.reduceEqDiff, Nat.reduceLT, Nat.reduceLeDiff, Nat.reduceAdd, Nat.reduceBEq, Int.reduceLE, Int.reduceNeg, reduceCtorEq, ↓reduceIte, tyb, e86, h]
end Go.Proofs.YtikppcfabnnhfaaDoor
