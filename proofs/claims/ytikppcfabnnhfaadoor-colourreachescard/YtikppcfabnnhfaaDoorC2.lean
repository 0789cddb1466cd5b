/- A part of the proof of ColourReachesCardSaid. -/
import Derived.Test.YtikppcfabnnhfaaDoorC1
/- Check: classes. -/
namespace Go.Proofs.YtikppcfabnnhfaaDoor
open Go Go.Aw
set_option linter.unusedSimpArgs false
set_option linter.unusedVariables false
set_option maxRecDepth 100000
set_option maxHeartbeats 40000000
def badE (nb : Int) (e : Et) : Bool := decide (e.s < 0) || decide (500 ≤ e.s) || decide (e.m < 0) || decide (nb ≤ e.m)
def ckC (nb : Int) : Option Int -> List Et -> Int
 | _, [] => 0
 | p, e :: r => if badE nb e then 3 else if (match p with | some q => decide (e.s ≤ q) | none => false) then 7 else ckC nb (some e.s) r
def ckV (l : List Et) (nb t i : Int) : List AV := [.ro 2 (l.map enV), .int .i64 nb, .int .i64 t, .ro 2 (l.map enV), .int .i64 l.length, .int .i64 i]
theorem ck_loop {l : List Et} {nb : Int} (hl : l.length ≤ 1000000) : ∀ (r m : List Et) (q : Et), l = (m ++ [q]) ++ r ->
  ∃ t e : Int, E.L 71 3 (ckV l nb 0 ((m ++ [q]).length : Nat)) [] = some ((if ckC nb (some q.s) r = 0 then .exit 0 else .ret, ckV l nb (ckC nb (some q.s) r) e, []), True) := by
 intro r
 induction r with
 | nil =>
  intro m q h
  rw [List.append_nil] at h
  refine ⟨0, l.length, ?_⟩
  rw [<- h, l71_3]
  simp (maxSteps := 100000000) only [ivc, anf, nilR, eq_self, Nat.reduceEqDiff, Nat.reduceLT, Nat.reduceAdd, Nat.reduceBEq, reduceCtorEq, ↓reduceIte, tyb, ckV, Int.lt_irrefl, ckC]
 | cons x r ih =>
  intro m q h
  have hml : (m ++ [q]).length = m.length + 1 := by simp
  have hn : m.length + 1 + (r.length + 1) = l.length := by rw [h]; simp; omega
  have hi' : (m.length : Int) + 1 < l.length := by omega
  have hg := getD_map (f := enV) (show l[m.length + 1]? = some x by rw [h]; simp)
  have hg2 := getD_map (f := enV) (show l[m.length]? = some q by rw [h]; simp)
  have hw : IntKind.i64.wrap ((m.length : Int) + 1 + 1) = m.length + 1 + 1 := wrap_id (by omega) (by omega)
  have hw2 : IntKind.i64.wrap ((m.length : Int) + 1 - 1) = m.length := by rw [Int.add_sub_cancel]; exact wrap_id (by omega) (by omega)
  have hc : (0 ≤ (m.length : Int) + 1) = True := eq_true (by omega)
  have hp : (0 < (m.length : Int) + 1) = True := eq_true (by omega)
  have hq : (0 ≤ (m.length : Int) /\ (m.length : Int) < l.length) = True := eq_true (by omega)
  have hnt : ((m.length : Int) + 1).toNat = m.length + 1 := by omega
  rw [hml]
  simp only [Int.natCast_add, Int.cast_ofNat_Int]
  have ih' := ih (m ++ [q]) x (by rw [h]; simp)
  simp only [List.length_append, List.length_cons, List.length_nil, Nat.zero_add, Int.natCast_add, Int.cast_ofNat_Int] at ih'
  have go : (∃ t, t ≠ 0 /\ ckC nb (some q.s) (x :: r) = t /\ E.L 71 3 (ckV l nb 0 ((m.length : Int) + 1)) [] = some ((.ret, ckV l nb t ((m.length : Int) + 1), []), True)) \/ (ckC nb (some q.s) (x :: r) = ckC nb (some x.s) r /\ E.L 71 3 (ckV l nb 0 ((m.length : Int) + 1)) [] = E.L 71 3 (ckV l nb 0 ((m.length : Int) + 1 + 1)) []) := by
   by_cases c1 : x.s < 0
   ·refine .inl ⟨3, by omega, by simp [ckC, badE, c1], ?_⟩
    rw [l71_3]
    simp (maxSteps := 100000000) only [ivc, anf, vop, nilR, salloc, eq_self, Nat.reduceEqDiff, Nat.reduceLT, Nat.reduceLeDiff, Nat.reduceAdd, Nat.reduceBEq, Int.reduceLT, Int.reduceLE, reduceCtorEq, ↓reduceIte, tyb, ckV, enV, hi', hg, hnt, hc, c1]
   by_cases c2 : 500 ≤ x.s
   ·refine .inl ⟨3, by omega, by simp [ckC, badE, c2], ?_⟩
    rw [l71_3]
    simp (maxSteps := 100000000) only [ivc, anf, vop, nilR, salloc, eq_self, Nat.reduceEqDiff, Nat.reduceLT, Nat.reduceLeDiff, Nat.reduceAdd, Nat.reduceBEq, Int.reduceLT, reduceCtorEq, ↓reduceIte, tyb, ckV, enV, hi', hg, hnt, hc, c1, c2]
   by_cases c3 : x.m < 0
   ·refine .inl ⟨3, by omega, by simp [ckC, badE, c3], ?_⟩
    rw [l71_3]
    simp (maxSteps := 100000000) only [ivc, anf, vop, nilR, salloc, eq_self, Nat.reduceEqDiff, Nat.reduceLT, Nat.reduceLeDiff, Nat.reduceAdd, Nat.reduceBEq, reduceCtorEq, ↓reduceIte, tyb, ckV, enV, hi', hg, hnt, hc, c1, c2, c3]
   by_cases c4 : nb ≤ x.m
   ·refine .inl ⟨3, by omega, by simp [ckC, badE, c4], ?_⟩
    rw [l71_3]
    simp (maxSteps := 100000000) only [ivc, anf, vop, nilR, salloc, eq_self, Nat.reduceEqDiff, Nat.reduceLT, Nat.reduceLeDiff, Nat.reduceAdd, Nat.reduceBEq, reduceCtorEq, ↓reduceIte, tyb, ckV, enV, hi', hg, hnt, hc, c1, c2, c3, c4]
   by_cases c5 : x.s ≤ q.s
   ·refine .inl ⟨7, by omega, by simp [ckC, badE, c1, c2, c3, c4, c5], ?_⟩
    rw [l71_3]
    simp (maxSteps := 100000000) only [ivc, anf, vop, nilR, salloc, eq_self, Nat.reduceEqDiff, Nat.reduceLT, Nat.reduceLeDiff, Nat.reduceAdd, Nat.reduceBEq, reduceCtorEq, ↓reduceIte, tyb, ckV, enV, hi', hg, hg2, hq, hw2, hp, hnt, hc, c1, c2, c3, c4, c5]
   ·refine .inr ⟨by simp [ckC, badE, c1, c2, c3, c4, c5], ?_⟩
    rw [l71_3]
    simp (maxSteps := 100000000) only [ivc, anf, vop, nilR, salloc, eq_self, Nat.reduceEqDiff, Nat.reduceLT, Nat.reduceLeDiff, Nat.reduceAdd, Nat.reduceBEq, reduceCtorEq, ↓reduceIte, tyb, ckV, enV, hi', hg, hg2, hq, hw, hw2, hp, hnt, hc, c1, c2, c3, c4, c5]
  rcases go with ⟨t, h1, h2, h3⟩ | ⟨h2, h3⟩
  ·refine ⟨0, (m.length : Int) + 1, ?_⟩
   rw [h2, if_neg h1, h3]
  ·obtain ⟨t, e, ih'⟩ := ih'
   refine ⟨t, e, ?_⟩
   rw [h2, h3]
   exact ih'
theorem ckC_ev {l : List Et} {nb : Int} (hl : l.length ≤ 1000000) : E.F 71 [.ro 2 (l.map enV), .int .i64 nb] [] = some ((.int .i64 (ckC nb none l), []), True) := by
 cases l with
 | nil =>
  have h : E.L 71 3 [.ro 2 [], .int .i64 nb, .int .i64 0, .ro 2 [], .int .i64 0, .int .i64 0] [] = some ((.exit 0, [.ro 2 [], .int .i64 nb, .int .i64 0, .ro 2 [], .int .i64 0, .int .i64 0], []), True) := by
   rw [l71_3]
   simp (maxSteps := 100000000) only [ivc, anf, nilR, eq_self, Nat.reduceEqDiff, Nat.reduceLT, Nat.reduceAdd, Nat.reduceBEq, reduceCtorEq, ↓reduceIte, tyb, Int.lt_irrefl]
  rw [e71]
  simp (maxSteps := 100000000) only [ivc, anf, vlen, vbuiltin, eq_self, Nat.reduceEqDiff, Nat.reduceLT, Nat.reduceLeDiff, Nat.reduceAdd, Nat.reduceBEq, reduceCtorEq, ↓reduceIte, tyb, h, ckC]
 | cons x r =>
  have hi' : (0 : Int) < (r.length : Int) + 1 := by omega
  have first : (∃ t, t ≠ 0 /\ ckC nb none (x :: r) = t /\ E.L 71 3 (ckV (x :: r) nb 0 0) [] = some ((.ret, ckV (x :: r) nb t 0, []), True)) \/ (ckC nb none (x :: r) = ckC nb (some x.s) r /\ E.L 71 3 (ckV (x :: r) nb 0 0) [] = E.L 71 3 (ckV (x :: r) nb 0 1) []) := by
   by_cases c1 : x.s < 0
   ·refine .inl ⟨3, by omega, by simp [ckC, badE, c1], ?_⟩
    rw [l71_3]
    simp (maxSteps := 100000000) only [ivc, anf, vop, nilR, salloc, eq_self, Nat.reduceEqDiff, Nat.reduceLT, Nat.reduceLeDiff, Nat.reduceAdd, Nat.reduceBEq, Int.reduceLT, Int.reduceLE, Int.reduceToNat, reduceCtorEq, ↓reduceIte, tyb, ckV, enV, hi', c1]
   by_cases c2 : 500 ≤ x.s
   ·refine .inl ⟨3, by omega, by simp [ckC, badE, c2], ?_⟩
    rw [l71_3]
    simp (maxSteps := 100000000) only [ivc, anf, vop, nilR, salloc, eq_self, Nat.reduceEqDiff, Nat.reduceLT, Nat.reduceLeDiff, Nat.reduceAdd, Nat.reduceBEq, Int.reduceLT, Int.reduceLE, Int.reduceToNat, reduceCtorEq, ↓reduceIte, tyb, ckV, enV, hi', c1, c2]
   by_cases c3 : x.m < 0
   ·refine .inl ⟨3, by omega, by simp [ckC, badE, c3], ?_⟩
    rw [l71_3]
    simp (maxSteps := 100000000) only [ivc, anf, vop, nilR, salloc, eq_self, Nat.reduceEqDiff, Nat.reduceLT, Nat.reduceLeDiff, Nat.reduceAdd, Nat.reduceBEq, Int.reduceLE, Int.reduceToNat, reduceCtorEq, ↓reduceIte, tyb, ckV, enV, hi', c1, c2, c3]
   by_cases c4 : nb ≤ x.m
   ·refine .inl ⟨3, by omega, by simp [ckC, badE, c4], ?_⟩
    rw [l71_3]
    simp (maxSteps := 100000000) only [ivc, anf, vop, nilR, salloc, eq_self, Nat.reduceEqDiff, Nat.reduceLT, Nat.reduceLeDiff, Nat.reduceAdd, Nat.reduceBEq, Int.reduceLE, Int.reduceToNat, reduceCtorEq, ↓reduceIte, tyb, ckV, enV, hi', c1, c2, c3, c4]
   ·refine .inr ⟨by simp [ckC, badE, c1, c2, c3, c4], ?_⟩
    rw [l71_3]
    simp (maxSteps := 100000000) only [ivc, anf, vop, nilR, salloc, eq_self, Nat.reduceEqDiff, Nat.reduceLT, Nat.reduceLeDiff, Nat.reduceAdd, Nat.reduceBEq, Int.reduceLT, Int.reduceLE, Int.reduceNeg, Int.reduceToNat, Int.reduceAdd, Int.reduceSub, reduceCtorEq, ↓reduceIte, tyb, ckV, enV, hi', c1, c2, c3, c4]
  have all : ∃ t e : Int, E.L 71 3 (ckV (x :: r) nb 0 0) [] = some ((if ckC nb none (x :: r) = 0 then .exit 0 else .ret, ckV (x :: r) nb (ckC nb none (x :: r)) e, []), True) := by
   rcases first with ⟨t, h1, h2, h3⟩ | ⟨h2, h3⟩
   ·exact ⟨0, 0, by rw [h2, if_neg h1, h3]⟩
   ·obtain ⟨t, e, h⟩ := ck_loop (nb := nb) hl r [] x rfl
    refine ⟨t, e, ?_⟩
    rw [h2, h3]
    exact h
  obtain ⟨t, e, h⟩ := all
  simp only [ckV, List.map_cons, List.length_cons, enV, Int.natCast_add, Int.cast_ofNat_Int] at h
  rw [e71]
  by_cases hz : ckC nb none (x :: r) = 0
  ·rw [hz] at h ⊢
   simp only [if_true] at h
   simp (maxSteps := 100000000) only [ivc, anf, vlen, vbuiltin, eq_self, Nat.reduceEqDiff, Nat.reduceLT, Nat.reduceLeDiff, Nat.reduceAdd, Nat.reduceBEq, reduceCtorEq, ↓reduceIte, tyb, enV, h]
  ·rw [if_neg hz] at h
   simp (maxSteps := 100000000) only [ivc, anf, vlen, vbuiltin, eq_self, Nat.reduceEqDiff, Nat.reduceLT, Nat.reduceLeDiff, Nat.reduceAdd, Nat.reduceBEq, reduceCtorEq, ↓reduceIte, tyb, enV, h]
def bigC (c : List Et) : Bool := decide ((100 : Int) < c.length)
def bigB (b : Bd) : Bool := decide ((100 : Int) < b.ss.length) || decide ((100 : Int) < b.ms.length) || decide ((100 : Int) < b.cs.length)
theorem w68 {x : List Et} : E.F 68 [clV x] [] = some ((.bool (bigC x), []), True) := by
 rw [e68]
 unfold bigC
 simp (maxSteps := 100000000) only [ivc, anf, vlen, vbuiltin, nilR, eq_self, Nat.reduceLT, Nat.reduceLeDiff, Nat.reduceBEq, reduceCtorEq, ↓reduceIte, tyb, clV]
theorem w70 {x : Bd} : E.F 70 [bdV x] [] = some ((.bool (bigB x), []), True) := by
 rw [e70]
 unfold bigB
 by_cases h1 : (100 : Int) < x.ss.length
 ·simp (maxSteps := 100000000) only [ivc, anf, vop, vlen, vbuiltin, nilR, salloc, eq_self, Nat.reduceEqDiff, Nat.reduceLT, Nat.reduceLeDiff, Nat.reduceAdd, Nat.reduceBEq, Int.reduceLT, reduceCtorEq, ↓reduceIte, tyb, bdV, h1]
 by_cases h2 : (100 : Int) < x.ms.length
 ·simp (maxSteps := 100000000) only [ivc, anf, vop, vlen, vbuiltin, nilR, salloc, eq_self, Nat.reduceEqDiff, Nat.reduceLT, Nat.reduceLeDiff, Nat.reduceAdd, Nat.reduceBEq, Int.reduceLT, reduceCtorEq, ↓reduceIte, tyb, bdV, h1, h2]
 ·simp (maxSteps := 100000000) only [ivc, anf, vop, vlen, vbuiltin, nilR, salloc, eq_self, Nat.reduceEqDiff, Nat.reduceLT, Nat.reduceLeDiff, Nat.reduceAdd, Nat.reduceBEq, reduceCtorEq, ↓reduceIte, tyb, bdV, h1, h2]
theorem idx85_loop {l : List (List Et)} (hl : l.length ≤ 1000000) : ∀ (r m : List (List Et)), l = m ++ r ->
  ∃ v e : Int, E.L 85 3 [.ro 1 (l.map clV), .fn (Fn.func 68) [] [], .int .i64 0, .int .i64 l.length, .int .i64 m.length] [] = some ((if r.any bigC then .ret else .exit 0, [.ro 1 (l.map clV), .fn (Fn.func 68) [] [], .int .i64 v, .int .i64 l.length, .int .i64 e], []), True) /\ 0 ≤ v := by
 intro r
 induction r with
 | nil =>
  intro m h
  rw [List.append_nil] at h
  subst h
  refine ⟨0, l.length, ?_, by omega⟩
  rw [l85_3]
  simp (maxSteps := 100000000) only [ivc, anf, nilR, eq_self, Nat.reduceEqDiff, Nat.reduceLT, Nat.reduceBEq, reduceCtorEq, ↓reduceIte, tyb, Int.lt_irrefl, List.any_nil]
 | cons x r ih =>
  intro m h
  have hn : m.length + (r.length + 1) = l.length := by rw [h]; simp
  have hi' : (m.length : Int) < l.length := by omega
  have hg := getD_map (f := clV) (show l[m.length]? = some x by rw [h]; simp)
  have hw : IntKind.i64.wrap ((m.length : Int) + 1) = m.length + 1 := wrap_id (by omega) (by omega)
  have hc : (0 ≤ (m.length : Int)) = True := eq_true (by omega)
  by_cases hx : bigC x = true
  ·refine ⟨m.length, m.length, ?_, by omega⟩
   have hb := w68 (x := x)
   rw [hx] at hb
   simp only [clV] at hb
   rw [l85_3]
   simp (maxSteps := 100000000) only [ivc, anf, nilR, eq_self, Nat.reduceEqDiff, Nat.reduceLT, Nat.reduceAdd, Nat.reduceMul, Nat.reduceBEq, reduceCtorEq, ↓reduceIte, tyb, clV, hi', hg, hc, hb, List.any_cons, hx]
  ·obtain ⟨v, e, ih', hv⟩ := ih (m ++ [x]) (by simp [h])
   refine ⟨v, e, ?_, hv⟩
   simp only [List.length_append, List.length_cons, List.length_nil, Nat.zero_add, Int.natCast_add, Int.cast_ofNat_Int] at ih'
   have hx' : bigC x = false := by simpa using hx
   have hb := w68 (x := x)
   rw [hx'] at hb
   simp only [clV] at hb
   rw [l85_3]
   simp (maxSteps := 100000000) only [ivc, anf, nilR, eq_self, Nat.reduceEqDiff, Nat.reduceLT, Nat.reduceAdd, Nat.reduceMul, Nat.reduceBEq, reduceCtorEq, ↓reduceIte, tyb, clV, hi', hg, hw, hc, hb, ih', List.any_cons, hx']
theorem any67_ev {l : List (List Et)} (hl : l.length ≤ 1000000) : E.F 67 [.ro 1 (l.map clV), .fn (Fn.func 68) [] []] [] = some ((.bool (l.any bigC), []), True) := by
 obtain ⟨v, e, h, hv⟩ := idx85_loop hl l [] rfl
 simp only [List.length_nil, Int.natCast_zero] at h
 have hv' : (decide (0 ≤ v)) = true := by simpa using hv
 rw [e67]
 by_cases ha : l.any bigC = true
 ·rw [ha] at h ⊢
  simp only [if_true] at h
  simp (maxSteps := 100000000) only [ivc, anf, vlen, vbuiltin, nilR, eq_self, Nat.reduceEqDiff, Nat.reduceLT, Nat.reduceLeDiff, Nat.reduceAdd, Nat.reduceBEq, Int.reduceNeg, reduceCtorEq, ↓reduceIte, tyb, e85, h, hv']
 ·have ha' : l.any bigC = false := by simpa using ha
  rw [ha'] at h ⊢
  simp only [Bool.false_eq_true, if_false] at h
  simp (maxSteps := 100000000) only [ivc, anf, vlen, vbuiltin, nilR, eq_self, Nat.reduceEqDiff, Nat.reduceLT, Nat.reduceLeDiff, Nat.reduceAdd, Nat.reduceBEq, Int.reduceLE, Int.reduceNeg, reduceCtorEq, ↓reduceIte, tyb, e85, h]
theorem idx86_loop {l : List Bd} (hl : l.length ≤ 1000000) : ∀ (r m : List Bd), l = m ++ r ->
  ∃ v e : Int, E.L 86 3 [.ro 3 (l.map bdV), .fn (Fn.func 70) [] [], .int .i64 0, .int .i64 l.length, .int .i64 m.length] [] = some ((if r.any bigB then .ret else .exit 0, [.ro 3 (l.map bdV), .fn (Fn.func 70) [] [], .int .i64 v, .int .i64 l.length, .int .i64 e], []), True) /\ 0 ≤ v := by
 intro r
 induction r with
 | nil =>
  intro m h
  rw [List.append_nil] at h
  subst h
  refine ⟨0, l.length, ?_, by omega⟩
  rw [l86_3]
  simp (maxSteps := 100000000) only [ivc, anf, nilR, eq_self, Nat.reduceEqDiff, Nat.reduceLT, Nat.reduceBEq, reduceCtorEq, ↓reduceIte, tyb, Int.lt_irrefl, List.any_nil]
 | cons x r ih =>
  intro m h
  have hn : m.length + (r.length + 1) = l.length := by rw [h]; simp
  have hi' : (m.length : Int) < l.length := by omega
  have hg := getD_map (f := bdV) (show l[m.length]? = some x by rw [h]; simp)
  have hw : IntKind.i64.wrap ((m.length : Int) + 1) = m.length + 1 := wrap_id (by omega) (by omega)
  have hc : (0 ≤ (m.length : Int)) = True := eq_true (by omega)
  by_cases hx : bigB x = true
  ·refine ⟨m.length, m.length, ?_, by omega⟩
   have hb := w70 (x := x)
   rw [hx] at hb
   simp only [bdV] at hb
   rw [l86_3]
   simp (maxSteps := 100000000) only [ivc, anf, nilR, eq_self, Nat.reduceEqDiff, Nat.reduceLT, Nat.reduceLeDiff, Nat.reduceAdd, Nat.reduceMul, Nat.reduceBEq, reduceCtorEq, ↓reduceIte, tyb, bdV, hi', hg, hc, hb, List.any_cons, hx]
  ·obtain ⟨v, e, ih', hv⟩ := ih (m ++ [x]) (by simp [h])
   refine ⟨v, e, ?_, hv⟩
   simp only [List.length_append, List.length_cons, List.length_nil, Nat.zero_add, Int.natCast_add, Int.cast_ofNat_Int] at ih'
   have hx' : bigB x = false := by simpa using hx
   have hb := w70 (x := x)
   rw [hx'] at hb
   simp only [bdV] at hb
   rw [l86_3]
   simp (maxSteps := 100000000) only [ivc, anf, nilR, eq_self, Nat.reduceEqDiff, Nat.reduceLT, Nat.reduceLeDiff, Nat.reduceAdd, Nat.reduceMul, Nat.reduceBEq, reduceCtorEq, ↓reduceIte, tyb, bdV, hi', hg, hw, hc, hb, ih', List.any_cons, hx']
theorem any69_ev {l : List Bd} (hl : l.length ≤ 1000000) : E.F 69 [.ro 3 (l.map bdV), .fn (Fn.func 70) [] []] [] = some ((.bool (l.any bigB), []), True) := by
 obtain ⟨v, e, h, hv⟩ := idx86_loop hl l [] rfl
 simp only [List.length_nil, Int.natCast_zero] at h
 have hv' : (decide (0 ≤ v)) = true := by simpa using hv
 rw [e69]
 by_cases ha : l.any bigB = true
 ·rw [ha] at h ⊢
  simp only [if_true] at h
  simp (maxSteps := 100000000) only [ivc, anf, vlen, vbuiltin, nilR, eq_self, Nat.reduceEqDiff, Nat.reduceLT, Nat.reduceLeDiff, Nat.reduceAdd, Nat.reduceBEq, Int.reduceNeg, reduceCtorEq, ↓reduceIte, tyb, e86, h, hv']
 ·have ha' : l.any bigB = false := by simpa using ha
  rw [ha'] at h ⊢
  simp only [Bool.false_eq_true, if_false] at h
  simp (maxSteps := 100000000) only [ivc, anf, vlen, vbuiltin, nilR, eq_self, Nat.reduceEqDiff, Nat.reduceLT, Nat.reduceLeDiff, Nat.reduceAdd, Nat.reduceBEq, Int.reduceLE, Int.reduceNeg, reduceCtorEq, ↓reduceIte, tyb, e86, h]
def ckCs (nb : Int) : List (List Et) -> Int
 | [] => 0
 | c :: r => if ckC nb none c = 0 then ckCs nb r else ckC nb none c
def badB (nb nc : Int) (b : Bd) : Bool := !(b.ss.all (inR 500)) || !(b.ms.all (inR nb)) || !(b.cs.all (inR nc))
def ckM (w : Wd) : Int :=
 if (200 : Int) < w.classes.length \/ (500 : Int) < w.bodies.length \/ (64 : Int) < w.roots.length then 4
 else if w.classes.any bigC then 4 else if w.bodies.any bigB then 4
 else if ckCs w.bodies.length w.classes ≠ 0 then ckCs w.bodies.length w.classes
 else if w.bodies.any (badB w.bodies.length w.classes.length) then 3
 else if w.roots.all (inR w.bodies.length) then 0 else 3
def wO (w : Wd) : HL := [(60000, ⟨true, 3, [wdV w]⟩)]
def cV9 (w : Wd) (t i : Int) : List AV := [.ptr 60000 0 0, .int .i64 t, .ro 1 (w.classes.map clV), .int .i64 w.classes.length, .int .i64 i]
theorem ck9_loop {w : Wd} (hl : w.classes.length ≤ 1000) (hs : ∀ c ∈ w.classes, c.length ≤ 1000) : ∀ (r m : List (List Et)), w.classes = m ++ r ->
  ∃ e : Int, E.L 32 9 (cV9 w 0 m.length) (wO w) = some ((if ckCs w.bodies.length r = 0 then .exit 0 else .ret, cV9 w (ckCs w.bodies.length r) e, wO w), True) := by
 intro r
 induction r with
 | nil =>
  intro m h
  rw [List.append_nil] at h
  refine ⟨m.length, ?_⟩
  rw [l32_9]
  simp (maxSteps := 100000000) only [ivc, anf, nilR, eq_self, Nat.reduceEqDiff, Nat.reduceLT, Nat.reduceLeDiff, Nat.reduceAdd, Nat.reduceBEq, reduceCtorEq, ↓reduceIte, tyb, cV9, wO, wdV, h, Int.lt_irrefl, ckCs]
 | cons x r ih =>
  intro m h
  have hn : m.length + (r.length + 1) = w.classes.length := by rw [h]; simp
  have hi' : (m.length : Int) < w.classes.length := by omega
  have hg := getD_map (f := clV) (show w.classes[m.length]? = some x by rw [h]; simp)
  have hw : IntKind.i64.wrap ((m.length : Int) + 1) = m.length + 1 := wrap_id (by omega) (by omega)
  have hc : (0 ≤ (m.length : Int)) = True := eq_true (by omega)
  have hx : x.length ≤ 1000 := hs x (by rw [h]; simp)
  have hk := ckC_ev (l := x) (nb := w.bodies.length) (by omega)
  obtain ⟨e, ih'⟩ := ih (m ++ [x]) (by simp [h])
  simp only [List.length_append, List.length_cons, List.length_nil, Nat.zero_add, Int.natCast_add, Int.cast_ofNat_Int, cV9, wO, wdV] at ih'
  by_cases hz : ckC w.bodies.length none x = 0
  ·refine ⟨e, ?_⟩
   rw [hz] at hk
   rw [l32_9]
   simp (maxSteps := 100000000) only [ivc, anf, vop, vlen, vbuiltin, nilR, eq_self, Nat.reduceEqDiff, Nat.reduceLT, Nat.reduceLeDiff, Nat.reduceAdd, Nat.reduceBEq, reduceCtorEq, ↓reduceIte, tyb, cV9, wO, wdV, clV, hi', hg, hw, hc, hk, ih', ckCs, hz]
  ·refine ⟨m.length, ?_⟩
   have hz' : (ckC w.bodies.length none x != 0) = true := by simp [hz]
   rw [l32_9]
   simp (maxSteps := 100000000) only [ivc, anf, vop, vlen, vbuiltin, nilR, eq_self, Nat.reduceEqDiff, Nat.reduceLT, Nat.reduceLeDiff, Nat.reduceAdd, Nat.reduceBEq, reduceCtorEq, ↓reduceIte, tyb, cV9, wO, wdV, clV, hi', hg, hc, hk, ckCs, hz, hz']
def cV16 (w : Wd) (t i : Int) : List AV := [.ptr 60000 0 0, .int .i64 t, .ro 3 (w.bodies.map bdV), .int .i64 w.bodies.length, .int .i64 i]
theorem ck16_loop {w : Wd} (hl : w.bodies.length ≤ 1000) (hs : ∀ b ∈ w.bodies, b.ss.length ≤ 1000 /\ b.ms.length ≤ 1000 /\ b.cs.length ≤ 1000) : ∀ (r m : List Bd), w.bodies = m ++ r ->
  ∃ e : Int, E.L 32 16 (cV16 w 0 m.length) (wO w) = some ((if r.any (badB w.bodies.length w.classes.length) then .ret else .exit 2, cV16 w (if r.any (badB w.bodies.length w.classes.length) then 3 else 0) e, wO w), True) := by
 intro r
 induction r with
 | nil =>
  intro m h
  rw [List.append_nil] at h
  refine ⟨m.length, ?_⟩
  rw [l32_16]
  simp (maxSteps := 100000000) only [ivc, anf, nilR, eq_self, Nat.reduceEqDiff, Nat.reduceLT, Nat.reduceLeDiff, Nat.reduceAdd, Nat.reduceBEq, reduceCtorEq, ↓reduceIte, tyb, cV16, wO, wdV, h, Int.lt_irrefl, List.any_nil]
 | cons x r ih =>
  intro m h
  have hn : m.length + (r.length + 1) = w.bodies.length := by rw [h]; simp
  have hi' : (m.length : Int) < w.bodies.length := by omega
  have hg := getD_map (f := bdV) (show w.bodies[m.length]? = some x by rw [h]; simp)
  have hw : IntKind.i64.wrap ((m.length : Int) + 1) = m.length + 1 := wrap_id (by omega) (by omega)
  have hc : (0 ≤ (m.length : Int)) = True := eq_true (by omega)
  obtain ⟨x1, x2, x3⟩ := hs x (by rw [h]; simp)
  have k1 := within_ev (l := x.ss) (n := 500) (by omega)
  have k2 := within_ev (l := x.ms) (n := w.bodies.length) (by omega)
  have k3 := within_ev (l := x.cs) (n := w.classes.length) (by omega)
  obtain ⟨e, ih'⟩ := ih (m ++ [x]) (by simp [h])
  simp only [List.length_append, List.length_cons, List.length_nil, Nat.zero_add, Int.natCast_add, Int.cast_ofNat_Int, cV16, wO, wdV] at ih'
  by_cases b1 : x.ss.all (inR 500) = true
  ·rw [b1] at k1
   by_cases b2 : x.ms.all (inR w.bodies.length) = true
   ·rw [b2] at k2
    by_cases b3 : x.cs.all (inR w.classes.length) = true
    ·rw [b3] at k3
     refine ⟨e, ?_⟩
     rw [l32_16]
     simp (maxSteps := 100000000) only [ivc, anf, vop, vlen, vbuiltin, nilR, salloc, eq_self, Nat.reduceEqDiff, Nat.reduceLT, Nat.reduceLeDiff, Nat.reduceAdd, Nat.reduceBEq, reduceCtorEq, ↓reduceIte, tyb, cV16, wO, wdV, bdV, hi', hg, hw, hc, k1, k2, k3, ih', List.any_cons, badB, b1, b2, b3]
    ·have b3' : x.cs.all (inR w.classes.length) = false := by simpa using b3
     rw [b3'] at k3
     refine ⟨m.length, ?_⟩
     rw [l32_16]
     simp (maxSteps := 100000000) only [ivc, anf, vop, vlen, vbuiltin, nilR, salloc, eq_self, Nat.reduceEqDiff, Nat.reduceLT, Nat.reduceLeDiff, Nat.reduceAdd, Nat.reduceBEq, reduceCtorEq, ↓reduceIte, tyb, cV16, wO, wdV, bdV, hi', hg, hc, k1, k2, k3, List.any_cons, badB, b1, b2, b3']
   ·have b2' : x.ms.all (inR w.bodies.length) = false := by simpa using b2
    rw [b2'] at k2
    refine ⟨m.length, ?_⟩
    rw [l32_16]
    simp (maxSteps := 100000000) only [ivc, anf, vop, vlen, vbuiltin, nilR, salloc, eq_self, Nat.reduceEqDiff, Nat.reduceLT, Nat.reduceLeDiff, Nat.reduceAdd, Nat.reduceBEq, reduceCtorEq, ↓reduceIte, tyb, cV16, wO, wdV, bdV, hi', hg, hc, k1, k2, List.any_cons, badB, b1, b2']
  ·have b1' : x.ss.all (inR 500) = false := by simpa using b1
   rw [b1'] at k1
   refine ⟨m.length, ?_⟩
   rw [l32_16]
   simp (maxSteps := 100000000) only [ivc, anf, vop, vlen, vbuiltin, nilR, salloc, eq_self, Nat.reduceEqDiff, Nat.reduceLT, Nat.reduceLeDiff, Nat.reduceAdd, Nat.reduceBEq, reduceCtorEq, ↓reduceIte, tyb, cV16, wO, wdV, bdV, hi', hg, hc, k1, List.any_cons, badB, b1']
theorem check_ev {w : Wd} : E.F 32 [wdV w] [] = some ((.int .i64 (ckM w), []), True) := by
 rw [e32]
 unfold ckM
 by_cases a1 : (200 : Int) < w.classes.length
 ·rw [if_pos (.inl a1)]
  simp (maxSteps := 100000000) only [ivc, anf, vop, vlen, vbuiltin, nilR, salloc, eq_self, Nat.reduceEqDiff, Nat.reduceLT, Nat.reduceLeDiff, Nat.reduceAdd, Nat.reduceBEq, Int.reduceLT, reduceCtorEq, ↓reduceIte, tyb, wdV, a1]
 by_cases a2 : (500 : Int) < w.bodies.length
 ·rw [if_pos (.inr (.inl a2))]
  simp (maxSteps := 100000000) only [ivc, anf, vop, vlen, vbuiltin, nilR, salloc, eq_self, Nat.reduceEqDiff, Nat.reduceLT, Nat.reduceLeDiff, Nat.reduceAdd, Nat.reduceBEq, Int.reduceLT, reduceCtorEq, ↓reduceIte, tyb, wdV, a1, a2]
 by_cases a3 : (64 : Int) < w.roots.length
 ·rw [if_pos (.inr (.inr a3))]
  simp (maxSteps := 100000000) only [ivc, anf, vop, vlen, vbuiltin, nilR, salloc, eq_self, Nat.reduceEqDiff, Nat.reduceLT, Nat.reduceLeDiff, Nat.reduceAdd, Nat.reduceBEq, reduceCtorEq, ↓reduceIte, tyb, wdV, a1, a2, a3]
 rw [if_neg (by omega)]
 have g1 := any67_ev (l := w.classes) (by omega)
 have g2 := any69_ev (l := w.bodies) (by omega)
 by_cases b1 : w.classes.any bigC = true
 ·rw [if_pos b1]
  rw [b1] at g1
  simp (maxSteps := 100000000) only [ivc, anf, vop, vlen, vbuiltin, nilR, salloc, eq_self, Nat.reduceEqDiff, Nat.reduceLT, Nat.reduceLeDiff, Nat.reduceAdd, Nat.reduceBEq, reduceCtorEq, ↓reduceIte, tyb, wdV, a1, a2, a3, g1]
 rw [if_neg b1]
 have b1' : w.classes.any bigC = false := by simpa using b1
 rw [b1'] at g1
 by_cases b2 : w.bodies.any bigB = true
 ·rw [if_pos b2]
  rw [b2] at g2
  simp (maxSteps := 100000000) only [ivc, anf, vop, vlen, vbuiltin, nilR, salloc, eq_self, Nat.reduceEqDiff, Nat.reduceLT, Nat.reduceLeDiff, Nat.reduceAdd, Nat.reduceBEq, reduceCtorEq, ↓reduceIte, tyb, wdV, a1, a2, a3, g1, g2]
 rw [if_neg b2]
 have b2' : w.bodies.any bigB = false := by simpa using b2
 rw [b2'] at g2
 have s1 : ∀ c ∈ w.classes, c.length ≤ 1000 := fun c hc => by
  have := List.any_eq_false.1 b1' c hc
  simp only [bigC, decide_eq_true_eq] at this
  omega
 have s2 : ∀ b ∈ w.bodies, b.ss.length ≤ 1000 /\ b.ms.length ≤ 1000 /\ b.cs.length ≤ 1000 := fun b hb => by
  have := List.any_eq_false.1 b2' b hb
  simp only [bigB, Bool.or_eq_true, decide_eq_true_eq] at this
  omega
 obtain ⟨x9, h9⟩ := ck9_loop (by omega) s1 w.classes [] rfl
 simp only [cV9, wO, wdV, List.length_nil, Int.natCast_zero] at h9
 by_cases c1 : ckCs w.bodies.length w.classes = 0
 ·rw [if_neg (by simpa using c1)]
  rw [c1] at h9
  simp only [if_true] at h9
  obtain ⟨x16, h16⟩ := ck16_loop (by omega) s2 w.bodies [] rfl
  simp only [cV16, wO, wdV, List.length_nil, Int.natCast_zero] at h16
  by_cases c2 : w.bodies.any (badB w.bodies.length w.classes.length) = true
  ·rw [if_pos c2]
   rw [c2] at h16
   simp only [if_true] at h16
   simp (maxSteps := 100000000) only [ivc, anf, vop, vlen, vbuiltin, nilR, salloc, eq_self, Nat.reduceEqDiff, Nat.reduceLT, Nat.reduceLeDiff, Nat.reduceAdd, Nat.reduceBEq, reduceCtorEq, ↓reduceIte, tyb, wdV, a1, a2, a3, g1, g2, h9, h16]
  ·rw [if_neg c2]
   have c2' : w.bodies.any (badB w.bodies.length w.classes.length) = false := by simpa using c2
   rw [c2'] at h16
   simp only [Bool.false_eq_true, if_false] at h16
   have g3 := within_ev (l := w.roots) (n := w.bodies.length) (by omega)
   by_cases c3 : w.roots.all (inR w.bodies.length) = true
   ·rw [if_pos c3]
    rw [c3] at g3
    simp (maxSteps := 100000000) only [ivc, anf, vop, vlen, vbuiltin, nilR, salloc, eq_self, Nat.reduceEqDiff, Nat.reduceLT, Nat.reduceLeDiff, Nat.reduceAdd, Nat.reduceBEq, reduceCtorEq, ↓reduceIte, tyb, wdV, a1, a2, a3, g1, g2, g3, h9, h16]
   ·rw [if_neg c3]
    have c3' : w.roots.all (inR w.bodies.length) = false := by simpa using c3
    rw [c3'] at g3
    simp (maxSteps := 100000000) only [ivc, anf, vop, vlen, vbuiltin, nilR, salloc, eq_self, Nat.reduceEqDiff, Nat.reduceLT, Nat.reduceLeDiff, Nat.reduceAdd, Nat.reduceBEq, reduceCtorEq, ↓reduceIte, tyb, wdV, a1, a2, a3, g1, g2, g3, h9, h16]
 ·rw [if_pos c1]
  rw [if_neg c1] at h9
  simp (maxSteps := 100000000) only [ivc, anf, vop, vlen, vbuiltin, nilR, salloc, eq_self, Nat.reduceEqDiff, Nat.reduceLT, Nat.reduceLeDiff, Nat.reduceAdd, Nat.reduceBEq, reduceCtorEq, ↓reduceIte, tyb, wdV, a1, a2, a3, g1, g2, h9]
theorem addW_len {l : List Int} {c : Nat} {n : Int} : (addW l c n).length = l.length := by simp [addW]
def pairM (g : List Int) (x y : Et) : List Int := addW (addW g (8 + x.s.toNat * 8) y.s) (8 + y.s.toNat * 8) x.s
theorem pairM_len {g : List Int} {x y : Et} : (pairM g x y).length = g.length := by simp [pairM, addW_len]
def gO (g : List Int) : Ob := ⟨true, 4008, [.agg (g.map (AV.int .u64))]⟩
def okE (e : Et) : Prop := 0 ≤ e.s /\ e.s < 500
theorem pairs_loop {C : List AV} {c : List Et} {n i : Int} {k : Nat} {x : Et} (hx : okE x) (hk : k ≤ c.length) (hcl : c.length ≤ 1000) (hc : ∀ e ∈ c, okE e) : ∀ (r m : List Et) (g : List Int), c.take k = m ++ r -> g.length = 4008 ->
  E.L 40 11 [.ptr 60000 0 0, .ro 2 (c.map enV), .ptr 60001 0 0, .ro 1 C, .int .i64 n, .int .i64 i, .ro 2 (c.map enV), .int .i64 c.length, .int .i64 k, .ro 2 ((c.take k).map enV), .int .i64 k, .int .i64 m.length] [(60000, gO g), (60001, ⟨true, 2, [enV x]⟩)]
  = some ((.exit 4, [.ptr 60000 0 0, .ro 2 (c.map enV), .ptr 60001 0 0, .ro 1 C, .int .i64 n, .int .i64 i, .ro 2 (c.map enV), .int .i64 c.length, .int .i64 k, .ro 2 ((c.take k).map enV), .int .i64 k, .int .i64 k], [(60000, gO (r.foldl (pairM · x ·) g)), (60001, ⟨true, 2, [enV x]⟩)]), True) := by
 intro r
 induction r with
 | nil =>
  intro m g h hg
  rw [List.append_nil] at h
  have hm : m.length = k := by rw [<- h, List.length_take]; omega
  have q3 : ((k : Int) < (k : Int)) = False := eq_false (by omega)
  rw [hm, l40_11]
  simp (maxSteps := 100000000) only [ivc, anf, nilR, eq_self, Nat.reduceEqDiff, Nat.reduceLT, Nat.reduceLeDiff, Nat.reduceAdd, Nat.reduceBEq, reduceCtorEq, ↓reduceIte, tyb, gO, enV, ldb, Int.lt_irrefl, List.foldl_nil]
 | cons y r ih =>
  intro m g h hg
  have hlen : (c.take k).length = k := by rw [List.length_take]; omega
  have hn : m.length + (r.length + 1) = k := by rw [<- hlen, h]; simp
  have hi' : (m.length : Int) < k := by omega
  have hy : (c.take k)[m.length]? = some y := by rw [h]; simp
  have hyc : okE y := hc y (List.mem_of_mem_take (List.mem_of_getElem? hy))
  have hgd := getD_map (f := enV) hy
  have hw : IntKind.i64.wrap ((m.length : Int) + 1) = m.length + 1 := wrap_id (by omega) (by omega)
  have hq : (0 ≤ (m.length : Int)) = True := eq_true (by omega)
  have ih' := ih (m ++ [y]) (pairM g x y) (by simp [h]) (by rw [pairM_len, hg])
  simp only [List.length_append, List.length_cons, List.length_nil, Nat.zero_add, Int.natCast_add, Int.cast_ofNat_Int, gO, enV, pairM] at ih'
  have a1 := add_ev (l := g) (c := 8 + x.s.toNat * 8) (n := y.s) hyc.1 (by have := hyc.2; omega) (by have := hx.1; have := hx.2; omega)
  have a2 := add_ev (l := addW g (8 + x.s.toNat * 8) y.s) (c := 8 + y.s.toNat * 8) (n := x.s) hx.1 (by have := hx.2; omega) (by rw [addW_len]; have := hyc.1; have := hyc.2; omega)
  rw [addW_len] at a2
  rw [hg] at a1 a2
  have q1 : (0 ≤ x.s /\ x.s < 500) = True := eq_true hx
  have q3 : ((m.length:Int) < ((c.take k).length : Nat)) = True := eq_true (by rw [hlen]; omega)
  have q2 : (0 ≤ y.s /\ y.s < 500) = True := eq_true hyc
  rw [l40_11]
  simp (maxSteps := 100000000) only [ivc, anf, vop, nilR, salloc, eq_self, Nat.reduceEqDiff, Nat.reduceLT, Nat.reduceLeDiff, Nat.reduceAdd, Nat.reduceMul, Nat.reduceSub, Nat.reduceBEq, reduceCtorEq, ↓reduceIte, tyb, gO, enV, ldb, hi', hgd, hw, hq, a1, a2, q1, q2, q3, ih', List.foldl_cons, pairM]
def entsM : List Et -> List Et -> List Int -> List Int
 | _, [], g => g
 | p, x :: r, g => entsM (p ++ [x]) r (p.foldl (pairM · x ·) (addW g 0 x.s))
theorem pairs_len {p : List Et} {x : Et} : ∀ {g : List Int}, (p.foldl (pairM · x ·) g).length = g.length := by
 induction p with
 | nil => intro g; rfl
 | cons y p ih => intro g; rw [List.foldl_cons, ih, pairM_len]
theorem entsM_len {r : List Et} : ∀ {p : List Et} {g : List Int}, (entsM p r g).length = g.length := by
 induction r with
 | nil => intro p g; rfl
 | cons x r ih => intro p g; rw [entsM, ih, pairs_len, addW_len]
theorem ents_loop {C : List AV} {c : List Et} {n i : Int} (hcl : c.length ≤ 1000) (hc : ∀ e ∈ c, okE e) : ∀ (r m : List Et) (g : List Int), c = m ++ r -> g.length = 4008 ->
  E.L 40 7 [.ptr 60000 0 0, .ro 2 (c.map enV), .ro 1 C, .int .i64 n, .int .i64 i, .ro 2 (c.map enV), .int .i64 c.length, .int .i64 m.length] [(60000, gO g)]
  = some ((.exit 2, [.ptr 60000 0 0, .ro 2 (c.map enV), .ro 1 C, .int .i64 n, .int .i64 i, .ro 2 (c.map enV), .int .i64 c.length, .int .i64 c.length], [(60000, gO (entsM m r g))]), True) := by
 intro r
 induction r with
 | nil =>
  intro m g h hg
  rw [List.append_nil] at h
  subst h
  have q3 : ((c.length : Int) < (c.length : Int)) = False := eq_false (by omega)
  rw [l40_7]
  simp (maxSteps := 100000000) only [ivc, anf, nilR, eq_self, Nat.reduceEqDiff, Nat.reduceLT, Nat.reduceLeDiff, Nat.reduceAdd, Nat.reduceBEq, reduceCtorEq, ↓reduceIte, tyb, gO, ldb, q3, entsM]
 | cons x r ih =>
  intro m g h hg
  have hn : m.length + (r.length + 1) = c.length := by rw [h]; simp
  have hi' : (m.length : Int) < c.length := by omega
  have hx : c[m.length]? = some x := by rw [h]; simp
  have hxc : okE x := hc x (List.mem_of_getElem? hx)
  have hgd := getD_map (f := enV) hx
  have hw : IntKind.i64.wrap ((m.length : Int) + 1) = m.length + 1 := wrap_id (by omega) (by omega)
  have hq : (0 ≤ (m.length : Int)) = True := eq_true (by omega)
  have htk : c.take m.length = m := by rw [h]; simp
  have ih' := ih (m ++ [x]) (m.foldl (pairM · x ·) (addW g 0 x.s)) (by simp [h]) (by rw [pairs_len, addW_len, hg])
  simp only [List.length_append, List.length_cons, List.length_nil, Nat.zero_add, Int.natCast_add, Int.cast_ofNat_Int, gO] at ih'
  have a1 := add_ev (l := g) (c := 0) (n := x.s) hxc.1 (by have := hxc.2; omega) (by omega)
  rw [hg] at a1
  have hp := pairs_loop (C := C) (n := n) (i := i) (k := m.length) (x := x) hxc (by omega) hcl hc m [] (addW g 0 x.s) (by rw [htk]; rfl) (by rw [addW_len, hg])
  rw [htk] at hp
  simp only [List.length_nil, Int.natCast_zero, gO, enV] at hp
  have htm : (c.map enV).take m.length = m.map enV := by rw [<- List.map_take, htk]
  have q5 : (0 ≤ (m.length : Int) /\ (m.length : Int) ≤ c.length) = True := eq_true (by omega)
  rw [l40_7]
  simp (maxSteps := 100000000) only [ivc, anf, vop, vslice, vlen, vbuiltin, nilR, salloc, eq_self, Nat.reduceEqDiff, Nat.reduceLT, Nat.reduceLeDiff, Nat.reduceAdd, Nat.reduceMul, Nat.reduceSub, Nat.reduceBEq, Int.reduceLE, Int.reduceToNat, reduceCtorEq, implies_true, ↓reduceIte, tyb, gO, enV, ldb, hi', hgd, hw, hq, a1, hp, htm, ih', entsM]
  exact some_true (by omega)
def zs (n : Nat) : List Int := List.replicate n 0
theorem zrep (n : Nat) : List.replicate n (0 : Int) = zs n := rfl
theorem zs_len (n : Nat) : (zs n).length = n := by simp [zs]
def graphM (cs : List (List Et)) (g : List Int) : List Int := cs.foldl (fun g c => entsM [] c g) g
def okW (w : Wd) : Prop := w.classes.length ≤ 200 /\ ∀ c ∈ w.classes, c.length ≤ 100 /\ ∀ e ∈ c, okE e
theorem cls_loop {w : List (List Et)} (hl : w.length ≤ 1000) (hw0 : ∀ c ∈ w, c.length ≤ 100 /\ ∀ e ∈ c, okE e) : ∀ (r m : List (List Et)) (g : List Int), w = m ++ r -> g.length = 4008 ->
  E.L 40 4 [.ptr 60000 0 0, .ro 1 (w.map clV), .int .i64 w.length, .int .i64 m.length] [(60000, gO g)]
  = some ((.exit 0, [.ptr 60000 0 0, .ro 1 (w.map clV), .int .i64 w.length, .int .i64 w.length], [(60000, gO (graphM r g))]), True) := by
 intro r
 induction r with
 | nil =>
  intro m g h hg
  rw [List.append_nil] at h
  subst h
  have q3 : ((w.length : Int) < (w.length : Int)) = False := eq_false (by omega)
  rw [l40_4]
  simp (maxSteps := 100000000) only [ivc, anf, nilR, eq_self, Nat.reduceEqDiff, Nat.reduceLT, Nat.reduceLeDiff, Nat.reduceAdd, Nat.reduceBEq, reduceCtorEq, ↓reduceIte, tyb, gO, ldb, q3, graphM, List.foldl_nil]
 | cons x r ih =>
  intro m g h hg
  have hn : m.length + (r.length + 1) = w.length := by rw [h]; simp
  have hi' : (m.length : Int) < w.length := by omega
  have hx : w[m.length]? = some x := by rw [h]; simp
  obtain ⟨x1, x2⟩ := hw0 x (List.mem_of_getElem? hx)
  have hgd := getD_map (f := clV) hx
  have hw : IntKind.i64.wrap ((m.length : Int) + 1) = m.length + 1 := wrap_id (by omega) (by omega)
  have hq : (0 ≤ (m.length : Int)) = True := eq_true (by omega)
  have ih' := ih (m ++ [x]) (entsM [] x g) (by simp [h]) (by rw [entsM_len, hg])
  simp only [List.length_append, List.length_cons, List.length_nil, Nat.zero_add, Int.natCast_add, Int.cast_ofNat_Int, gO] at ih'
  have hp := ents_loop (C := w.map clV) (n := w.length) (i := m.length) (by omega) x2 x [] g rfl hg
  simp only [List.length_nil, Int.natCast_zero, gO] at hp
  rw [l40_4]
  simp (maxSteps := 100000000) only [ivc, anf, vlen, vbuiltin, nilR, eq_self, Nat.reduceEqDiff, Nat.reduceLT, Nat.reduceLeDiff, Nat.reduceAdd, Nat.reduceBEq, reduceCtorEq, ↓reduceIte, tyb, gO, clV, ldb, hi', hgd, hw, hq, hp, ih', graphM, List.foldl_cons]
def graphW (w : Wd) : List Int := graphM w.classes (zs 4008)
theorem graph_ev {w : Wd} (ok : okW w) : E.F 40 [wdV w] [] = some ((.ptr 200000 0 0, [(200000, gO (graphW w))]), True) := by
 obtain ⟨o1, o2⟩ := ok
 have h := cls_loop (by omega) o2 w.classes [] (zs 4008) rfl (zs_len 4008)
 simp only [List.length_nil, Int.natCast_zero, gO] at h
 rw [e40]
 simp (maxSteps := 100000000) only [↓zrep, zs_len, ivc, anf, vop, vlen, vbuiltin, salloc, eq_self, Nat.reduceEqDiff, Nat.reduceLT, Nat.reduceLeDiff, Nat.reduceAdd, Nat.reduceBEq, reduceCtorEq, ↓reduceIte, tyb, gO, wdV, ldb, h, graphW]
def szM (g : List Int) : Nat -> Nat
 | 0 => 0
 | n + 1 => if hasW g 0 n then n + 1 else szM g n
theorem szM_le (g : List Int) : ∀ n, szM g n ≤ n
 | 0 => Nat.le_refl 0
 | n + 1 => by
  unfold szM
  split
  ·exact Nat.le_refl _
  ·exact Nat.le_succ_of_le (szM_le g n)
theorem hasr_ev {l : List Int} {c : Nat} {n : Int} (h0 : 0 ≤ n) (h1 : n < 512) (hc : c + 8 ≤ l.length) :
  E.F 42 [.rop (.agg (l.map (AV.int .u64))) c, .int .i64 n] [] = some ((.bool (hasW l c n), []), True) := by
 have e1 : n.tdiv 64 = n / 64 := Int.tdiv_eq_ediv_of_nonneg h0
 have e2 : n.tmod 64 = n % 64 := Int.tmod_eq_emod_of_nonneg h0
 have e3 : IntKind.i64.wrap (n / 64) = n / 64 := wrap_id (by omega) (by omega)
 have e4 : ((0 ≤ n / 64 /\ n / 64 < 8) /\ c + (n / 64).toNat < l.length) = True := eq_true (by omega)
 have e5 := getU (l := l) (i := c + (n / 64).toNat) (by omega)
 have e6 : (0 ≤ n % 64) = True := eq_true (by omega)
 rw [e42]
 simp (maxSteps := 100000000) only [ivc, anf, vop, nilR, eq_self, Nat.reduceEqDiff, Nat.reduceLT, Nat.reduceLeDiff, Nat.reduceAdd, Nat.reduceBEq, Int.reduceEq, reduceCtorEq, ne_eq, ↓reduceIte, tyb, e1, e2, e3, e4, e5, e6]
 rfl
def gR (g : List Int) : AV := .rop (.agg (g.map (AV.int .u64))) 0
theorem size_loop {g : List Int} (hg : g.length = 4008) : ∀ n : Nat, n ≤ 500 ->
  E.L 47 3 [gR g, .int .i64 n] [] = some ((.exit 0, [gR g, .int .i64 (szM g n)], []), True) := by
 intro n
 induction n with
 | zero =>
  intro _
  rw [l47_3]
  simp (maxSteps := 100000000) only [ivc, anf, vop, nilR, eq_self, Nat.reduceEqDiff, Nat.reduceLT, Nat.reduceBEq, Int.reduceLE, Int.reduceNeg, Int.reduceSub, reduceCtorEq, ↓reduceIte, tyb, gR, szM, Int.lt_irrefl]
 | succ n ih =>
  intro hn
  have a := hasr_ev (l := g) (c := 0) (n := n) (by omega) (by omega) (by omega)
  have q1 : ((0 : Int) < (n : Int) + 1) = True := eq_true (by omega)
  have q2 : IntKind.i64.wrap ((n : Int) + 1 - 1) = n := by rw [Int.add_sub_cancel]; exact wrap_id (by omega) (by omega)
  have ih' := ih (by omega)
  simp only [gR] at ih'
  rw [l47_3]
  by_cases h : hasW g 0 n = true
  ·rw [h] at a
   simp (maxSteps := 100000000) only [ivc, anf, vop, nilR, eq_self, Nat.reduceEqDiff, Nat.reduceLT, Nat.reduceBEq, reduceCtorEq, ↓reduceIte, tyb, gR, q1, q2, a, szM, h]
  ·have h' : hasW g 0 n = false := by simpa using h
   rw [h'] at a
   simp (maxSteps := 100000000) only [ivc, anf, vop, nilR, eq_self, Nat.reduceEqDiff, Nat.reduceLT, Nat.reduceBEq, reduceCtorEq, ↓reduceIte, tyb, gR, q1, q2, a, szM, h', ih']
theorem size_ev {g : List Int} (hg : g.length = 4008) : E.F 47 [gR g] [] = some ((.int .i64 (szM g 500), []), True) := by
 have h := size_loop hg 500 (Nat.le_refl _)
 simp only [gR, Int.cast_ofNat_Int] at h
 rw [e47]
 simp (maxSteps := 100000000) only [ivc, anf, eq_self, Nat.reduceLT, Nat.reduceLeDiff, Nat.reduceAdd, Nat.reduceBEq, reduceCtorEq, ↓reduceIte, gR, h]
def nb (s : Int) : Nat := 8 + s.toNat * 8
def takM (g : List Int) (b : Nat) : Nat -> List Int -> List Int -> List Int
 | _, [], s => s
 | n, c :: r, s => takM g b (n + 1) r (if 0 ≤ c /\ hasW g b n = true then addW s 0 c else s)
theorem takM_len {g : List Int} {b : Nat} : ∀ {r : List Int} {n : Nat} {s : List Int}, (takM g b n r s).length = s.length := by
 intro r
 induction r with
 | nil => intro n s; rfl
 | cons c r ih =>
  intro n s
  rw [takM, ih]
  split
  ·exact addW_len
  ·rfl
def tkV (g cs : List Int) (s i : Int) : List AV := [gR g, .int .i64 s, .ptr 60000 0 0, .ptr 60001 0 0, .ro 1 (cs.map (AV.int .i64)), .int .i64 cs.length, .int .i64 i]
def tkH (s : List Int) : HL := [(60000, ⟨true, 8, [.agg ((zs 8).map (AV.int .u64))]⟩), (60001, ⟨true, 8, [.agg (s.map (AV.int .u64))]⟩)]
theorem taken_loop {g cs : List Int} {s : Int} (hg : g.length = 4008) (hs : 0 ≤ s /\ s < 500) (hl : cs.length ≤ 512) (hc : ∀ c ∈ cs, c < 512) : ∀ (r m : List Int) (t : List Int), cs = m ++ r -> t.length = 8 ->
  E.L 50 4 (tkV g cs s m.length) (tkH t) = some ((.exit 0, tkV g cs s cs.length, tkH (takM g (nb s) m.length r t)), True) := by
 intro r
 induction r with
 | nil =>
  intro m t h ht
  rw [List.append_nil] at h
  subst h
  have q3 : ((cs.length : Int) < (cs.length : Int)) = False := eq_false (by omega)
  rw [l50_4]
  simp (maxSteps := 100000000) only [ivc, anf, nilR, eq_self, Nat.reduceEqDiff, Nat.reduceLT, Nat.reduceLeDiff, Nat.reduceAdd, Nat.reduceBEq, reduceCtorEq, ↓reduceIte, tyb, tkV, tkH, gR, ldb, q3, takM]
 | cons x r ih =>
  intro m t h ht
  have hn : m.length + (r.length + 1) = cs.length := by rw [h]; simp
  have hi' : (m.length : Int) < cs.length := by omega
  have hx : cs[m.length]? = some x := by rw [h]; simp
  have hxc := hc x (List.mem_of_getElem? hx)
  have hgd := getD_map (f := AV.int .i64) hx
  have hw : IntKind.i64.wrap ((m.length : Int) + 1) = m.length + 1 := wrap_id (by omega) (by omega)
  have hq : (0 ≤ (m.length : Int)) = True := eq_true (by omega)
  have q1 : (0 ≤ s /\ s < 500) = True := eq_true hs
  have a := hasr_ev (l := g) (c := nb s) (n := m.length) (by omega) (by omega) (by unfold nb; omega)
  have ih' := ih (m ++ [x]) (if 0 ≤ x /\ hasW g (nb s) m.length = true then addW t 0 x else t) (by simp [h]) (by split <;> simp [addW_len, ht])
  simp only [List.length_append, List.length_cons, List.length_nil, Nat.zero_add, Int.natCast_add, Int.cast_ofNat_Int, tkV, tkH, gR] at ih'
  simp only [nb] at a
  rw [l50_4]
  by_cases c1 : 0 ≤ x
  ·have a2 := add_ev (l := t) (c := 0) (n := x) c1 hxc (by omega)
   rw [ht] at a2
   by_cases c2 : hasW g (nb s) m.length = true
   ·rw [if_pos ⟨c1, c2⟩] at ih'
    simp only [nb] at c2 ih'
    rw [c2] at a
    simp (maxSteps := 100000000) only [ivc, anf, vop, nilR, eq_self, Nat.reduceEqDiff, Nat.reduceLT, Nat.reduceLeDiff, Nat.reduceAdd, Nat.reduceMul, Nat.reduceBEq, reduceCtorEq, ↓reduceIte, tyb, tkV, tkH, gR, ldb, hi', hgd, hw, hq, q1, a, a2, c1, c2, ih', takM, nb]
   ·rw [if_neg (fun hh => c2 hh.2)] at ih'
    have c2' : hasW g (nb s) m.length = false := by simpa using c2
    simp only [nb] at c2' ih'
    rw [c2'] at a
    simp (maxSteps := 100000000) only [ivc, anf, vop, nilR, eq_self, Nat.reduceEqDiff, Nat.reduceLT, Nat.reduceLeDiff, Nat.reduceAdd, Nat.reduceBEq, reduceCtorEq, ↓reduceIte, tyb, tkV, tkH, gR, ldb, hi', hgd, hw, hq, q1, a, c1, c2', ih', takM, nb]
  ·rw [if_neg (fun hh => c1 hh.1)] at ih'
   simp only [nb] at ih'
   simp (maxSteps := 100000000) only [ivc, anf, vop, nilR, eq_self, Nat.reduceEqDiff, Nat.reduceLT, Nat.reduceLeDiff, Nat.reduceAdd, Nat.reduceBEq, reduceCtorEq, ↓reduceIte, tyb, tkV, tkH, gR, ldb, hi', hgd, hw, hq, q1, c1, ih', takM, nb]
theorem t90z : (eok Tryd.prog 90 ((zs 8).map (AV.int .u64)) = true) /\ (mkE Tryd.prog 90 ((zs 8).map (AV.int .u64)) = .agg ((zs 8).map (AV.int .u64))) := by
 have h := ty90
 exact ⟨h.2.2.2.2.2.1, h.2.2.2.2.2.2.1⟩
theorem take8 {l : List Int} (h : l.length = 8) : List.take 8 (l.map (AV.int .u64)) = l.map (AV.int .u64) := List.take_of_length_le (by simp [h])
theorem put8 {l : List Int} (h : l.length = 8) : putl (.agg ((zs 8).map (AV.int .u64))) 0 (l.map (AV.int .u64)) = .agg (l.map (AV.int .u64)) := by
 match l, h with
 | [a, b, c, d, e, f, g, h], _ => rfl
def takW (g : List Int) (s : Int) (cs : List Int) : List Int := takM g (nb s) 0 cs (zs 8)
theorem taken_ev {g cs : List Int} {s : Int} (hg : g.length = 4008) (hs : 0 ≤ s /\ s < 500) (hl : cs.length ≤ 512) (hc : ∀ c ∈ cs, c < 512) :
  E.F 50 [gR g, .ro 1 (cs.map (AV.int .i64)), .int .i64 s] [] = some ((.agg ((takW g s cs).map (AV.int .u64)), []), True) := by
 have h := taken_loop hg hs hl hc cs [] (zs 8) rfl (zs_len 8)
 have hlt : (takW g s cs).length = 8 := by simp [takW, takM_len, zs_len]
 simp only [List.length_nil, Int.natCast_zero, tkV, tkH, gR] at h
 have k1 := take8 hlt
 have k2 := put8 hlt
 simp only [takW] at k1 k2
 rw [e50]
 simp (maxSteps := 100000000) only [ivc, anf, vlen, vbuiltin, salloc, eq_self, Nat.reduceEqDiff, Nat.reduceLT, Nat.reduceLeDiff, Nat.reduceAdd, Nat.reduceBEq, reduceCtorEq, ↓reduceIte, tyb, ↓zrep, zs_len, t90z, gR, ldb, h, takW, k1, k2]
 simp only [takW] at hlt
 exact some_true (by rw [hlt]; omega)
def pV (p : Int × Int) : AV := .agg [.int .i64 p.1, .int .i64 p.2]
instance rf_p : RowF pV := ⟨fun _ => rfl, fun _ => rfl⟩
def rowI (g : List Int) (a : Int) : Nat -> Int -> List (Int × Int)
 | 0, _ => []
 | k + 1, b => (if hasW g (nb a) b = true then [(a, b)] else []) ++ rowI g a k (b + 1)
def allI (g : List Int) : Nat -> Int -> List (Int × Int)
 | 0, _ => []
 | k + 1, a => rowI g a k (a + 1) ++ allI g k (a + 1)
def cfH (g : List Int) (m : List (Int × Int)) : HL := [(60000, gO g), (60001, ⟨false, 2, m.map pV⟩)]
theorem in_loop {g : List Int} (hg : g.length = 4008) {a : Int} (ha : 0 ≤ a /\ a < 500) : ∀ (k : Nat) (b : Int) (m : List (Int × Int)), b + k = 500 -> 0 ≤ b -> m.length ≤ 500 * 1000 + b ->
  E.L 36 11 [.ptr 60000 0 0, .sl 60001 0 m.length, .int .i64 a, .int .i64 b, .int .i64 a] (cfH g m) = some ((.exit 2, [.ptr 60000 0 0, .sl 60001 0 (m ++ rowI g a k b).length, .int .i64 a, .int .i64 500, .int .i64 a], cfH g (m ++ rowI g a k b)), True) := by
 intro k
 induction k with
 | zero =>
  intro b m h hb hm
  have h' : b = 500 := by omega
  subst h'
  rw [l36_11]
  simp (maxSteps := 100000000) only [ivc, anf, nilR, eq_self, Nat.reduceEqDiff, Nat.reduceLT, Nat.reduceLeDiff, Nat.reduceAdd, Nat.reduceBEq, Int.reduceLT, reduceCtorEq, ↓reduceIte, tyb, cfH, gO, ldb, rowI]
 | succ k ih =>
  intro b m h hb hm
  have q1 : (0 ≤ a /\ a < 500) = True := eq_true ha
  have q2 : b < 500 := by omega
  have hw : IntKind.i64.wrap (b + 1) = b + 1 := wrap_id (by omega) (by omega)
  have c := hasr_ev (l := g) (c := nb a) (n := b) (by omega) (by omega) (by unfold nb; omega)
  simp only [nb] at c
  by_cases h1 : hasW g (nb a) b = true
  ·have ih' := ih (b + 1) (m ++ [(a, b)]) (by omega) (by omega) (by simp; omega)
   simp only [cfH, gO, List.map_append, List.map_cons, List.map_nil, List.length_append, List.length_cons, List.length_nil, Nat.zero_add, pV, List.append_assoc, List.cons_append, List.nil_append] at ih'
   rw [l36_11]
   simp only [nb] at h1
   rw [h1] at c
   simp (maxSteps := 100000000) only [ivc, anf, vop, nilR, salloc, sappend, eq_self, Nat.reduceEqDiff, Nat.reduceLT, Nat.reduceLeDiff, Nat.reduceAdd, Nat.reduceMul, Nat.reduceBEq, reduceCtorEq, ↓reduceIte, tyb, cfH, gO, pV, ldb, agg_imm, rowI, q1, q2, hw, c, h1, ih', nb]
   exact some_true (by omega)
  ·have ih' := ih (b + 1) m (by omega) (by omega) (by omega)
   have h1' : hasW g (nb a) b = false := by simpa using h1
   simp only [cfH, gO] at ih'
   rw [l36_11]
   simp only [nb] at h1'
   rw [h1'] at c
   simp (maxSteps := 100000000) only [ivc, anf, vop, nilR, eq_self, Nat.reduceEqDiff, Nat.reduceLT, Nat.reduceLeDiff, Nat.reduceAdd, Nat.reduceBEq, reduceCtorEq, ↓reduceIte, tyb, cfH, gO, ldb, agg_imm, rowI, q1, q2, hw, c, h1', ih', nb]
theorem rowI_len (g : List Int) (a : Int) : ∀ (k : Nat) (b : Int), (rowI g a k b).length ≤ k := by
 intro k
 induction k with
 | zero => intro b; exact Nat.le_refl 0
 | succ k ih =>
  intro b
  have := ih (b + 1)
  rw [rowI, List.length_append]
  split <;> simp <;> omega
theorem out_loop {g : List Int} (hg : g.length = 4008) : ∀ (k : Nat) (a : Int) (m : List (Int × Int)), a + k = 500 -> 0 ≤ a -> m.length ≤ 500 * a ->
  E.L 36 8 [.ptr 60000 0 0, .sl 60001 0 m.length, .int .i64 a] (cfH g m) = some ((.exit 0, [.ptr 60000 0 0, .sl 60001 0 (m ++ allI g k a).length, .int .i64 500], cfH g (m ++ allI g k a)), True) := by
 intro k
 induction k with
 | zero =>
  intro a m h ha hm
  have h' : a = 500 := by omega
  subst h'
  rw [l36_8]
  simp (maxSteps := 100000000) only [ivc, anf, nilR, eq_self, Nat.reduceEqDiff, Nat.reduceLT, Nat.reduceLeDiff, Nat.reduceAdd, Nat.reduceBEq, Int.reduceLT, reduceCtorEq, ↓reduceIte, tyb, cfH, gO, ldb, allI]
 | succ k ih =>
  intro a m h ha hm
  have q2 : a < 500 := by omega
  have hw : IntKind.i64.wrap (a + 1) = a + 1 := wrap_id (by omega) (by omega)
  have c := in_loop hg (a := a) ⟨ha, q2⟩ k (a + 1) m (by omega) (by omega) (by omega)
  have ih' := ih (a + 1) (m ++ rowI g a k (a + 1)) (by omega) (by omega) (by have := rowI_len g a k (a + 1); simp; omega)
  simp only [cfH, gO, List.length_append, List.map_append, List.append_assoc] at ih' c
  rw [l36_8]
  simp (maxSteps := 100000000) only [ivc, anf, nilR, eq_self, Nat.reduceEqDiff, Nat.reduceLT, Nat.reduceLeDiff, Nat.reduceAdd, Nat.reduceBEq, reduceCtorEq, ↓reduceIte, tyb, cfH, gO, ldb, allI, q2, hw, c, ih']
def cfM (g : List Int) : List (Int × Int) := allI g 500 0
theorem cf_loop {g : List Int} (hg : g.length = 4008) : E.L 36 8 [.ptr 60000 0 0, .sl 60001 0 0, .int .i64 0] (cfH g []) = some ((.exit 0, [.ptr 60000 0 0, .sl 60001 0 (cfM g).length, .int .i64 500], cfH g (cfM g)), True) := by
 have h := out_loop hg 500 0 [] (by omega) (by omega) (by simp)
 rw [List.nil_append] at h
 exact h
theorem graphM_len {cs : List (List Et)} : ∀ {g : List Int}, (graphM cs g).length = g.length := by
 induction cs with
 | nil => intro g; rfl
 | cons c cs ih => intro g; simp only [graphM, List.foldl_cons] at ih ⊢; rw [ih, entsM_len]
theorem graphW_len {w : Wd} : (graphW w).length = 4008 := by rw [graphW, graphM_len, zs_len]
theorem conf_ev {w : Wd} (ok : ckM w = 0 -> okW w) : E.F 36 [wdV w] [] = some ((if ckM w = 0 then .tup [.ro 2 ((cfM (graphW w)).map pV), .int .i64 0] else .tup [.ro 2 [], .int .i64 (ckM w)], []), True) := by
 have h1 := check_ev (w := w)
 rw [e36]
 by_cases h : ckM w = 0
 ·rw [if_pos h]
  rw [h] at h1
  have h2 := graph_ev (ok h)
  have h3 := cf_loop (g := graphW w) graphW_len
  simp only [wdV] at h1 h2
  simp only [cfH, gO, List.map_nil] at h2 h3
  simp (maxSteps := 100000000) only [ivc, anf, nilR, salloc, eq_self, Nat.reduceEqDiff, Nat.reduceLT, Nat.reduceLeDiff, Nat.reduceAdd, Nat.reduceMul, Nat.reduceBEq, reduceCtorEq, ↓reduceIte, tyb, wdV, ldb, h1, h2, h3]
 ·rw [if_neg h]
  have h' : (ckM w != 0) = true := by simp [h]
  simp only [wdV] at h1
  simp (maxSteps := 100000000) only [ivc, anf, nilR, salloc, eq_self, Nat.reduceEqDiff, Nat.reduceLT, Nat.reduceLeDiff, Nat.reduceAdd, Nat.reduceBEq, ↓reduceIte, tyb, wdV, h1, h']
def on1 (x : Int) : Int := IntKind.u64.wrap (bitsI .and .u64 (x.fdiv (2 ^ min 1 IntKind.u64.bits)) 6148914691236517205 + bitsI .and .u64 x 6148914691236517205)
def on2 (x : Int) : Int := IntKind.u64.wrap (bitsI .and .u64 (x.fdiv (2 ^ min 2 IntKind.u64.bits)) 3689348814741910323 + bitsI .and .u64 x 3689348814741910323)
def on3 (x : Int) : Int := bitsI .and .u64 (IntKind.u64.wrap (x.fdiv (2 ^ min 4 IntKind.u64.bits) + x)) 1085102592571150095
def on4 (x : Int) : Int := IntKind.u64.wrap (x + x.fdiv (2 ^ min 8 IntKind.u64.bits))
def on5 (x : Int) : Int := IntKind.u64.wrap (x + x.fdiv (2 ^ min 16 IntKind.u64.bits))
def on6 (x : Int) : Int := IntKind.u64.wrap (x + x.fdiv (2 ^ min 32 IntKind.u64.bits))
def onesW (x : Int) : Int := bitsI .and .i64 (IntKind.i64.wrap (on6 (on5 (on4 (on3 (on2 (on1 x))))))) 127
theorem ones_ev {x : Int} : E.F 78 [.int .u64 x] [] = some ((.int .i64 (onesW x), []), True) := by
 rw [e78]
 simp (maxSteps := 100000000) only [ivc, anf, vop, nilR, eq_self, Nat.reduceEqDiff, Nat.reduceLT, Nat.reduceLeDiff, Nat.reduceBEq, Int.reduceLE, Int.reduceToNat, reduceCtorEq, ↓reduceIte, tyb, onesW, on1, on2, on3, on4, on5, on6]
theorem onesW_le (x : Int) : 0 ≤ onesW x /\ onesW x ≤ 127 := by
 unfold onesW bitsI
 generalize BitVec.ofInt IntKind.i64.bits _ = a
 have h : (a &&& BitVec.ofInt IntKind.i64.bits 127).toNat ≤ 127 := by
  rw [BitVec.toNat_and]
  exact Nat.le_trans Nat.and_le_right (by decide)
 simp only
 rw [wrap_id (by omega) (by omega)]
 omega
def cntM (g : List Int) : Nat -> Int
 | 0 => 0
 | n + 1 => cntM g n + onesW (g.getD n 0)
theorem cntM_le (g : List Int) : ∀ n, 0 ≤ cntM g n /\ cntM g n ≤ 127 * n
 | 0 => by simp [cntM]
 | n + 1 => by
  have := cntM_le g n
  have := onesW_le (g.getD n 0)
  simp only [cntM]
  omega
theorem count_loop {g : List Int} (hg : g.length = 4008) : ∀ k n : Nat, n + k = 8 ->
  E.L 41 4 [.int .i64 (cntM g n), gR g, .int .i64 n] [] = some ((.exit 0, [.int .i64 (cntM g 8), gR g, .int .i64 8], []), True) := by
 intro k
 induction k with
 | zero =>
  intro n h
  have h' : n = 8 := by omega
  subst h'
  rw [l41_4]
  simp (maxSteps := 100000000) only [ivc, anf, nilR, eq_self, Nat.reduceEqDiff, Nat.reduceLT, Nat.reduceBEq, Int.reduceLT, reduceCtorEq, ↓reduceIte, tyb, gR]
 | succ k ih =>
  intro n h
  have q1 : ((n : Int) < 8) = True := eq_true (by omega)
  have q2 : ((0 ≤ (n : Int) /\ (n : Int) < 8) /\ n < g.length) = True := eq_true (by omega)
  have q3 := getU (l := g) (i := n) (by omega)
  have hw : IntKind.i64.wrap ((n : Int) + 1) = n + 1 := wrap_id (by omega) (by omega)
  have hw2 : IntKind.i64.wrap (cntM g n + onesW (g.getD n 0)) = cntM g n + onesW (g.getD n 0) := by
   have := cntM_le g n
   have := onesW_le (g.getD n 0)
   exact wrap_id (by omega) (by omega)
  have a := ones_ev (x := g.getD n 0)
  have ih' := ih (n + 1) (by omega)
  rw [show cntM g (n + 1) = cntM g n + onesW (g.getD n 0) from rfl] at ih'
  simp only [gR, Int.natCast_add, Int.cast_ofNat_Int] at ih'
  rw [l41_4]
  simp (maxSteps := 100000000) only [ivc, anf, vop, nilR, eq_self, Nat.reduceEqDiff, Nat.reduceLT, Nat.reduceBEq, reduceCtorEq, ↓reduceIte, tyb, gR, q1, q3, hw, hw2, a, ih']
  exact some_true (by omega)
theorem count_ev {g : List Int} (hg : g.length = 4008) : E.F 41 [gR g] [] = some ((.int .i64 (cntM g 8), []), True) := by
 have h := count_loop hg 8 0 rfl
 rw [show cntM g 0 = 0 from rfl] at h
 simp only [gR, Int.natCast_zero] at h
 rw [e41]
 simp (maxSteps := 100000000) only [ivc, anf, eq_self, Nat.reduceEqDiff, Nat.reduceLT, Nat.reduceLeDiff, Nat.reduceAdd, Nat.reduceBEq, reduceCtorEq, ↓reduceIte, gR, h]
theorem u64id {y : Int} (h0 : 0 ≤ y) (h1 : y < 18446744073709551616) : IntKind.u64.wrap y = y := by
 show y % 18446744073709551616 = y
 exact Int.emod_eq_of_lt h0 h1
theorem and32 {y : Int} (h0 : 0 ≤ y) (h1 : y < 4294967296) : bitsI .and .u64 y 4294967295 = y := by
 unfold bitsI
 simp only
 rw [BitVec.toNat_and]
 have e1 : (BitVec.ofInt IntKind.u64.bits y).toNat = y.toNat := by
  rw [BitVec.toNat_ofInt]
  show (y % ((2 ^ 64 : Nat) : Int)).toNat = y.toNat
  rw [Int.emod_eq_of_lt h0 (by omega)]
 have e2 : (BitVec.ofInt IntKind.u64.bits 4294967295).toNat = 2 ^ 32 - 1 := by decide
 rw [e1, e2, Nat.and_two_pow_sub_one_eq_mod, Nat.mod_eq_of_lt (by omega)]
 rw [u64id (by omega) (by omega)]
 omega
theorem fdiv32 {y : Int} (h0 : 0 ≤ y) (h1 : y < 4294967296) : y.fdiv (2 ^ min 32 IntKind.u64.bits) = 0 := by
 show y.fdiv 4294967296 = 0
 rw [Int.fdiv_eq_ediv_of_nonneg _ (by omega)]
 omega
theorem mul92_ev {y : Int} (h0 : 0 ≤ y) (h1 : y < 4294967296) : E.F 92 [.int .u64 1, .int .u64 y] [] = some ((.tup [.int .u64 0, .int .u64 y], []), True) := by
 have a1 := and32 h0 h1
 have a2 := and32 (y := 1) (by omega) (by omega)
 have a3 := and32 (y := 0) (by omega) (by omega)
 have b1 := fdiv32 h0 h1
 have b2 := fdiv32 (y := 1) (by omega) (by omega)
 have b3 := fdiv32 (y := 0) (by omega) (by omega)
 have c1 := u64id h0 (by omega)
 have c2 := u64id (y := 0) (by omega) (by omega)
 rw [e92]
 simp (maxSteps := 100000000) only [ivc, anf, nilR, eq_self, Nat.reduceEqDiff, Nat.reduceLT, Nat.reduceLeDiff, Nat.reduceAdd, Nat.reduceBEq, Int.reduceLE, Int.reduceToNat, reduceCtorEq, ↓reduceIte, tyb, a1, a2, a3, b1, b2, b3, c1, c2, Int.one_mul, Int.zero_mul, Int.mul_zero, Int.add_zero]
theorem mul79_ev {y : Int} (h0 : 0 ≤ y) (h1 : y < 4294967296) : E.F 79 [.int .u64 1, .int .u64 y] [] = some ((.tup [.int .u64 0, .int .u64 y], []), True) := by
 have a := mul92_ev h0 h1
 rw [e79]
 simp (maxSteps := 100000000) only [ivc, anf, vop, eq_self, Nat.reduceEqDiff, Nat.reduceLT, Nat.reduceLeDiff, Nat.reduceAdd, Nat.reduceMul, Nat.reduceBEq, reduceCtorEq, ↓reduceIte, a]
theorem g0 : G 0 = .rop (.agg (tab.map (AV.int .u8))) 0 := rfl
def tzI (x : Int) : Int := (IntKind.u64.wrap (bitsI .and .u64 x (IntKind.u64.wrap (0 - x)) * 285870213051353865)).fdiv (2 ^ min 58 IntKind.u64.bits)
theorem u64rng (y : Int) : 0 ≤ IntKind.u64.wrap y /\ IntKind.u64.wrap y < 18446744073709551616 := by
 have e : IntKind.u64.wrap y = y % 18446744073709551616 := rfl
 rw [e]
 omega
theorem tzI_rng (x : Int) : 0 ≤ tzI x /\ tzI x < 64 := by
 unfold tzI
 have h := u64rng (bitsI .and .u64 x (IntKind.u64.wrap (0 - x)) * 285870213051353865)
 generalize IntKind.u64.wrap _ = z at h ⊢
 show 0 ≤ z.fdiv 288230376151711744 /\ z.fdiv 288230376151711744 < 64
 rw [Int.fdiv_eq_ediv_of_nonneg _ (by omega)]
 omega
def tzW (x : Int) : Int := if x = 0 then 64 else tab.getD (tzI x).toNat 0
theorem tab_get {i : Nat} (h : i < 64) : (tab.map (AV.int .u8)).getD i .junk = .int .u8 (tab.getD i 0) := by
 have : i < tab.length := h
 simp [List.getD_eq_getElem?_getD, List.getElem?_eq_getElem this]
theorem tab_rng : ∀ i < 64, 0 ≤ tab.getD i 0 /\ tab.getD i 0 < 64 := by decide
theorem tz_ev {x : Int} : E.F 82 [.int .u64 x] [] = some ((.int .i64 (tzW x), []), True) := by
 rw [e82]
 by_cases h : x = 0
 ·simp (maxSteps := 100000000) only [ivc, anf, nilR, eq_self, Nat.reduceLT, Nat.reduceLeDiff, Nat.reduceBEq, reduceCtorEq, ↓reduceIte, tyb, h, tzW]
 have hb : (x == 0) = false := by simpa using h
 have r := tzI_rng x
 have q1 : (0 ≤ tzI x) = True := eq_true r.1
 have q2 : (tzI x < 64) = True := eq_true r.2
 have q3 := tab_get (i := (tzI x).toNat) (by omega)
 have q4 := tab_rng (tzI x).toNat (by omega)
 have q5 : IntKind.i64.wrap (tab.getD (tzI x).toNat 0) = tab.getD (tzI x).toNat 0 := wrap_id (by omega) (by omega)
 have q6 : (tab.map (AV.int .u8)).length = 64 := rfl
 have q7 : ((tzI x).toNat < 64) = True := eq_true (by omega)
 unfold tzW
 rw [if_neg h]
 have u := show tzI x = _ from rfl
 simp only [tzI] at q1 q2 q3 q5 q7
 simp (maxSteps := 100000000) only [ivc, anf, vop, nilR, eq_self, Nat.reduceEqDiff, Nat.reduceLT, Nat.reduceLeDiff, Nat.reduceBEq, Int.reduceLE, Int.reduceToNat, reduceCtorEq, ↓reduceIte, tyb, g0, hb, tzI, q1, q2, q3, q5, q6, q7]
def maxI (a x : Int) : Int := if a < x then x else a
theorem max_loop {l : List Int} (hl : l.length ≤ 1000000) : ∀ (r m : List Int) (a : Int), l = m ++ r ->
  E.L 80 6 [.ro 1 (l.map (AV.int .i64)), .int .i64 a, .int .i64 m.length] [] = some ((.exit 0, [.ro 1 (l.map (AV.int .i64)), .int .i64 (r.foldl maxI a), .int .i64 l.length], []), True) := by
 intro r
 induction r with
 | nil =>
  intro m a h
  rw [List.append_nil] at h
  subst h
  have q3 : ((l.length : Int) < (l.length : Int)) = False := eq_false (by omega)
  rw [l80_6]
  simp (maxSteps := 100000000) only [ivc, anf, vlen, vbuiltin, nilR, eq_self, Nat.reduceEqDiff, Nat.reduceLT, Nat.reduceBEq, reduceCtorEq, ↓reduceIte, tyb, q3, List.foldl_nil]
 | cons x r ih =>
  intro m a h
  have hn : m.length + (r.length + 1) = l.length := by rw [h]; simp
  have hi' : (m.length : Int) < l.length := by omega
  have hg := getD_map (f := AV.int .i64) (show l[m.length]? = some x by rw [h]; simp)
  have hw : IntKind.i64.wrap ((m.length : Int) + 1) = m.length + 1 := wrap_id (by omega) (by omega)
  have hc : (0 ≤ (m.length : Int)) = True := eq_true (by omega)
  have ih' := ih (m ++ [x]) (if a < x then x else a) (by simp [h])
  simp only [List.length_append, List.length_cons, List.length_nil, Nat.zero_add, Int.natCast_add, Int.cast_ofNat_Int] at ih'
  rw [l80_6]
  simp (maxSteps := 100000000) only [ivc, anf, vlen, vbuiltin, nilR, eq_self, Nat.reduceEqDiff, Nat.reduceLT, Nat.reduceBEq, reduceCtorEq, ↓reduceIte, tyb, hi', hg, hw, hc, ih', List.foldl_cons, maxI]
theorem max_ev {x : Int} {l : List Int} (hl : (x :: l).length ≤ 1000000) : E.F 80 [.ro 1 ((x :: l).map (AV.int .i64))] [] = some ((.int .i64 (l.foldl maxI x), []), True) := by
 have h := max_loop hl l [x] x rfl
 simp only [List.map_cons, List.length_cons, List.length_nil, Nat.zero_add, Int.natCast_add, Int.cast_ofNat_Int] at h
 have q : ((l.length : Int) + 1 < 1) = False := eq_false (by omega)
 have q2 : (0 < (l.length : Int) + 1) = True := eq_true (by omega)
 rw [e80]
 simp (maxSteps := 100000000) only [ivc, anf, vlen, vbuiltin, nilR, eq_self, Nat.reduceEqDiff, Nat.reduceLT, Nat.reduceLeDiff, Nat.reduceAdd, Nat.reduceBEq, Int.reduceLE, Int.reduceToNat, reduceCtorEq, ↓reduceIte, tyb, q, q2, h]
def notW (x : Int) : Int := bitsI .xor .u64 (if IntKind.u64.signed = true then -1 else IntKind.u64.max) x
def leastL : List Int -> Int -> Int
 | [], _ => 512
 | w :: r, i => if w = 18446744073709551615 then leastL r (i + 1) else 64 * i + tzW (notW w)
theorem tzW_rng (x : Int) : 0 ≤ tzW x /\ tzW x ≤ 64 := by
 unfold tzW
 split
 ·omega
 ·have r := tzI_rng x
  have q4 := tab_rng (tzI x).toNat (by omega)
  omega
theorem least_loop : ∀ (r m : List Int), (m ++ r).length = 8 ->
  ∃ v e : Int, E.L 51 3 [.int .i64 0, .ptr 100000 0 0, .int .i64 m.length] [(100000, ⟨true, 8, [.agg ((m ++ r).map (AV.int .u64))]⟩)] =
   some ((if v = 0 then .exit 0 else .ret, [.int .i64 (if v = 0 then 0 else leastL r m.length), .ptr 100000 0 0, .int .i64 e], [(100000, ⟨true, 8, [.agg ((m ++ r).map (AV.int .u64))]⟩)]), True) /\ (v = 0 -> leastL r m.length = 512) := by
 intro r
 induction r with
 | nil =>
  intro m h
  rw [List.append_nil] at h
  have h8 : ((m.length : Int) < 8) = False := eq_false (by omega)
  refine ⟨0, m.length, ?_, fun _ => rfl⟩
  rw [l51_3, List.append_nil]
  simp (maxSteps := 100000000) only [ivc, anf, nilR, eq_self, Nat.reduceEqDiff, Nat.reduceLT, Nat.reduceLeDiff, Nat.reduceBEq, reduceCtorEq, ↓reduceIte, tyb, ldb, h8]
 | cons x r ih =>
  intro m h
  have hn : m.length + (r.length + 1) = 8 := by rw [<- h]; simp
  have hi' : (m.length : Int) < 8 := by omega
  have hg := getU (l := m ++ x :: r) (i := m.length) (by simp)
  have hg2 : (m ++ x :: r).getD m.length 0 = x := by simp
  have hw : IntKind.i64.wrap ((m.length : Int) + 1) = m.length + 1 := wrap_id (by omega) (by omega)
  have hw2 : IntKind.i64.wrap (64 * (m.length : Int)) = 64 * m.length := wrap_id (by omega) (by omega)
  have hc : (0 ≤ (m.length : Int) /\ m.length < 8) = True := eq_true (by omega)
  have a := tz_ev (x := notW x)
  have hr := tzW_rng (notW x)
  have hw3 : IntKind.i64.wrap (64 * (m.length : Int) + tzW (notW x)) = 64 * m.length + tzW (notW x) := wrap_id (by omega) (by omega)
  simp only [notW] at a hw3
  rw [hg2] at hg
  by_cases hx : x = 18446744073709551615
  ·have hx' : (x != 18446744073709551615) = false := by simp [hx]
   obtain ⟨v, e, i1, i2⟩ := ih (m ++ [x]) (by simpa using h)
   simp only [List.append_assoc, List.cons_append, List.nil_append, List.length_append, List.length_cons, List.length_nil, Nat.zero_add, Int.natCast_add, Int.cast_ofNat_Int] at i1 i2
   have hl : leastL (x :: r) m.length = leastL r (m.length + 1) := by rw [leastL, if_pos hx]
   refine ⟨v, e, ?_, ?_⟩
   ·rw [l51_3, hl]
    generalize m ++ x :: r = l at hg hg2 h i1 ⊢
    simp (maxSteps := 100000000) only [ivc, anf, vop, nilR, eq_self, Nat.reduceEqDiff, Nat.reduceLT, Nat.reduceLeDiff, Nat.reduceBEq, reduceCtorEq, ↓reduceIte, tyb, ldb, hi', hg, hw, hc, hx', i1]
   ·rw [hl]
    exact i2
  ·have hx' : (x != 18446744073709551615) = true := by simp [hx]
   refine ⟨1, m.length, ?_, fun h => by omega⟩
   have hl : leastL (x :: r) m.length = 64 * m.length + tzW (notW x) := by rw [leastL, if_neg hx]
   rw [l51_3, hl]
   generalize m ++ x :: r = l at hg hg2 h ⊢
   simp (maxSteps := 100000000) only [ivc, anf, vop, nilR, eq_self, Nat.reduceEqDiff, Nat.reduceLT, Nat.reduceLeDiff, Nat.reduceBEq, Int.reduceEq, Int.reduceNeg, reduceCtorEq, ↓reduceIte, tyb, ldb, hi', hg, hc, hx', hw2, hw3, a, notW]
theorem least_ev {l : List Int} (h : l.length = 8) : E.F 51 [.ptr 100000 0 0] [(100000, ⟨true, 8, [.agg (l.map (AV.int .u64))]⟩)] = some ((.int .i64 (leastL l 0), [(100000, ⟨true, 8, [.agg (l.map (AV.int .u64))]⟩)]), True) := by
 obtain ⟨v, e, h1, h2⟩ := least_loop l [] h
 simp only [List.length_nil, List.nil_append, Int.natCast_zero] at h1 h2
 rw [e51]
 by_cases hv : v = 0
 ·rw [h2 hv]
  rw [if_pos hv, if_pos hv] at h1
  simp (maxSteps := 100000000) only [ivc, anf, eq_self, Nat.reduceEqDiff, Nat.reduceLT, Nat.reduceLeDiff, Nat.reduceAdd, Nat.reduceBEq, reduceCtorEq, ↓reduceIte, ldb, h1]
 ·rw [if_neg hv, if_neg hv] at h1
  simp (maxSteps := 100000000) only [ivc, anf, eq_self, Nat.reduceEqDiff, Nat.reduceLT, Nat.reduceLeDiff, Nat.reduceAdd, Nat.reduceBEq, reduceCtorEq, ↓reduceIte, ldb, h1]
def rpL {α : Type} (x z : α) (d k : Nat) : List α := List.replicate d x ++ List.replicate k z
theorem rpL_len {α : Type} {x z : α} {d k : Nat} : (rpL x z d k).length = d + k := by simp [rpL]
theorem rp_take {α : Type} {f : α -> AV} {x z : α} {d k : Nat} : List.take d ((rpL x z d k).map f) = (List.replicate d x).map f := by
 rw [<- List.map_take, rpL, List.take_append_of_le_length (by simp), List.take_of_length_le (by simp)]
theorem rp_take2 {α : Type} {f : α -> AV} {x : α} {d k : Nat} : List.take k ((List.replicate d x).map f) = (List.replicate (min d k) x).map f := by
 rw [<- List.map_take, List.take_replicate, Nat.min_comm]
theorem rp_drop {α : Type} {f : α -> AV} {x z : α} {d k : Nat} : List.drop (d + min d k) ((rpL x z d k).map f) = (List.replicate (k - min d k) z).map f := by
 rw [<- List.map_drop, rpL, List.drop_append, List.drop_of_length_le (by simp), List.nil_append, List.length_replicate, show d + min d k - d = min d k by omega, List.drop_replicate]
theorem rp_join {α : Type} {f : α -> AV} {x z : α} {a b c : Nat} : (List.replicate a x).map f ++ ((List.replicate b x).map f ++ (List.replicate c z).map f) = (rpL x z (a + b) c).map f := by
 rw [<- List.append_assoc, <- List.map_append, <- List.map_append, rpL, List.replicate_append_replicate]
theorem rp_first {α : Type} {f : α -> AV} {x z : α} {n : Nat} : List.take n [f x] ++ List.drop (min 1 n) (List.replicate n (f z)) = (rpL x z (min 1 n) (n - min 1 n)).map f := by
 cases n with
 | zero => rfl
 | succ n =>
  have e1 : min 1 (n + 1) = 1 := by omega
  have e2 : n + 1 - 1 = n := by omega
  simp [rpL, e1, e2]
theorem rp_done {α : Type} {x z : α} {n : Nat} : rpL x z n 0 = List.replicate n x := by simp [rpL]
theorem cp_en {l l' : List Et} : (∀ e ∈ l.map enV, ∀ y ∈ l'.map enV, putl e 0 y.cells = y) = True := by
 refine eq_true fun e he y hy => ?_
 obtain ⟨a, _, rfl⟩ := List.mem_map.1 he
 obtain ⟨b, _, rfl⟩ := List.mem_map.1 hy
 rfl
def rp1H (x : Int) (d k : Nat) : HL := [(60000, ⟨false, 1, (rpL x 0 d k).map (AV.int .i64)⟩), (100000, ⟨false, 1, [.int .i64 x]⟩)]
theorem rep1_loop {x : Int} {n : Nat} (hn : n ≤ 1000000) : ∀ (s k d : Nat), k ≤ s -> d + k = n -> (k = 0 \/ 1 ≤ d) ->
  E.L 43 9 [.sl 60000 0 n, .int .i64 d] (rp1H x d k) = some ((.exit 0, [.sl 60000 0 n, .int .i64 n], rp1H x n 0), True) := by
 intro s
 induction s with
 | zero =>
  intro k d hk h hd
  have hk0 : k = 0 := by omega
  subst hk0
  have hd0 : d = n := by omega
  subst hd0
  have q : ((d : Int) < d) = False := eq_false (by omega)
  rw [l43_9]
  simp (maxSteps := 100000000) only [ivc, anf, vlen, vbuiltin, nilR, eq_self, Nat.reduceEqDiff, Nat.reduceLT, Nat.reduceLeDiff, Nat.reduceAdd, Nat.reduceBEq, reduceCtorEq, ↓reduceIte, tyb, rp1H, q]
 | succ s ih =>
  intro k d hk h hd
  by_cases hk0 : k = 0
  ·exact ih k d (by omega) h hd
  have hlen := rpL_len (x := x) (z := 0) (d := d) (k := k)
  have q : ((d : Int) < n) = True := eq_true (by omega)
  have q2 : (0 ≤ (d : Int)) = True := eq_true (by omega)
  have q3 : ((d : Int) ≤ n) = True := eq_true (by omega)
  have nd : n - d = k := by omega
  have hw : IntKind.i64.wrap ((d : Int) + (min d k : Nat)) = d + (min d k : Nat) := wrap_id (by omega) (by omega)
  have ih' := ih (k - min d k) (d + min d k) (by omega) (by omega) (by omega)
  simp only [rp1H, Int.natCast_add] at ih'
  have hd' : 1 ≤ d := by omega
  rw [l43_9]
  simp (maxSteps := 100000000) only [ivc, anf, vop, vslice, vlen, vbuiltin, nilR, eq_self, Nat.reduceEqDiff, Nat.reduceLT, Nat.reduceLeDiff, Nat.reduceAdd, Nat.reduceBEq, Int.reduceLE, Int.reduceToNat, reduceCtorEq, implies_true, ↓reduceIte, tyb, rp1H, q, q2, q3, nd, hw, cp_ok, rp_take, rp_take2, rp_drop, rp_join, List.length_replicate, ih']
  exact some_true (by omega)
theorem rep1_ev {x : Int} {n : Nat} (hn : n ≤ 1000000) : E.F 43 [.sl 100000 0 1, .int .i64 n] [(100000, ⟨false, 1, [.int .i64 x]⟩)] = some ((.sl 200000 0 n, [(200000, ⟨false, 1, (List.replicate n x).map (AV.int .i64)⟩), (100000, ⟨false, 1, [.int .i64 x]⟩)]), True) := by
 have a := mul79_ev (y := n) (by omega) (by omega)
 have q : ((n : Int) < 0) = False := eq_false (by omega)
 have q2 : ((9223372036854775807 : Int) < n) = False := eq_false (by omega)
 have w1 := u64id (y := n) (by omega) (by omega)
 have w2 : IntKind.i64.wrap n = n := wrap_id (by omega) (by omega)
 have h := rep1_loop (x := x) hn n (n - min 1 n) (min 1 n) (by omega) (by omega) (by omega)
 simp only [rp1H, rp_done] at h
 have f1 := rp_first (f := AV.int .i64) (x := x) (z := 0) (n := n)
 have w3 := u64id (y := 1) (by omega) (by omega)
 rw [e43]
 simp (maxSteps := 100000000) only [ivc, anf, vop, vlen, vbuiltin, nilR, salloc, eq_self, Nat.reduceEqDiff, Nat.reduceLT, Nat.reduceLeDiff, Nat.reduceAdd, Nat.reduceMul, Nat.reduceBEq, Int.reduceLT, reduceCtorEq, ↓reduceIte, tyb, q, q2, a, w1, w2, w3, f1, h]
 refine some_true ?_
 exact ⟨by omega, fun e he => by have := List.eq_of_mem_replicate he; subst this; rfl⟩
def rp2H (x : Et) (d k : Nat) : HL := [(60000, ⟨false, 2, (rpL x ⟨0, 0⟩ d k).map enV⟩), (100000, ⟨false, 2, [.agg [.int .i64 x.s, .int .i64 x.m]]⟩)]
theorem rep2_loop {x : Et} {n : Nat} (hn : n ≤ 1000000) : ∀ (s k d : Nat), k ≤ s -> d + k = n -> (k = 0 \/ 1 ≤ d) ->
  E.L 59 9 [.sl 60000 0 n, .int .i64 d] (rp2H x d k) = some ((.exit 0, [.sl 60000 0 n, .int .i64 n], rp2H x n 0), True) := by
 intro s
 induction s with
 | zero =>
  intro k d hk h hd
  have hk0 : k = 0 := by omega
  subst hk0
  have hd0 : d = n := by omega
  subst hd0
  have q : ((d : Int) < d) = False := eq_false (by omega)
  rw [l59_9]
  simp (maxSteps := 100000000) only [ivc, anf, vlen, vbuiltin, nilR, eq_self, Nat.reduceEqDiff, Nat.reduceLT, Nat.reduceLeDiff, Nat.reduceAdd, Nat.reduceBEq, reduceCtorEq, ↓reduceIte, tyb, rp2H, q]
 | succ s ih =>
  intro k d hk h hd
  by_cases hk0 : k = 0
  ·exact ih k d (by omega) h hd
  have hlen := rpL_len (x := x) (z := (⟨0, 0⟩ : Et)) (d := d) (k := k)
  have q : ((d : Int) < n) = True := eq_true (by omega)
  have q2 : (0 ≤ (d : Int)) = True := eq_true (by omega)
  have q3 : ((d : Int) ≤ n) = True := eq_true (by omega)
  have nd : n - d = k := by omega
  have hw : IntKind.i64.wrap ((d : Int) + (min d k : Nat)) = d + (min d k : Nat) := wrap_id (by omega) (by omega)
  have ih' := ih (k - min d k) (d + min d k) (by omega) (by omega) (by omega)
  simp only [rp2H, Int.natCast_add] at ih'
  have hd' : 1 ≤ d := by omega
  rw [l59_9]
  simp (maxSteps := 100000000) only [ivc, anf, vop, vslice, vlen, vbuiltin, nilR, eq_self, Nat.reduceEqDiff, Nat.reduceLT, Nat.reduceLeDiff, Nat.reduceAdd, Nat.reduceBEq, Int.reduceLE, Int.reduceToNat, reduceCtorEq, implies_true, ↓reduceIte, tyb, rp2H, q, q2, q3, nd, hw, cp_en, rp_take, rp_take2, rp_drop, rp_join, List.length_replicate, ih']
  exact some_true (by omega)
theorem rep2_ev {x : Et} {n : Nat} (hn : n ≤ 1000000) : E.F 59 [.sl 100000 0 1, .int .i64 n] [(100000, ⟨false, 2, [.agg [.int .i64 x.s, .int .i64 x.m]]⟩)] = some ((.sl 200000 0 n, [(200000, ⟨false, 2, (List.replicate n x).map enV⟩), (100000, ⟨false, 2, [.agg [.int .i64 x.s, .int .i64 x.m]]⟩)]), True) := by
 have a := mul79_ev (y := n) (by omega) (by omega)
 have q : ((n : Int) < 0) = False := eq_false (by omega)
 have q2 : ((9223372036854775807 : Int) < n) = False := eq_false (by omega)
 have w1 := u64id (y := n) (by omega) (by omega)
 have w2 : IntKind.i64.wrap n = n := wrap_id (by omega) (by omega)
 have h := rep2_loop (x := x) hn n (n - min 1 n) (min 1 n) (by omega) (by omega) (by omega)
 simp only [rp2H, rp_done] at h
 have f1 : List.take n [AV.agg [.int .i64 x.s, .int .i64 x.m]] ++ List.drop (min 1 n) (List.replicate n (AV.agg [.int .i64 0, .int .i64 0])) = _ := rp_first (f := enV) (x := x) (z := (⟨0, 0⟩ : Et)) (n := n)
 have w3 := u64id (y := 1) (by omega) (by omega)
 rw [e59]
 simp (maxSteps := 100000000) only [ivc, anf, vop, vlen, vbuiltin, nilR, salloc, eq_self, Nat.reduceEqDiff, Nat.reduceLT, Nat.reduceLeDiff, Nat.reduceAdd, Nat.reduceMul, Nat.reduceBEq, Int.reduceLT, reduceCtorEq, ↓reduceIte, tyb, q, q2, a, w1, w2, w3, f1, h]
 refine some_true ?_
 exact ⟨by omega, fun e he => by have := List.eq_of_mem_replicate he; subst this; rfl⟩
theorem set_map {α : Type} {f : α -> AV} {l : List α} {i : Nat} {x : α} : (l.map f).set i (f x) = (l.set i x).map f := by rw [List.map_set]
def tryM (F : Int -> Option (List Int)) (T : List Int) : Nat -> Int -> Option (List Int)
 | 0, _ => none
 | n + 1, c => if hasW T 0 c = true then tryM F T n (c + 1) else match F c with
  | some x => some x
  | none => tryM F T n (c + 1)
def maxL (cs : List Int) : Int := match cs with | [] => 0 | x :: l => l.foldl maxI x
def colM (g : List Int) (most : Int) : List Int -> List Int -> Option (List Int)
 | [], cs => some cs
 | s :: r, cs => tryM (fun c => colM g most r (cs.set s.toNat c)) (takW g s cs) (min most (maxL cs + 2)).toNat 0
def iR (l : List Int) : Ob := ⟨false, 1, l.map (AV.int .i64)⟩
def coH (g cs L : List Int) : HL := [(100000, gO g), (100001, iR cs), (100002, iR L)]
def coV (most : Int) (o n : Nat) (b : Bool) (u c : Int) : List AV := [.ptr 100000 0 0, .sl 100001 0 500, .sl 100002 o n, .int .i64 most, .bool b, .ptr 60000 0 0, .int .i64 u, .int .i64 c]
theorem col_nil {g cs L : List Int} {most : Int} : E.F 44 [.ptr 100000 0 0, .sl 100001 0 500, .sl 100002 L.length 0, .int .i64 most] (coH g cs L) = some ((.bool true, coH g cs L), True) := by
 rw [e44]
 simp (maxSteps := 100000000) only [ivc, anf, vlen, vbuiltin, nilR, eq_self, Nat.reduceEqDiff, Nat.reduceLT, Nat.reduceLeDiff, Nat.reduceAdd, Nat.reduceBEq, Int.reduceNeg, reduceCtorEq, ↓reduceIte, tyb, coH, iR, gO, ldb]
def okC (cs : List Int) : Prop := cs.length = 500 /\ ∀ c ∈ cs, -1 ≤ c /\ c < 500
theorem set_back {cs : List Int} {i : Nat} {c : Int} (h : cs.getD i 0 = -1) (hi : i < cs.length) : (cs.set i c).set i (-1) = cs := by
 rw [List.set_set]
 have : cs[i] = -1 := by simpa [List.getD_eq_getElem?_getD, List.getElem?_eq_getElem hi] using h
 rw [<- this]
 exact List.set_getElem_self hi
theorem okC_set {cs : List Int} {i : Nat} {c : Int} (h : okC cs) (h0 : -1 ≤ c) (h1 : c < 500) : okC (cs.set i c) := by
 refine ⟨by rw [List.length_set]; exact h.1, fun x hx => ?_⟩
 rcases List.mem_or_eq_of_mem_set hx with hx | hx
 ·exact h.2 x hx
 ·subst hx; exact ⟨h0, h1⟩
theorem gd_map {l m r : List Int} {s : Int} (h : l = m ++ s :: r) : (l.map (AV.int .i64)).getD m.length .junk = .int .i64 s := by
 subst h
 simp
theorem getI {l : List Int} {i : Nat} (h : i < l.length) : (l.map (AV.int .i64)).getD i .junk = .int .i64 (l.getD i 0) := by
 simp [List.getD_eq_getElem?_getD, List.getElem?_eq_getElem h]
theorem col_loop {g cs L : List Int} {most u : Int} {s : Int} {m r T : List Int} (hL : L = m ++ s :: r) (hl : L.length ≤ 500) (hT : T.length = 8) (hs : 0 ≤ s /\ s < 500) (hcs : okC cs) (hm : most ≤ 500) (hu : -1 ≤ u /\ u < 500) (hg : cs.getD s.toNat 0 = -1)
  (F : Int -> Option (List Int))
  (ih0 : ∀ c, 0 ≤ c -> c < most -> E.F 44 [.ptr 100000 0 0, .sl 100001 0 500, .sl 100002 (m.length + 1) r.length, .int .i64 most] (coH g (cs.set s.toNat c) L) = some ((.bool (F c).isSome, coH g ((F c).getD (cs.set s.toNat c)) L), True)) : ∀ (k : Nat) (c : Int), 0 ≤ c -> c + k = min most (u + 2) ->
  ∃ e : Int, E.L 44 7 (coV most m.length (r.length + 1) false u c) (coH g cs L ++ [(60000, ⟨true, 8, [.agg (T.map (AV.int .u64))]⟩)])
   = some ((if (tryM F T k c).isSome then .ret else .exit 0, coV most m.length (r.length + 1) (tryM F T k c).isSome u e, coH g ((tryM F T k c).getD cs) L ++ [(60000, ⟨true, 8, [.agg (T.map (AV.int .u64))]⟩)]), True) := by
 intro k
 induction k with
 | zero =>
  intro c h0 hc
  refine ⟨c, ?_⟩
  have w : IntKind.i64.wrap (u + 1) = u + 1 := wrap_id (by omega) (by omega)
  rw [l44_7]
  by_cases q1 : c < most
  ·have q2 : ¬ (c ≤ u + 1) := by omega
   simp (maxSteps := 100000000) only [ivc, anf, nilR, eq_self, Nat.reduceEqDiff, Nat.reduceLT, Nat.reduceLeDiff, Nat.reduceAdd, Nat.reduceBEq, Int.reduceNeg, reduceCtorEq, ↓reduceIte, tyb, coV, coH, iR, gO, ldb, q1, q2, w, tryM]
  ·simp (maxSteps := 100000000) only [ivc, anf, nilR, eq_self, Nat.reduceEqDiff, Nat.reduceLT, Nat.reduceLeDiff, Nat.reduceAdd, Nat.reduceBEq, Int.reduceNeg, reduceCtorEq, ↓reduceIte, tyb, coV, coH, iR, gO, ldb, q1, tryM]
 | succ k ih =>
  intro c h0 hc
  have q1 : c < most := by omega
  have q2 : c ≤ u + 1 := by omega
  have w : IntKind.i64.wrap (u + 1) = u + 1 := wrap_id (by omega) (by omega)
  have w2 : IntKind.i64.wrap (c + 1) = c + 1 := wrap_id (by omega) (by omega)
  have a := hasr_ev (l := T) (c := 0) (n := c) h0 (by omega) (by omega)
  have gL := gd_map hL
  have q3 : 0 < (r.length : Int) + 1 := by omega
  have q4 : (0 ≤ s /\ s < 500) = True := eq_true hs
  have k1 := getI (l := cs) (i := s.toNat) (by rw [hcs.1]; omega)
  have k2 := getI (l := cs.set s.toNat c) (i := s.toNat) (by rw [List.length_set, hcs.1]; omega)
  have k3 : ((r.length : Int) + 1).toNat - 1 = r.length := by omega
  have k4 : (1 ≤ (r.length : Int) + 1) = True := eq_true (by omega)
  have k5 : ((r.length : Int) + 1 ≤ r.length + 1) = True := eq_true (by omega)
  obtain ⟨e, ih'⟩ := ih (c + 1) (by omega) (by omega)
  by_cases h : hasW T 0 c = true
  ·refine ⟨e, ?_⟩
   have ht : tryM F T (k + 1) c = tryM F T k (c + 1) := by rw [tryM, if_pos h]
   rw [ht]
   generalize tryM F T k (c + 1) = R at ih'
   rw [l44_7]
   rw [h] at a
   simp only [coV, coH, iR, gO, List.cons_append, List.nil_append] at ih'
   simp (maxSteps := 100000000) only [ivc, anf, nilR, eq_self, Nat.reduceEqDiff, Nat.reduceLT, Nat.reduceLeDiff, Nat.reduceAdd, Nat.reduceBEq, Int.reduceNeg, reduceCtorEq, ↓reduceIte, tyb, coV, coH, iR, gO, ldb, agg_imm, q1, q2, w, w2, a, ih']
  ·have h' : hasW T 0 c = false := by simpa using h
   have b := ih0 c h0 q1
   rw [h'] at a
   cases hF : F c with
   | none =>
    have ht : tryM F T (k + 1) c = tryM F T k (c + 1) := by rw [tryM, if_neg h, hF]
    refine ⟨e, ?_⟩
    rw [hF] at b
    rw [ht]
    generalize tryM F T k (c + 1) = R at ih'
    have sb := set_back (c := c) hg (by rw [hcs.1]; omega)
    rw [l44_7]
    simp only [coV, coH, iR, gO, List.cons_append, List.nil_append, Option.isSome_none, Option.getD_none] at ih' b
    simp (maxSteps := 100000000) only [ivc, anf, vop, vslice, nilR, eq_self, Nat.reduceEqDiff, Nat.reduceLT, Nat.reduceLeDiff, Nat.reduceAdd, Nat.reduceMul, Nat.reduceBEq, Int.reduceLE, Int.reduceNeg, Int.reduceToNat, reduceCtorEq, implies_true, ↓reduceIte, tyb, coV, coH, iR, gO, ldb, agg_imm, q1, q2, w, w2, a, q3, q4, gL, k1, k2, k3, k4, k5, set_map, sb, b, ih']
   | some x =>
    have ht : tryM F T (k + 1) c = some x := by rw [tryM, if_neg h, hF]
    refine ⟨c, ?_⟩
    rw [hF] at b
    rw [ht]
    rw [l44_7]
    simp only [coH, iR, gO, Option.isSome_some, Option.getD_some] at b
    simp (maxSteps := 100000000) only [ivc, anf, vop, vslice, nilR, eq_self, Nat.reduceEqDiff, Nat.reduceLT, Nat.reduceLeDiff, Nat.reduceAdd, Nat.reduceMul, Nat.reduceBEq, Int.reduceLE, Int.reduceNeg, Int.reduceToNat, reduceCtorEq, implies_true, ↓reduceIte, tyb, coV, coH, iR, gO, ldb, agg_imm, q1, q2, w, a, q3, q4, gL, k1, k3, k4, k5, set_map, b]
theorem foldl_max (l : List Int) : ∀ a, (∀ c ∈ l, c < 500) -> a < 500 -> a ≤ l.foldl maxI a /\ l.foldl maxI a < 500 := by
 induction l with
 | nil => intro a _ h; exact ⟨Int.le_refl _, h⟩
 | cons x l ih =>
  intro a h ha
  have hx := h x (by simp)
  have := ih (maxI a x) (fun c hc => h c (by simp [hc])) (by unfold maxI; split <;> omega)
  rw [List.foldl_cons]
  refine ⟨Int.le_trans ?_ this.1, this.2⟩
  unfold maxI
  split <;> omega
theorem maxL_rng {cs : List Int} (h : okC cs) : -1 ≤ maxL cs /\ maxL cs < 500 := by
 match cs, h with
 | x :: l, h =>
  have hx := h.2 x (by simp)
  have := foldl_max l x (fun c hc => (h.2 c (by simp [hc])).2) hx.2
  simp only [maxL]
  omega
 | [], h => exact absurd h.1 (by decide)
theorem maxL_ev {cs : List Int} (h : okC cs) : E.F 80 [.ro 1 (cs.map (AV.int .i64))] [] = some ((.int .i64 (maxL cs), []), True) := by
 match cs, h with
 | x :: l, h => exact max_ev (by rw [h.1]; omega)
 | [], h => exact absurd h.1 (by decide)
theorem takW_len {g cs : List Int} {s : Int} : (takW g s cs).length = 8 := by rw [takW, takM_len, zs_len]
theorem getD_set_ne {l : List Int} {i j : Nat} {x : Int} (h : i ≠ j) : (l.set i x).getD j 0 = l.getD j 0 := by
 simp [List.getD_eq_getElem?_getD, h]
theorem tryM_some {F : Int -> Option (List Int)} {T x : List Int} : ∀ (n : Nat) (c : Int), tryM F T n c = some x -> ∃ d, c ≤ d /\ d < c + n /\ hasW T 0 d = false /\ F d = some x
 | 0, c, h => by cases h
 | n + 1, c, h => by
  rw [tryM] at h
  split at h
  ·obtain ⟨d, h1, h2, h3⟩ := tryM_some n (c + 1) h
   exact ⟨d, by omega, by omega, h3⟩
  ·rename_i hc
   split at h
   ·rename_i y hy
    cases h
    exact ⟨c, by omega, by omega, by simpa using hc, hy⟩
   ·obtain ⟨d, h1, h2, h3⟩ := tryM_some n (c + 1) h
    exact ⟨d, by omega, by omega, h3⟩
theorem colM_len {g : List Int} {most : Int} : ∀ {r cs x : List Int}, colM g most r cs = some x -> x.length = cs.length := by
 intro r
 induction r with
 | nil => intro cs x h; cases h; rfl
 | cons s r ih =>
  intro cs x h
  rw [colM] at h
  obtain ⟨d, _, _, _, h4⟩ := tryM_some _ _ h
  have := ih h4
  rwa [List.length_set] at this
theorem col_ev {g L : List Int} {most : Int} (hg : g.length = 4008) (hmo : 0 ≤ most) (hm : most ≤ 500) (hl : L.length ≤ 500) (hL : ∀ s ∈ L, 0 ≤ s /\ s < 500) : ∀ (r m cs : List Int), L = m ++ r -> r.Nodup -> okC cs -> (∀ s ∈ r, cs.getD s.toNat 0 = -1) ->
  E.F 44 [.ptr 100000 0 0, .sl 100001 0 500, .sl 100002 m.length r.length, .int .i64 most] (coH g cs L) = some ((.bool (colM g most r cs).isSome, coH g ((colM g most r cs).getD cs) L), True) := by
 intro r
 induction r with
 | nil =>
  intro m cs h _ _ _
  rw [List.append_nil] at h
  subst h
  rw [colM]
  exact col_nil
 | cons s r ih =>
  intro m cs h hnd hcs hneg
  have hs := hL s (by rw [h]; simp)
  have hrng := maxL_rng hcs
  have hgs := hneg s (by simp)
  have nd := List.nodup_cons.1 hnd
  have ih0 : ∀ c, 0 ≤ c -> c < most -> E.F 44 [.ptr 100000 0 0, .sl 100001 0 500, .sl 100002 (m.length + 1) r.length, .int .i64 most] (coH g (cs.set s.toNat c) L) = some ((.bool (colM g most r (cs.set s.toNat c)).isSome, coH g ((colM g most r (cs.set s.toNat c)).getD (cs.set s.toNat c)) L), True) := by
   intro c h0 hc
   have := ih (m ++ [s]) (cs.set s.toNat c) (by rw [h]; simp) nd.2 (okC_set hcs (by omega) (by omega)) (fun t ht => by
    have hne : s ≠ t := fun e => nd.1 (e ▸ ht)
    have ht0 := hL t (by rw [h]; simp [ht])
    rw [getD_set_ne (by omega)]
    exact hneg t (by simp [ht]))
   rwa [List.length_append, List.length_singleton] at this
  ·obtain ⟨e, lp⟩ := col_loop (g := g) (T := takW g s cs) h hl takW_len hs hcs hm hrng hgs (fun c => colM g most r (cs.set s.toNat c)) ih0 (min most (maxL cs + 2)).toNat 0 (by omega) (by omega)
   have a := taken_ev (g := g) (cs := cs) (s := s) hg hs (by rw [hcs.1]; omega) (fun c hc => by have := (hcs.2 c hc).2; omega)
   have b := maxL_ev hcs
   have gL := gd_map h
   have q3 : ((r.length : Int) + 1 == 0) = false := by simp; omega
   have t5 : List.take 500 (cs.map (AV.int .i64)) = cs.map (AV.int .i64) := List.take_of_length_le (by simp [hcs.1])
   have q4 : (0 < (r.length : Int) + 1) = True := eq_true (by omega)
   rw [colM]
   have hR : ∀ x, tryM (fun c => colM g most r (cs.set s.toNat c)) (takW g s cs) (min most (maxL cs + 2)).toNat 0 = some x -> x.length = cs.length := fun x hx => by
    obtain ⟨d, _, _, _, h4⟩ := tryM_some _ _ hx
    have := colM_len h4
    rwa [List.length_set] at this
   generalize tryM (fun c => colM g most r (cs.set s.toNat c)) (takW g s cs) (min most (maxL cs + 2)).toNat 0 = R at lp hR ⊢
   generalize hT : takW g s cs = T at lp a
   have hT8 : T.length = 8 := by rw [<- hT]; exact takW_len
   have k1 := take8 hT8
   have k2 := put8 hT8
   simp only [coH, coV, gO, iR, gR, List.cons_append, List.nil_append] at lp a
   rw [e44]
   cases R with
   | none =>
    simp only [Option.isSome_none, Option.getD_none, Bool.false_eq_true, if_false] at lp
    simp (maxSteps := 100000000) only [ivc, anf, vlen, vbuiltin, nilR, salloc, eq_self, Nat.reduceEqDiff, Nat.reduceLT, Nat.reduceLeDiff, Nat.reduceAdd, Nat.reduceBEq, Int.reduceLE, Int.reduceNeg, Int.reduceToNat, reduceCtorEq, ↓reduceIte, tyb, ↓zrep, zs_len, t90z, coH, iR, gO, ldb, agg_flats, agg_imm, q3, q4, t5, gL, a, b, hT8, k2, lp]
   | some x =>
    simp only [Option.isSome_some, Option.getD_some, if_true] at lp
    simp (maxSteps := 100000000) only [ivc, anf, vlen, vbuiltin, nilR, salloc, eq_self, Nat.reduceEqDiff, Nat.reduceLT, Nat.reduceLeDiff, Nat.reduceAdd, Nat.reduceBEq, Int.reduceLE, Int.reduceNeg, Int.reduceToNat, reduceCtorEq, ↓reduceIte, tyb, ↓zrep, zs_len, t90z, coH, iR, gO, ldb, agg_flats, agg_imm, q3, q4, t5, gL, a, b, hT8, k2, lp]
    exact some_true (hR x rfl)
def knI (g : List Int) : Nat -> Int -> List Int
 | 0, _ => []
 | k + 1, a => (if hasW g 0 a = true then [a] else []) ++ knI g k (a + 1)
def knW (g : List Int) : List Int := knI g 500 0
theorem knI_mem {g : List Int} {x : Int} : ∀ {k : Nat} {a : Int}, x ∈ knI g k a ↔ a ≤ x /\ x < a + k /\ hasW g 0 x = true := by
 intro k
 induction k with
 | zero => intro a; simp only [knI, List.not_mem_nil, false_iff]; omega
 | succ k ih =>
  intro a
  rw [knI, List.mem_append, ih]
  constructor
  ·rintro (h | ⟨h1, h2, h3⟩)
   ·split at h
    ·rename_i hh
     rw [List.mem_singleton] at h
     subst h
     exact ⟨by omega, by omega, hh⟩
    ·cases h
   ·exact ⟨by omega, by omega, h3⟩
  ·rintro ⟨h1, h2, h3⟩
   by_cases hx : x = a
   ·subst hx
    rw [if_pos h3]
    exact .inl (by simp)
   ·exact .inr ⟨by omega, by omega, h3⟩
theorem knI_nodup {g : List Int} : ∀ {k : Nat} {a : Int}, (knI g k a).Nodup := by
 intro k
 induction k with
 | zero => intro a; exact List.nodup_nil
 | succ k ih =>
  intro a
  rw [knI]
  split
  ·exact List.nodup_cons.2 ⟨fun h => by have := (knI_mem.1 h).1; omega, ih⟩
  ·exact ih
theorem knI_len {g : List Int} : ∀ {k : Nat} {a : Int}, (knI g k a).length ≤ k := by
 intro k
 induction k with
 | zero => intro a; exact Nat.le_refl 0
 | succ k ih =>
  intro a
  have := ih (a := a + 1)
  rw [knI, List.length_append]
  split <;> simp <;> omega
theorem kn_loop {g : List Int} (hg : g.length = 4008) : ∀ (k : Nat) (a : Int) (m : List Int), a + k = 500 -> 0 ≤ a -> m.length ≤ a ->
  E.L 15 10 [.ptr 60000 0 0, .sl 60001 0 m.length, .int .i64 a] [(60000, gO g), (60001, iR m)] = some ((.exit 0, [.ptr 60000 0 0, .sl 60001 0 (m ++ knI g k a).length, .int .i64 500], [(60000, gO g), (60001, iR (m ++ knI g k a))]), True) := by
 intro k
 induction k with
 | zero =>
  intro a m h ha hm
  have h' : a = 500 := by omega
  subst h'
  rw [l15_10]
  simp (maxSteps := 100000000) only [ivc, anf, nilR, eq_self, Nat.reduceEqDiff, Nat.reduceLT, Nat.reduceLeDiff, Nat.reduceAdd, Nat.reduceBEq, Int.reduceLT, reduceCtorEq, ↓reduceIte, tyb, iR, gO, ldb, knI]
 | succ k ih =>
  intro a m h ha hm
  have q2 : a < 500 := by omega
  have hw : IntKind.i64.wrap (a + 1) = a + 1 := wrap_id (by omega) (by omega)
  have c := hasr_ev (l := g) (c := 0) (n := a) ha (by omega) (by omega)
  by_cases h1 : hasW g 0 a = true
  ·have ih' := ih (a + 1) (m ++ [a]) (by omega) (by omega) (by simp; omega)
   simp only [iR, gO, List.map_append, List.map_cons, List.map_nil, List.length_append, List.length_cons, List.length_nil, Nat.zero_add, List.append_assoc, List.cons_append, List.nil_append] at ih'
   rw [l15_10]
   rw [h1] at c
   simp (maxSteps := 100000000) only [ivc, anf, vop, nilR, salloc, sappend, eq_self, Nat.reduceEqDiff, Nat.reduceLT, Nat.reduceLeDiff, Nat.reduceAdd, Nat.reduceBEq, reduceCtorEq, ↓reduceIte, tyb, iR, gO, ldb, agg_imm, knI, q2, hw, c, h1, ih']
   exact some_true (by omega)
  ·have ih' := ih (a + 1) m (by omega) (by omega) (by omega)
   have h1' : hasW g 0 a = false := by simpa using h1
   simp only [iR, gO] at ih'
   rw [l15_10]
   rw [h1'] at c
   simp (maxSteps := 100000000) only [ivc, anf, vop, nilR, eq_self, Nat.reduceEqDiff, Nat.reduceLT, Nat.reduceLeDiff, Nat.reduceAdd, Nat.reduceBEq, reduceCtorEq, ↓reduceIte, tyb, iR, gO, ldb, agg_imm, knI, q2, hw, c, h1', ih']
theorem kn_all {g : List Int} (hg : g.length = 4008) : E.L 15 10 [.ptr 60000 0 0, .sl 60001 0 0, .int .i64 0] [(60000, gO g), (60001, iR [])] = some ((.exit 0, [.ptr 60000 0 0, .sl 60001 0 (knW g).length, .int .i64 500], [(60000, gO g), (60001, iR (knW g))]), True) := by
 have h := kn_loop hg 500 0 [] (by omega) (by omega) (by simp)
 rw [List.nil_append] at h
 exact h
def ms (n : Nat) : List Int := List.replicate n (-1)
theorem rep_ms {n : Nat} (hn : n ≤ 1000000) : E.F 43 [.sl 100000 0 1, .int .i64 n] [(100000, ⟨false, 1, [.int .i64 (-1)]⟩)] = some ((.sl 200000 0 n, [(200000, ⟨false, 1, (ms n).map (AV.int .i64)⟩), (100000, ⟨false, 1, [.int .i64 (-1)]⟩)]), True) := rep1_ev hn
theorem ms_len {n : Nat} : (ms n).length = n := by simp [ms]
theorem ms_ok : okC (ms 500) := ⟨ms_len, fun c hc => by have := List.eq_of_mem_replicate hc; omega⟩
theorem ms_get {n i : Nat} (h : i < n) : (ms n).getD i 0 = -1 := by
 simp [ms, List.getD_eq_getElem?_getD, h]
def minM (g L cs : List Int) : Nat -> Int -> Int
 | 0, m => m
 | k + 1, m => if (colM g m L cs).isSome = true then m else minM g L cs k (m + 1)
theorem min_loop {g L cs : List Int} (hg : g.length = 4008) (hl : L.length ≤ 500) (hL : ∀ s ∈ L, 0 ≤ s /\ s < 500) (hnd : L.Nodup) (hcs : okC cs) (hneg : ∀ s ∈ L, cs.getD s.toNat 0 = -1) : ∀ (k : Nat) (m : Int), 0 ≤ m -> m + k = L.length ->
  ∃ cs', E.L 15 17 [.ptr 60000 0 0, .sl 60001 0 L.length, .sl 60002 0 500, .int .i64 m] [(60000, gO g), (60001, iR L), (60002, iR cs)] = some ((.exit 2, [.ptr 60000 0 0, .sl 60001 0 L.length, .sl 60002 0 500, .int .i64 (minM g L cs k m)], [(60000, gO g), (60001, iR L), (60002, iR cs')]), True) := by
 intro k
 induction k with
 | zero =>
  intro m h0 h
  refine ⟨cs, ?_⟩
  have q : (m < L.length) = False := eq_false (by omega)
  rw [l15_17]
  simp (maxSteps := 100000000) only [ivc, anf, vlen, vbuiltin, nilR, eq_self, Nat.reduceEqDiff, Nat.reduceLT, Nat.reduceLeDiff, Nat.reduceAdd, Nat.reduceBEq, reduceCtorEq, ↓reduceIte, tyb, iR, gO, ldb, minM, q]
 | succ k ih =>
  intro m h0 h
  have q : (m < L.length) = True := eq_true (by omega)
  have hw : IntKind.i64.wrap (m + 1) = m + 1 := wrap_id (by omega) (by omega)
  have c := col_ev (g := g) (L := L) (most := m) hg h0 (by omega) hl hL L [] cs rfl hnd hcs hneg
  cases hc : colM g m L cs with
  | none =>
   obtain ⟨cs', ih'⟩ := ih (m + 1) (by omega) (by omega)
   refine ⟨cs', ?_⟩
   rw [hc] at c
   have e : minM g L cs (k + 1) m = minM g L cs k (m + 1) := by rw [minM, hc]; rfl
   rw [e]
   simp only [coH, gO, iR, List.length_nil, Option.isSome_none, Option.getD_none] at c ih'
   rw [l15_17]
   simp (maxSteps := 100000000) only [ivc, anf, vlen, vbuiltin, nilR, eq_self, Nat.reduceEqDiff, Nat.reduceLT, Nat.reduceLeDiff, Nat.reduceAdd, Nat.reduceMul, Nat.reduceBEq, reduceCtorEq, ↓reduceIte, tyb, iR, gO, ldb, q, hw, c, ih']
  | some x =>
   refine ⟨x, ?_⟩
   rw [hc] at c
   have e : minM g L cs (k + 1) m = m := by rw [minM, hc]; rfl
   rw [e]
   simp only [coH, gO, iR, List.length_nil, Option.isSome_some, Option.getD_some] at c
   rw [l15_17]
   simp (maxSteps := 100000000) only [ivc, anf, vlen, vbuiltin, nilR, eq_self, Nat.reduceEqDiff, Nat.reduceLT, Nat.reduceLeDiff, Nat.reduceAdd, Nat.reduceMul, Nat.reduceBEq, reduceCtorEq, ↓reduceIte, tyb, iR, gO, ldb, q, c]
def leastW (g : List Int) : Int := minM g (knW g) (ms 500) (knW g).length 0
theorem least15_ev {w : Wd} (ok : ckM w = 0 -> okW w) : E.F 15 [wdV w] [] = some ((if ckM w = 0 then if 12 < cntM (graphW w) 8 then .tup [.int .i64 0, .int .i64 8] else .tup [.int .i64 (leastW (graphW w)), .int .i64 0] else .tup [.int .i64 0, .int .i64 (ckM w)], []), True) := by
 have h1 := check_ev (w := w)
 rw [e15]
 by_cases h : ckM w = 0
 ·rw [if_pos h]
  rw [h] at h1
  have h2 := graph_ev (ok h)
  have hg : (graphW w).length = 4008 := graphW_len
  generalize graphW w = g at h2 hg ⊢
  have h3 := count_ev hg
  have hk := kn_all hg
  have hL : ∀ s ∈ knW g, 0 ≤ s /\ s < 500 := fun s hs => by have := knI_mem.1 hs; omega
  have hr := rep_ms (n := 500) (by omega)
  have hneg : ∀ s ∈ knW g, (ms 500).getD s.toNat 0 = -1 := fun s hs => by
   have := hL s hs
   exact ms_get (by omega)
  obtain ⟨cs', h4⟩ := min_loop (L := knW g) (cs := ms 500) hg knI_len hL knI_nodup ms_ok hneg (knW g).length 0 (by omega) (by omega)
  simp only [wdV] at h1 h2
  simp only [gO, gR, iR, List.map_nil, Int.cast_ofNat_Int] at h2 h3 hk hr h4
  by_cases hc : 12 < cntM g 8
  ·rw [if_pos hc]
   simp (maxSteps := 100000000) only [ivc, anf, vop, nilR, salloc, eq_self, Nat.reduceEqDiff, Nat.reduceLT, Nat.reduceLeDiff, Nat.reduceAdd, Nat.reduceMul, Nat.reduceBEq, Int.reduceNeg, ↓reduceIte, tyb, wdV, ldb, agg_imm, h1, h2, h3, hc]
  ·rw [if_neg hc]
   simp (maxSteps := 100000000) only [ivc, anf, vop, nilR, salloc, eq_self, Nat.reduceEqDiff, Nat.reduceLT, Nat.reduceLeDiff, Nat.reduceAdd, Nat.reduceMul, Nat.reduceBEq, Int.reduceNeg, reduceCtorEq, ↓reduceIte, tyb, wdV, ldb, agg_imm, h1, h2, h3, hc, hk, hr, h4, leastW]
 ·rw [if_neg h]
  have h' : (ckM w != 0) = true := by simp [h]
  simp only [wdV] at h1
  simp (maxSteps := 100000000) only [ivc, anf, nilR, salloc, eq_self, Nat.reduceEqDiff, Nat.reduceLT, Nat.reduceLeDiff, Nat.reduceAdd, Nat.reduceBEq, Int.reduceNeg, ↓reduceIte, tyb, wdV, h1, h']
end Go.Proofs.YtikppcfabnnhfaaDoor

