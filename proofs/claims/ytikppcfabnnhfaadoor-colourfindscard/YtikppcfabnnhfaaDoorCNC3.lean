/- Check: classes. -/
import Derived.Test.YtikppcfabnnhfaaDoorCNC2
namespace Go.Proofs.YtikppcfabnnhfaaDoor
open Go Go.Aw
set_option linter.unusedSimpArgs false
set_option linter.unusedVariables false
set_option maxRecDepth 100000
set_option maxHeartbeats 40000000
def badE (nb : Int) (e : Et) : Bool := decide (e.s < 0) || decide (500 ≤ e.s) || decide (e.m < 0) || decide (nb ≤ e.m)
def ckC (nb : Int) : Option Int → List Et → Int
  | _, [] => 0
  | p, e :: r => if badE nb e then 3 else if (match p with | some q => decide (e.s ≤ q) | none => false) then 7 else ckC nb (some e.s) r
def ckV (l : List Et) (nb t i : Int) : List AV := [.ro 2 (l.map enV), .int .i64 nb, .int .i64 t, .ro 2 (l.map enV), .int .i64 l.length, .int .i64 i]
theorem ck_loop {l : List Et} {nb : Int} (hl : l.length ≤ 1000000) : ∀ (r m : List Et) (q : Et), l = (m ++ [q]) ++ r →
    ∃ t e : Int, E.L 71 3 (ckV l nb 0 ((m ++ [q]).length : Nat)) [] = some ((if ckC nb (some q.s) r = 0 then .exit 0 else .ret, ckV l nb (ckC nb (some q.s) r) e, []), True) := by
  intro r
  induction r with
  | nil =>
    intro m q h
    rw [List.append_nil] at h
    refine ⟨0, l.length, ?_⟩
    rw [← h, l71_3]
    simp (maxSteps := 100000000) only [ivc, anf, nilR, eq_self, Nat.reduceEqDiff, Nat.reduceLT, Nat.reduceAdd, Nat.reduceBEq, reduceCtorEq, ↓reduceIte, tyb, ckV, Int.lt_irrefl, ckC]
  | cons x r ih =>
    intro m q h
    have hml : (m ++ [q]).length = m.length + 1 := by simp
    have hn : m.length + 1 + (r.length + 1) = l.length := by rw [h]; simp; omega
    have hi' : (m.length : Int) + 1 < l.length := by omega
    have hg := getD_map (f := enV) (show l[m.length + 1]? = some x by rw [h]; simp)
    have hg2 := getD_map (f := enV) (show l[m.length]? = some q by rw [h]; simp)
    have hw : IntKind.i64.wrap ((m.length : Int) + 1 + 1) = m.length + 1 + 1 := wrap_id (by omega) (by omega)
    have hw2 : IntKind.i64.wrap ((m.length : Int) + 1 - 1) = m.length := by rw [Int.add_sub_cancel]; exact wrap_id (by omega) (by omega)
    have hc : (0 ≤ (m.length : Int) + 1) = True := eq_true (by omega)
    have hp : (0 < (m.length : Int) + 1) = True := eq_true (by omega)
    have hq : (0 ≤ (m.length : Int) ∧ (m.length : Int) < l.length) = True := eq_true (by omega)
    have hnt : ((m.length : Int) + 1).toNat = m.length + 1 := by omega
    rw [hml]
    simp only [Int.natCast_add, Int.cast_ofNat_Int]
    have ih' := ih (m ++ [q]) x (by rw [h]; simp)
    simp only [List.length_append, List.length_cons, List.length_nil, Nat.zero_add, Int.natCast_add, Int.cast_ofNat_Int] at ih'
    have go : (∃ t, t ≠ 0 ∧ ckC nb (some q.s) (x :: r) = t ∧ E.L 71 3 (ckV l nb 0 ((m.length : Int) + 1)) [] = some ((.ret, ckV l nb t ((m.length : Int) + 1), []), True)) ∨ (ckC nb (some q.s) (x :: r) = ckC nb (some x.s) r ∧ E.L 71 3 (ckV l nb 0 ((m.length : Int) + 1)) [] = E.L 71 3 (ckV l nb 0 ((m.length : Int) + 1 + 1)) []) := by
      by_cases c1 : x.s < 0
      · refine .inl ⟨3, by omega, by simp [ckC, badE, c1], ?_⟩
        rw [l71_3]
        simp (maxSteps := 100000000) only [ivc, anf, vop, nilR, salloc, eq_self, Nat.reduceEqDiff, Nat.reduceLT, Nat.reduceLeDiff, Nat.reduceAdd, Nat.reduceBEq, Int.reduceLT, Int.reduceLE, reduceCtorEq, ↓reduceIte, tyb, ckV, enV, hi', hg, hnt, hc, c1]
      by_cases c2 : 500 ≤ x.s
      · refine .inl ⟨3, by omega, by simp [ckC, badE, c2], ?_⟩
        rw [l71_3]
        simp (maxSteps := 100000000) only [ivc, anf, vop, nilR, salloc, eq_self, Nat.reduceEqDiff, Nat.reduceLT, Nat.reduceLeDiff, Nat.reduceAdd, Nat.reduceBEq, Int.reduceLT, reduceCtorEq, ↓reduceIte, tyb, ckV, enV, hi', hg, hnt, hc, c1, c2]
      by_cases c3 : x.m < 0
      · refine .inl ⟨3, by omega, by simp [ckC, badE, c3], ?_⟩
        rw [l71_3]
        simp (maxSteps := 100000000) only [ivc, anf, vop, nilR, salloc, eq_self, Nat.reduceEqDiff, Nat.reduceLT, Nat.reduceLeDiff, Nat.reduceAdd, Nat.reduceBEq, reduceCtorEq, ↓reduceIte, tyb, ckV, enV, hi', hg, hnt, hc, c1, c2, c3]
      by_cases c4 : nb ≤ x.m
      · refine .inl ⟨3, by omega, by simp [ckC, badE, c4], ?_⟩
        rw [l71_3]
        simp (maxSteps := 100000000) only [ivc, anf, vop, nilR, salloc, eq_self, Nat.reduceEqDiff, Nat.reduceLT, Nat.reduceLeDiff, Nat.reduceAdd, Nat.reduceBEq, reduceCtorEq, ↓reduceIte, tyb, ckV, enV, hi', hg, hnt, hc, c1, c2, c3, c4]
      by_cases c5 : x.s ≤ q.s
      · refine .inl ⟨7, by omega, by simp [ckC, badE, c1, c2, c3, c4, c5], ?_⟩
        rw [l71_3]
        simp (maxSteps := 100000000) only [ivc, anf, vop, nilR, salloc, eq_self, Nat.reduceEqDiff, Nat.reduceLT, Nat.reduceLeDiff, Nat.reduceAdd, Nat.reduceBEq, reduceCtorEq, ↓reduceIte, tyb, ckV, enV, hi', hg, hg2, hq, hw2, hp, hnt, hc, c1, c2, c3, c4, c5]
      · refine .inr ⟨by simp [ckC, badE, c1, c2, c3, c4, c5], ?_⟩
        rw [l71_3]
        simp (maxSteps := 100000000) only [ivc, anf, vop, nilR, salloc, eq_self, Nat.reduceEqDiff, Nat.reduceLT, Nat.reduceLeDiff, Nat.reduceAdd, Nat.reduceBEq, reduceCtorEq, ↓reduceIte, tyb, ckV, enV, hi', hg, hg2, hq, hw, hw2, hp, hnt, hc, c1, c2, c3, c4, c5]
    rcases go with ⟨t, h1, h2, h3⟩ | ⟨h2, h3⟩
    · refine ⟨0, (m.length : Int) + 1, ?_⟩
      rw [h2, if_neg h1, h3]
    · obtain ⟨t, e, ih'⟩ := ih'
      refine ⟨t, e, ?_⟩
      rw [h2, h3]
      exact ih'
theorem ckC_ev {l : List Et} {nb : Int} (hl : l.length ≤ 1000000) : E.F 71 [.ro 2 (l.map enV), .int .i64 nb] [] = some ((.int .i64 (ckC nb none l), []), True) := by
  cases l with
  | nil =>
    have h : E.L 71 3 [.ro 2 [], .int .i64 nb, .int .i64 0, .ro 2 [], .int .i64 0, .int .i64 0] [] = some ((.exit 0, [.ro 2 [], .int .i64 nb, .int .i64 0, .ro 2 [], .int .i64 0, .int .i64 0], []), True) := by
      rw [l71_3]
      simp (maxSteps := 100000000) only [ivc, anf, nilR, eq_self, Nat.reduceEqDiff, Nat.reduceLT, Nat.reduceAdd, Nat.reduceBEq, reduceCtorEq, ↓reduceIte, tyb, Int.lt_irrefl]
    rw [e71]
    simp (maxSteps := 100000000) only [ivc, anf, vlen, vbuiltin, eq_self, Nat.reduceEqDiff, Nat.reduceLT, Nat.reduceLeDiff, Nat.reduceAdd, Nat.reduceBEq, reduceCtorEq, ↓reduceIte, tyb, h, ckC]
  | cons x r =>
    have hi' : (0 : Int) < (r.length : Int) + 1 := by omega
    have first : (∃ t, t ≠ 0 ∧ ckC nb none (x :: r) = t ∧ E.L 71 3 (ckV (x :: r) nb 0 0) [] = some ((.ret, ckV (x :: r) nb t 0, []), True)) ∨ (ckC nb none (x :: r) = ckC nb (some x.s) r ∧ E.L 71 3 (ckV (x :: r) nb 0 0) [] = E.L 71 3 (ckV (x :: r) nb 0 1) []) := by
      by_cases c1 : x.s < 0
      · refine .inl ⟨3, by omega, by simp [ckC, badE, c1], ?_⟩
        rw [l71_3]
        simp (maxSteps := 100000000) only [ivc, anf, vop, nilR, salloc, eq_self, Nat.reduceEqDiff, Nat.reduceLT, Nat.reduceLeDiff, Nat.reduceAdd, Nat.reduceBEq, Int.reduceLT, Int.reduceLE, Int.reduceToNat, reduceCtorEq, ↓reduceIte, tyb, ckV, enV, hi', c1]
      by_cases c2 : 500 ≤ x.s
      · refine .inl ⟨3, by omega, by simp [ckC, badE, c2], ?_⟩
        rw [l71_3]
        simp (maxSteps := 100000000) only [ivc, anf, vop, nilR, salloc, eq_self, Nat.reduceEqDiff, Nat.reduceLT, Nat.reduceLeDiff, Nat.reduceAdd, Nat.reduceBEq, Int.reduceLT, Int.reduceLE, Int.reduceToNat, reduceCtorEq, ↓reduceIte, tyb, ckV, enV, hi', c1, c2]
      by_cases c3 : x.m < 0
      · refine .inl ⟨3, by omega, by simp [ckC, badE, c3], ?_⟩
        rw [l71_3]
        simp (maxSteps := 100000000) only [ivc, anf, vop, nilR, salloc, eq_self, Nat.reduceEqDiff, Nat.reduceLT, Nat.reduceLeDiff, Nat.reduceAdd, Nat.reduceBEq, Int.reduceLE, Int.reduceToNat, reduceCtorEq, ↓reduceIte, tyb, ckV, enV, hi', c1, c2, c3]
      by_cases c4 : nb ≤ x.m
      · refine .inl ⟨3, by omega, by simp [ckC, badE, c4], ?_⟩
        rw [l71_3]
        simp (maxSteps := 100000000) only [ivc, anf, vop, nilR, salloc, eq_self, Nat.reduceEqDiff, Nat.reduceLT, Nat.reduceLeDiff, Nat.reduceAdd, Nat.reduceBEq, Int.reduceLE, Int.reduceToNat, reduceCtorEq, ↓reduceIte, tyb, ckV, enV, hi', c1, c2, c3, c4]
      · refine .inr ⟨by simp [ckC, badE, c1, c2, c3, c4], ?_⟩
        rw [l71_3]
        simp (maxSteps := 100000000) only [ivc, anf, vop, nilR, salloc, eq_self, Nat.reduceEqDiff, Nat.reduceLT, Nat.reduceLeDiff, Nat.reduceAdd, Nat.reduceBEq, Int.reduceLT, Int.reduceLE, Int.reduceNeg, Int.reduceToNat, Int.reduceAdd, Int.reduceSub, reduceCtorEq, ↓reduceIte, tyb, ckV, enV, hi', c1, c2, c3, c4]
    have all : ∃ t e : Int, E.L 71 3 (ckV (x :: r) nb 0 0) [] = some ((if ckC nb none (x :: r) = 0 then .exit 0 else .ret, ckV (x :: r) nb (ckC nb none (x :: r)) e, []), True) := by
      rcases first with ⟨t, h1, h2, h3⟩ | ⟨h2, h3⟩
      · exact ⟨0, 0, by rw [h2, if_neg h1, h3]⟩
      · obtain ⟨t, e, h⟩ := ck_loop (nb := nb) hl r [] x rfl
        refine ⟨t, e, ?_⟩
        rw [h2, h3]
        exact h
    obtain ⟨t, e, h⟩ := all
    simp only [ckV, List.map_cons, List.length_cons, enV, Int.natCast_add, Int.cast_ofNat_Int] at h
    rw [e71]
    by_cases hz : ckC nb none (x :: r) = 0
    · rw [hz] at h ⊢
      simp only [if_true] at h
      simp (maxSteps := 100000000) only [ivc, anf, vlen, vbuiltin, eq_self, Nat.reduceEqDiff, Nat.reduceLT, Nat.reduceLeDiff, Nat.reduceAdd, Nat.reduceBEq, reduceCtorEq, ↓reduceIte, tyb, enV, h]
    · rw [if_neg hz] at h
      simp (maxSteps := 100000000) only [ivc, anf, vlen, vbuiltin, eq_self, Nat.reduceEqDiff, Nat.reduceLT, Nat.reduceLeDiff, Nat.reduceAdd, Nat.reduceBEq, reduceCtorEq, ↓reduceIte, tyb, enV, h]
end Go.Proofs.YtikppcfabnnhfaaDoor
