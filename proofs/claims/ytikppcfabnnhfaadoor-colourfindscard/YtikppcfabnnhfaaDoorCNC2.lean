/- Check. -/
import Derived.Test.YtikppcfabnnhfaaDoorCNC1
namespace Go.Proofs.YtikppcfabnnhfaaDoor
open Go Go.Aw
set_option linter.unusedSimpArgs false
set_option linter.unusedVariables false
set_option maxRecDepth 100000
set_option maxHeartbeats 40000000
structure Et where
  s : Int
  m : Int
def enV (e : Et) : AV := .agg [.int .i64 e.s, .int .i64 e.m]
instance rf_en : RowF enV := ⟨fun _ => rfl, fun _ => rfl⟩
def clV (c : List Et) : AV := .ro 2 (c.map enV)
instance rf_cl : RowF clV := ⟨fun _ => rfl, fun _ => rfl⟩
structure Bd where
  ss : List Int
  ms : List Int
  cs : List Int
def bdV (b : Bd) : AV := .agg [.ro 1 (b.ss.map (AV.int .i64)), .ro 1 (b.ms.map (AV.int .i64)), .ro 1 (b.cs.map (AV.int .i64))]
instance rf_bd : RowF bdV := ⟨fun _ => rfl, fun _ => rfl⟩
structure Wd where
  classes : List (List Et)
  bodies : List Bd
  roots : List Int
def wdV (w : Wd) : AV := .agg [.ro 1 (w.classes.map clV), .ro 3 (w.bodies.map bdV), .ro 1 (w.roots.map (AV.int .i64))]
def inR (n x : Int) : Bool := !(decide (x < 0) || decide (n ≤ x))
theorem w88 {x n : Int} : E.F 88 [.int .i64 x, .rop (.int .i64 n) 0] [] = some ((.bool (decide (x < 0) || decide (n ≤ x)), []), True) := by
  rw [e88]
  by_cases h : x < 0
  · simp (maxSteps := 100000000) only [ivc, anf, nilR, eq_self, Nat.reduceEqDiff, Nat.reduceLT, Nat.reduceLeDiff, Nat.reduceAdd, Nat.reduceBEq, reduceCtorEq, ↓reduceIte, tyb, h]
  · simp (maxSteps := 100000000) only [ivc, anf, nilR, eq_self, Nat.reduceEqDiff, Nat.reduceLT, Nat.reduceLeDiff, Nat.reduceAdd, Nat.reduceBEq, reduceCtorEq, ↓reduceIte, tyb, h]
theorem idx93_loop {l : List Int} {n : Int} (hl : l.length ≤ 1000000) : ∀ (r m : List Int), l = m ++ r →
    ∃ v e : Int, E.L 93 3 [.ro 1 (l.map (AV.int .i64)), .fn (Fn.func 88) [] [.rop (.int .i64 n) 0], .int .i64 0, .int .i64 l.length, .int .i64 m.length] [] = some ((if r.all (inR n) then .exit 0 else .ret, [.ro 1 (l.map (AV.int .i64)), .fn (Fn.func 88) [] [.rop (.int .i64 n) 0], .int .i64 v, .int .i64 l.length, .int .i64 e], []), True) ∧ 0 ≤ v := by
  intro r
  induction r with
  | nil =>
    intro m h
    rw [List.append_nil] at h
    subst h
    refine ⟨0, l.length, ?_, by omega⟩
    rw [l93_3]
    simp (maxSteps := 100000000) only [ivc, anf, nilR, eq_self, Nat.reduceEqDiff, Nat.reduceLT, Nat.reduceBEq, reduceCtorEq, ↓reduceIte, tyb, Int.lt_irrefl]
  | cons x r ih =>
    intro m h
    have hn : m.length + (r.length + 1) = l.length := by rw [h]; simp
    have hi' : (m.length : Int) < l.length := by omega
    have hg := getD_map (f := AV.int .i64) (show l[m.length]? = some x by rw [h]; simp)
    have hw : IntKind.i64.wrap ((m.length : Int) + 1) = m.length + 1 := wrap_id (by omega) (by omega)
    have hc : (0 ≤ (m.length : Int)) = True := eq_true (by omega)
    by_cases hx : (decide (x < 0) || decide (n ≤ x)) = true
    · refine ⟨m.length, m.length, ?_, by omega⟩
      have hb := w88 (x := x) (n := n)
      rw [hx] at hb
      rw [l93_3]
      simp (maxSteps := 100000000) only [ivc, anf, nilR, eq_self, Nat.reduceEqDiff, Nat.reduceLT, Nat.reduceAdd, Nat.reduceMul, Nat.reduceBEq, reduceCtorEq, ↓reduceIte, tyb, hi', hg, hc, hb, inR, hx]
    · obtain ⟨v, e, ih', hv⟩ := ih (m ++ [x]) (by simp [h])
      refine ⟨v, e, ?_, hv⟩
      simp only [List.length_append, List.length_cons, List.length_nil, Nat.zero_add, Int.natCast_add, Int.cast_ofNat_Int] at ih'
      have hx' : (decide (x < 0) || decide (n ≤ x)) = false := by simpa using hx
      have hb := w88 (x := x) (n := n)
      rw [hx'] at hb
      rw [l93_3]
      simp (maxSteps := 100000000) only [ivc, anf, nilR, eq_self, Nat.reduceEqDiff, Nat.reduceLT, Nat.reduceAdd, Nat.reduceMul, Nat.reduceBEq, reduceCtorEq, ↓reduceIte, tyb, hi', hg, hw, hc, hb, ih', inR, hx']
theorem within_ev {l : List Int} {n : Int} (hl : l.length ≤ 1000000) : E.F 72 [.ro 1 (l.map (AV.int .i64)), .int .i64 n] [] = some ((.bool (l.all (inR n)), []), True) := by
  obtain ⟨v, e, h, hv⟩ := idx93_loop (n := n) hl l [] rfl
  simp only [List.length_nil, Int.natCast_zero] at h
  have hv' : (decide (0 ≤ v)) = true := by simpa using hv
  rw [e72]
  by_cases ha : l.all (inR n) = true
  · rw [ha] at h ⊢
    simp only [if_true] at h
    simp (maxSteps := 100000000) only [ivc, anf, vop, vlen, vbuiltin, nilR, salloc, eq_self, Nat.reduceEqDiff, Nat.reduceLT, Nat.reduceLeDiff, Nat.reduceAdd, Nat.reduceBEq, Int.reduceLE, Int.reduceNeg, reduceCtorEq, ↓reduceIte, tyb, e87, e93, h]
  · have ha' : l.all (inR n) = false := by simpa using ha
    rw [ha'] at h ⊢
    simp only [Bool.false_eq_true, if_false] at h
    simp (maxSteps := 100000000) only [ivc, anf, vop, vlen, vbuiltin, nilR, salloc, eq_self, Nat.reduceEqDiff, Nat.reduceLT, Nat.reduceLeDiff, Nat.reduceAdd, Nat.reduceBEq, Int.reduceNeg, reduceCtorEq, ↓reduceIte, tyb, e87, e93, h, hv']
end Go.Proofs.YtikppcfabnnhfaaDoor
