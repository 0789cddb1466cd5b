/- size, taken. -/
import Derived.Test.YtikppcfabnnhfaaDoorCNC8
namespace Go.Proofs.YtikppcfabnnhfaaDoor
open Go Go.Aw
set_option linter.unusedSimpArgs false
set_option linter.unusedVariables false
set_option maxRecDepth 100000
set_option maxHeartbeats 40000000
def szM (g : List Int) : Nat → Nat
  | 0 => 0
  | n + 1 => if hasW g 0 n then n + 1 else szM g n
theorem szM_le (g : List Int) : ∀ n, szM g n ≤ n
  | 0 => Nat.le_refl 0
  | n + 1 => by
    unfold szM
    split
    · exact Nat.le_refl _
    · exact Nat.le_succ_of_le (szM_le g n)
theorem hasr_ev {l : List Int} {c : Nat} {n : Int} (h0 : 0 ≤ n) (h1 : n < 512) (hc : c + 8 ≤ l.length) :
    E.F 42 [.rop (.agg (l.map (AV.int .u64))) c, .int .i64 n] [] = some ((.bool (hasW l c n), []), True) := by
  have e1 : n.tdiv 64 = n / 64 := Int.tdiv_eq_ediv_of_nonneg h0
  have e2 : n.tmod 64 = n % 64 := Int.tmod_eq_emod_of_nonneg h0
  have e3 : IntKind.i64.wrap (n / 64) = n / 64 := wrap_id (by omega) (by omega)
  have e4 : ((0 ≤ n / 64 ∧ n / 64 < 8) ∧ c + (n / 64).toNat < l.length) = True := eq_true (by omega)
  have e5 := getU (l := l) (i := c + (n / 64).toNat) (by omega)
  have e6 : (0 ≤ n % 64) = True := eq_true (by omega)
  rw [e42]
  simp (maxSteps := 100000000) only [ivc, anf, vop, nilR, eq_self, Nat.reduceEqDiff, Nat.reduceLT, Nat.reduceLeDiff, Nat.reduceAdd, Nat.reduceBEq, Int.reduceEq, reduceCtorEq, ne_eq, ↓reduceIte, tyb, e1, e2, e3, e4, e5, e6]
  rfl
def gR (g : List Int) : AV := .rop (.agg (g.map (AV.int .u64))) 0
theorem size_loop {g : List Int} (hg : g.length = 4008) : ∀ n : Nat, n ≤ 500 →
    E.L 47 3 [gR g, .int .i64 n] [] = some ((.exit 0, [gR g, .int .i64 (szM g n)], []), True) := by
  intro n
  induction n with
  | zero =>
    intro _
    rw [l47_3]
    simp (maxSteps := 100000000) only [ivc, anf, vop, nilR, eq_self, Nat.reduceEqDiff, Nat.reduceLT, Nat.reduceBEq, Int.reduceLE, Int.reduceNeg, Int.reduceSub, reduceCtorEq, ↓reduceIte, tyb, gR, szM, Int.lt_irrefl]
  | succ n ih =>
    intro hn
    have a := hasr_ev (l := g) (c := 0) (n := n) (by omega) (by omega) (by omega)
    have q1 : ((0 : Int) < (n : Int) + 1) = True := eq_true (by omega)
    have q2 : IntKind.i64.wrap ((n : Int) + 1 - 1) = n := by rw [Int.add_sub_cancel]; exact wrap_id (by omega) (by omega)
    have ih' := ih (by omega)
    simp only [gR] at ih'
    rw [l47_3]
    by_cases h : hasW g 0 n = true
    · rw [h] at a
      simp (maxSteps := 100000000) only [ivc, anf, vop, nilR, eq_self, Nat.reduceEqDiff, Nat.reduceLT, Nat.reduceBEq, reduceCtorEq, ↓reduceIte, tyb, gR, q1, q2, a, szM, h]
    · have h' : hasW g 0 n = false := by simpa using h
      rw [h'] at a
      simp (maxSteps := 100000000) only [ivc, anf, vop, nilR, eq_self, Nat.reduceEqDiff, Nat.reduceLT, Nat.reduceBEq, reduceCtorEq, ↓reduceIte, tyb, gR, q1, q2, a, szM, h', ih']
theorem size_ev {g : List Int} (hg : g.length = 4008) : E.F 47 [gR g] [] = some ((.int .i64 (szM g 500), []), True) := by
  have h := size_loop hg 500 (Nat.le_refl _)
  simp only [gR, Int.cast_ofNat_Int] at h
  rw [e47]
  simp (maxSteps := 100000000) only [ivc, anf, eq_self, Nat.reduceLT, Nat.reduceLeDiff, Nat.reduceAdd, Nat.reduceBEq, reduceCtorEq, ↓reduceIte, gR, h]
end Go.Proofs.YtikppcfabnnhfaaDoor
