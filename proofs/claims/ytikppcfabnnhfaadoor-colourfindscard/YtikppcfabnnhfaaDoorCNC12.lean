/- count. -/
import Derived.Test.YtikppcfabnnhfaaDoorCNC11
namespace Go.Proofs.YtikppcfabnnhfaaDoor
open Go Go.Aw
set_option linter.unusedSimpArgs false
set_option linter.unusedVariables false
set_option maxRecDepth 100000
set_option maxHeartbeats 40000000
def on1 (x : Int) : Int := IntKind.u64.wrap (bitsI .and .u64 (x.fdiv (2 ^ min 1 IntKind.u64.bits)) 6148914691236517205 + bitsI .and .u64 x 6148914691236517205)
def on2 (x : Int) : Int := IntKind.u64.wrap (bitsI .and .u64 (x.fdiv (2 ^ min 2 IntKind.u64.bits)) 3689348814741910323 + bitsI .and .u64 x 3689348814741910323)
def on3 (x : Int) : Int := bitsI .and .u64 (IntKind.u64.wrap (x.fdiv (2 ^ min 4 IntKind.u64.bits) + x)) 1085102592571150095
def on4 (x : Int) : Int := IntKind.u64.wrap (x + x.fdiv (2 ^ min 8 IntKind.u64.bits))
def on5 (x : Int) : Int := IntKind.u64.wrap (x + x.fdiv (2 ^ min 16 IntKind.u64.bits))
def on6 (x : Int) : Int := IntKind.u64.wrap (x + x.fdiv (2 ^ min 32 IntKind.u64.bits))
def onesW (x : Int) : Int := bitsI .and .i64 (IntKind.i64.wrap (on6 (on5 (on4 (on3 (on2 (on1 x))))))) 127
theorem ones_ev {x : Int} : E.F 78 [.int .u64 x] [] = some ((.int .i64 (onesW x), []), True) := by
  rw [e78]
  simp (maxSteps := 100000000) only [ivc, anf, vop, nilR, eq_self, Nat.reduceEqDiff, Nat.reduceLT, Nat.reduceLeDiff, Nat.reduceBEq, Int.reduceLE, Int.reduceToNat, reduceCtorEq, ↓reduceIte, tyb, onesW, on1, on2, on3, on4, on5, on6]
theorem onesW_le (x : Int) : 0 ≤ onesW x ∧ onesW x ≤ 127 := by
  unfold onesW bitsI
  generalize BitVec.ofInt IntKind.i64.bits _ = a
  have h : (a &&& BitVec.ofInt IntKind.i64.bits 127).toNat ≤ 127 := by
    rw [BitVec.toNat_and]
    exact Nat.le_trans Nat.and_le_right (by decide)
  simp only
  rw [wrap_id (by omega) (by omega)]
  omega
def cntM (g : List Int) : Nat → Int
  | 0 => 0
  | n + 1 => cntM g n + onesW (g.getD n 0)
theorem cntM_le (g : List Int) : ∀ n, 0 ≤ cntM g n ∧ cntM g n ≤ 127 * n
  | 0 => by simp [cntM]
  | n + 1 => by
    have := cntM_le g n
    have := onesW_le (g.getD n 0)
    simp only [cntM]
    omega
theorem count_loop {g : List Int} (hg : g.length = 4008) : ∀ k n : Nat, n + k = 8 →
    E.L 41 4 [.int .i64 (cntM g n), gR g, .int .i64 n] [] = some ((.exit 0, [.int .i64 (cntM g 8), gR g, .int .i64 8], []), True) := by
  intro k
  induction k with
  | zero =>
    intro n h
    have h' : n = 8 := by omega
    subst h'
    rw [l41_4]
    simp (maxSteps := 100000000) only [ivc, anf, nilR, eq_self, Nat.reduceEqDiff, Nat.reduceLT, Nat.reduceBEq, Int.reduceLT, reduceCtorEq, ↓reduceIte, tyb, gR]
  | succ k ih =>
    intro n h
    have q1 : ((n : Int) < 8) = True := eq_true (by omega)
    have q2 : ((0 ≤ (n : Int) ∧ (n : Int) < 8) ∧ n < g.length) = True := eq_true (by omega)
    have q3 := getU (l := g) (i := n) (by omega)
    have hw : IntKind.i64.wrap ((n : Int) + 1) = n + 1 := wrap_id (by omega) (by omega)
    have hw2 : IntKind.i64.wrap (cntM g n + onesW (g.getD n 0)) = cntM g n + onesW (g.getD n 0) := by
      have := cntM_le g n
      have := onesW_le (g.getD n 0)
      exact wrap_id (by omega) (by omega)
    have a := ones_ev (x := g.getD n 0)
    have ih' := ih (n + 1) (by omega)
    rw [show cntM g (n + 1) = cntM g n + onesW (g.getD n 0) from rfl] at ih'
    simp only [gR, Int.natCast_add, Int.cast_ofNat_Int] at ih'
    rw [l41_4]
    simp (maxSteps := 100000000) only [ivc, anf, vop, nilR, eq_self, Nat.reduceEqDiff, Nat.reduceLT, Nat.reduceBEq, reduceCtorEq, ↓reduceIte, tyb, gR, q1, q3, hw, hw2, a, ih']
    exact some_true (by omega)
theorem count_ev {g : List Int} (hg : g.length = 4008) : E.F 41 [gR g] [] = some ((.int .i64 (cntM g 8), []), True) := by
  have h := count_loop hg 8 0 rfl
  rw [show cntM g 0 = 0 from rfl] at h
  simp only [gR, Int.natCast_zero] at h
  rw [e41]
  simp (maxSteps := 100000000) only [ivc, anf, eq_self, Nat.reduceEqDiff, Nat.reduceLT, Nat.reduceLeDiff, Nat.reduceAdd, Nat.reduceBEq, reduceCtorEq, ↓reduceIte, gR, h]
end Go.Proofs.YtikppcfabnnhfaaDoor
