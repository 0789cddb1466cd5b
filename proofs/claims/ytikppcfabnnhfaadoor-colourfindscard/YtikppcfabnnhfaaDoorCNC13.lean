/- numbers. -/
import Derived.Test.YtikppcfabnnhfaaDoorCNC12
namespace Go.Proofs.YtikppcfabnnhfaaDoor
open Go Go.Aw
set_option linter.unusedSimpArgs false
set_option linter.unusedVariables false
set_option maxRecDepth 100000
set_option maxHeartbeats 40000000
theorem u64id {y : Int} (h0 : 0 ≤ y) (h1 : y < 18446744073709551616) : IntKind.u64.wrap y = y := by
  show y % 18446744073709551616 = y
  exact Int.emod_eq_of_lt h0 h1
theorem and32 {y : Int} (h0 : 0 ≤ y) (h1 : y < 4294967296) : bitsI .and .u64 y 4294967295 = y := by
  unfold bitsI
  simp only
  rw [BitVec.toNat_and]
  have e1 : (BitVec.ofInt IntKind.u64.bits y).toNat = y.toNat := by
    rw [BitVec.toNat_ofInt]
    show (y % ((2 ^ 64 : Nat) : Int)).toNat = y.toNat
    rw [Int.emod_eq_of_lt h0 (by omega)]
  have e2 : (BitVec.ofInt IntKind.u64.bits 4294967295).toNat = 2 ^ 32 - 1 := by decide
  rw [e1, e2, Nat.and_two_pow_sub_one_eq_mod, Nat.mod_eq_of_lt (by omega)]
  rw [u64id (by omega) (by omega)]
  omega
theorem fdiv32 {y : Int} (h0 : 0 ≤ y) (h1 : y < 4294967296) : y.fdiv (2 ^ min 32 IntKind.u64.bits) = 0 := by
  show y.fdiv 4294967296 = 0
  rw [Int.fdiv_eq_ediv_of_nonneg _ (by omega)]
  omega
theorem mul92_ev {y : Int} (h0 : 0 ≤ y) (h1 : y < 4294967296) : E.F 92 [.int .u64 1, .int .u64 y] [] = some ((.tup [.int .u64 0, .int .u64 y], []), True) := by
  have a1 := and32 h0 h1
  have a2 := and32 (y := 1) (by omega) (by omega)
  have a3 := and32 (y := 0) (by omega) (by omega)
  have b1 := fdiv32 h0 h1
  have b2 := fdiv32 (y := 1) (by omega) (by omega)
  have b3 := fdiv32 (y := 0) (by omega) (by omega)
  have c1 := u64id h0 (by omega)
  have c2 := u64id (y := 0) (by omega) (by omega)
  rw [e92]
  simp (maxSteps := 100000000) only [ivc, anf, nilR, eq_self, Nat.reduceEqDiff, Nat.reduceLT, Nat.reduceLeDiff, Nat.reduceAdd, Nat.reduceBEq, Int.reduceLE, Int.reduceToNat, reduceCtorEq, ↓reduceIte, tyb, a1, a2, a3, b1, b2, b3, c1, c2, Int.one_mul, Int.zero_mul, Int.mul_zero, Int.add_zero]
theorem mul79_ev {y : Int} (h0 : 0 ≤ y) (h1 : y < 4294967296) : E.F 79 [.int .u64 1, .int .u64 y] [] = some ((.tup [.int .u64 0, .int .u64 y], []), True) := by
  have a := mul92_ev h0 h1
  rw [e79]
  simp (maxSteps := 100000000) only [ivc, anf, vop, eq_self, Nat.reduceEqDiff, Nat.reduceLT, Nat.reduceLeDiff, Nat.reduceAdd, Nat.reduceMul, Nat.reduceBEq, reduceCtorEq, ↓reduceIte, a]
theorem g0 : G 0 = .rop (.agg (tab.map (AV.int .u8))) 0 := rfl
def tzI (x : Int) : Int := (IntKind.u64.wrap (bitsI .and .u64 x (IntKind.u64.wrap (0 - x)) * 285870213051353865)).fdiv (2 ^ min 58 IntKind.u64.bits)
theorem u64rng (y : Int) : 0 ≤ IntKind.u64.wrap y ∧ IntKind.u64.wrap y < 18446744073709551616 := by
  have e : IntKind.u64.wrap y = y % 18446744073709551616 := rfl
  rw [e]
  omega
theorem tzI_rng (x : Int) : 0 ≤ tzI x ∧ tzI x < 64 := by
  unfold tzI
  have h := u64rng (bitsI .and .u64 x (IntKind.u64.wrap (0 - x)) * 285870213051353865)
  generalize IntKind.u64.wrap _ = z at h ⊢
  show 0 ≤ z.fdiv 288230376151711744 ∧ z.fdiv 288230376151711744 < 64
  rw [Int.fdiv_eq_ediv_of_nonneg _ (by omega)]
  omega
def tzW (x : Int) : Int := if x = 0 then 64 else tab.getD (tzI x).toNat 0
theorem tab_get {i : Nat} (h : i < 64) : (tab.map (AV.int .u8)).getD i .junk = .int .u8 (tab.getD i 0) := by
  have : i < tab.length := h
  simp [List.getD_eq_getElem?_getD, List.getElem?_eq_getElem this]
theorem tab_rng : ∀ i < 64, 0 ≤ tab.getD i 0 ∧ tab.getD i 0 < 64 := by decide
theorem tz_ev {x : Int} : E.F 82 [.int .u64 x] [] = some ((.int .i64 (tzW x), []), True) := by
  rw [e82]
  by_cases h : x = 0
  · simp (maxSteps := 100000000) only [ivc, anf, nilR, eq_self, Nat.reduceLT, Nat.reduceLeDiff, Nat.reduceBEq, reduceCtorEq, ↓reduceIte, tyb, h, tzW]
  have hb : (x == 0) = false := by simpa using h
  have r := tzI_rng x
  have q1 : (0 ≤ tzI x) = True := eq_true r.1
  have q2 : (tzI x < 64) = True := eq_true r.2
  have q3 := tab_get (i := (tzI x).toNat) (by omega)
  have q4 := tab_rng (tzI x).toNat (by omega)
  have q5 : IntKind.i64.wrap (tab.getD (tzI x).toNat 0) = tab.getD (tzI x).toNat 0 := wrap_id (by omega) (by omega)
  have q6 : (tab.map (AV.int .u8)).length = 64 := rfl
  have q7 : ((tzI x).toNat < 64) = True := eq_true (by omega)
  unfold tzW
  rw [if_neg h]
  have u := show tzI x = _ from rfl
  simp only [tzI] at q1 q2 q3 q5 q7
  simp (maxSteps := 100000000) only [ivc, anf, vop, nilR, eq_self, Nat.reduceEqDiff, Nat.reduceLT, Nat.reduceLeDiff, Nat.reduceBEq, Int.reduceLE, Int.reduceToNat, reduceCtorEq, ↓reduceIte, tyb, g0, hb, tzI, q1, q2, q3, q5, q6, q7]
end Go.Proofs.YtikppcfabnnhfaaDoor
