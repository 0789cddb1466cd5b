/- Sets of numbers. -/
import Derived.Test.YtikppcfabnnhfaaDoorCAn
import Derived.Test.YtikppcfabnnhfaaDoorCAw5
namespace Go.Proofs.YtikppcfabnnhfaaDoor
open Go Go.Aw
set_option linter.unusedSimpArgs false
set_option linter.unusedVariables false
set_option maxRecDepth 100000
set_option maxHeartbeats 40000000
def bitW (x j : Int) : Bool := bitsI .and .u64 (x.fdiv (2 ^ min j.toNat IntKind.u64.bits)) 1 == 1
def orW (x j : Int) : Int := bitsI .or .u64 x (IntKind.u64.wrap (1 * 2 ^ min j.toNat IntKind.u64.bits))
/-- Words of 64 bits that lie in an object, from a place on: is a bit set? -/
def hasW (l : List Int) (c : Nat) (n : Int) : Bool := bitW (l.getD (c + (n / 64).toNat) 0) (n % 64)
def addW (l : List Int) (c : Nat) (n : Int) : List Int := l.set (c + (n / 64).toNat) (orW (l.getD (c + (n / 64).toNat) 0) (n % 64))
theorem getU {l : List Int} {i : Nat} (h : i < l.length) : (l.map (AV.int .u64)).getD i .junk = .int .u64 (l.getD i 0) := by
  simp [List.getD_eq_getElem?_getD, List.getElem?_eq_getElem h]
theorem add_ev {l : List Int} {c : Nat} {n : Int} (h0 : 0 ≤ n) (h1 : n < 512) (hc : c + 8 ≤ l.length) :
    E.F 77 [.ptr 100000 0 c, .int .i64 n] [(100000, ⟨true, l.length, [.agg (l.map (AV.int .u64))]⟩)] = some ((.tup [], [(100000, ⟨true, l.length, [.agg ((addW l c n).map (AV.int .u64))]⟩)]), True) := by
  have e1 : n.tdiv 64 = n / 64 := Int.tdiv_eq_ediv_of_nonneg h0
  have e2 : n.tmod 64 = n % 64 := Int.tmod_eq_emod_of_nonneg h0
  have e3 : IntKind.i64.wrap (n / 64) = n / 64 := wrap_id (by omega) (by omega)
  have e4 : ((0 ≤ n / 64 ∧ n / 64 < 8) ∧ c + (n / 64).toNat < l.length) = True := eq_true (by omega)
  have e5 := getU (l := l) (i := c + (n / 64).toNat) (by omega)
  have e6 : (0 ≤ n % 64) = True := eq_true (by omega)
  rw [e77]
  unfold addW
  simp (maxSteps := 100000000) only [ivc, anf, vop, nilR, eq_self, Nat.reduceEqDiff, Nat.reduceLT, Nat.reduceLeDiff, Nat.reduceAdd, Nat.reduceBEq, Int.reduceEq, reduceCtorEq, ne_eq, ↓reduceIte, tyb, ldb, e1, e2, e3, e5, e6, agg_set]
  exact some_true (by omega)
end Go.Proofs.YtikppcfabnnhfaaDoor
