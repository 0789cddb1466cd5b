/- Pack. -/
import Derived.Test.YtikppcfabnnhfaaDoorCNC20
import Derived.Test.YtikppcfabnnhfaaDoorCAnP
namespace Go.Proofs.YtikppcfabnnhfaaDoor
open Go Go.Aw
set_option linter.unusedSimpArgs false
set_option linter.unusedVariables false
set_option maxRecDepth 100000
set_option maxHeartbeats 40000000
theorem rep2P_loop {x : Et} {n : Nat} (hn : n ≤ 1000000) : ∀ (s k d : Nat), k ≤ s → d + k = n → (k = 0 ∨ 1 ≤ d) →
    EP.L 59 9 [.sl 60000 0 n, .int .i64 d] (rp2H x d k) = some ((.exit 0, [.sl 60000 0 n, .int .i64 n], rp2H x n 0), True) := by
  intro s
  induction s with
  | zero =>
    intro k d hk h hd
    have hk0 : k = 0 := by omega
    subst hk0
    have hd0 : d = n := by omega
    subst hd0
    have q : ((d : Int) < d) = False := eq_false (by omega)
    rw [l59_9P]
    simp (maxSteps := 100000000) only [ivc, vlen, vbuiltin, nilR, eq_self, Nat.reduceEqDiff, Nat.reduceLT, Nat.reduceLeDiff, Nat.reduceAdd, Nat.reduceBEq, reduceCtorEq, ↓reduceIte, anfP, tyb, rp2H, q]
  | succ s ih =>
    intro k d hk h hd
    by_cases hk0 : k = 0
    · exact ih k d (by omega) h hd
    have hlen := rpL_len (x := x) (z := (⟨0, 0⟩ : Et)) (d := d) (k := k)
    have q : ((d : Int) < n) = True := eq_true (by omega)
    have q2 : (0 ≤ (d : Int)) = True := eq_true (by omega)
    have q3 : ((d : Int) ≤ n) = True := eq_true (by omega)
    have nd : n - d = k := by omega
    have hw : IntKind.i64.wrap ((d : Int) + (min d k : Nat)) = d + (min d k : Nat) := wrap_id (by omega) (by omega)
    have ih' := ih (k - min d k) (d + min d k) (by omega) (by omega) (by omega)
    simp only [rp2H, Int.natCast_add] at ih'
    have hd' : 1 ≤ d := by omega
    rw [l59_9P]
    simp (maxSteps := 100000000) only [ivc, vop, vslice, vlen, vbuiltin, nilR, eq_self, Nat.reduceEqDiff, Nat.reduceLT, Nat.reduceLeDiff, Nat.reduceAdd, Nat.reduceBEq, Int.reduceLE, Int.reduceToNat, reduceCtorEq, implies_true, ↓reduceIte, anfP, tyb, rp2H, q, q2, q3, nd, hw, cp_en, rp_take, rp_take2, rp_drop, rp_join, List.length_replicate, ih']
    exact some_true (by omega)
theorem rep2P_ev {x : Et} {n : Nat} (hn : n ≤ 1000000) : EP.F 59 [.sl 100000 0 1, .int .i64 n] [(100000, ⟨false, 2, [.agg [.int .i64 x.s, .int .i64 x.m]]⟩)] = some ((.ro 2 ((List.replicate n x).map enV), [(100000, ⟨false, 2, [.agg [.int .i64 x.s, .int .i64 x.m]]⟩)]), True) := by
  have a := mul79_ev (y := n) (by omega) (by omega)
  have q : ((n : Int) < 0) = False := eq_false (by omega)
  have q2 : ((9223372036854775807 : Int) < n) = False := eq_false (by omega)
  have w1 := u64id (y := n) (by omega) (by omega)
  have w2 : IntKind.i64.wrap n = n := wrap_id (by omega) (by omega)
  have h := rep2P_loop (x := x) hn n (n - min 1 n) (min 1 n) (by omega) (by omega) (by omega)
  simp only [rp2H, rp_done] at h
  have f1 : List.take n [AV.agg [.int .i64 x.s, .int .i64 x.m]] ++ List.drop (min 1 n) (List.replicate n (AV.agg [.int .i64 0, .int .i64 0])) = _ := rp_first (f := enV) (x := x) (z := (⟨0, 0⟩ : Et)) (n := n)
  have w3 := u64id (y := 1) (by omega) (by omega)
  have tk : List.take n (List.map enV (List.replicate n x)) = List.map enV (List.replicate n x) := List.take_of_length_le (by simp)
  rw [e59P]
  simp (maxSteps := 100000000) only [ivc, vop, vlen, vbuiltin, nilR, salloc, eq_self, Nat.reduceEqDiff, Nat.reduceLT, Nat.reduceLeDiff, Nat.reduceAdd, Nat.reduceMul, Nat.reduceBEq, Int.reduceLT, reduceCtorEq, ↓reduceIte, anfP, gv79P, tyb, q, q2, a, w1, w2, w3, f1, h, tk]
  refine some_true ?_
  exact ⟨by omega, fun e he => by rw [List.eq_of_mem_replicate he]; rfl⟩
end Go.Proofs.YtikppcfabnnhfaaDoor
