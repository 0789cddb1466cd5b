/- Repeat. -/
import Derived.Test.YtikppcfabnnhfaaDoorCNC14
namespace Go.Proofs.YtikppcfabnnhfaaDoor
open Go Go.Aw
set_option linter.unusedSimpArgs false
set_option linter.unusedVariables false
set_option maxRecDepth 100000
set_option maxHeartbeats 40000000
def rpL {α : Type} (x z : α) (d k : Nat) : List α := List.replicate d x ++ List.replicate k z
theorem rpL_len {α : Type} {x z : α} {d k : Nat} : (rpL x z d k).length = d + k := by simp [rpL]
theorem rp_take {α : Type} {f : α → AV} {x z : α} {d k : Nat} : List.take d ((rpL x z d k).map f) = (List.replicate d x).map f := by
  rw [← List.map_take, rpL, List.take_append_of_le_length (by simp), List.take_of_length_le (by simp)]
theorem rp_take2 {α : Type} {f : α → AV} {x : α} {d k : Nat} : List.take k ((List.replicate d x).map f) = (List.replicate (min d k) x).map f := by
  rw [← List.map_take, List.take_replicate, Nat.min_comm]
theorem rp_drop {α : Type} {f : α → AV} {x z : α} {d k : Nat} : List.drop (d + min d k) ((rpL x z d k).map f) = (List.replicate (k - min d k) z).map f := by
  rw [← List.map_drop, rpL, List.drop_append, List.drop_of_length_le (by simp), List.nil_append, List.length_replicate, show d + min d k - d = min d k by omega, List.drop_replicate]
theorem rp_join {α : Type} {f : α → AV} {x z : α} {a b c : Nat} : (List.replicate a x).map f ++ ((List.replicate b x).map f ++ (List.replicate c z).map f) = (rpL x z (a + b) c).map f := by
  rw [← List.append_assoc, ← List.map_append, ← List.map_append, rpL, List.replicate_append_replicate]
theorem rp_first {α : Type} {f : α → AV} {x z : α} {n : Nat} : List.take n [f x] ++ List.drop (min 1 n) (List.replicate n (f z)) = (rpL x z (min 1 n) (n - min 1 n)).map f := by
  cases n with
  | zero => rfl
  | succ n =>
    have e1 : min 1 (n + 1) = 1 := by omega
    have e2 : n + 1 - 1 = n := by omega
    simp [rpL, e1, e2]
theorem rp_done {α : Type} {x z : α} {n : Nat} : rpL x z n 0 = List.replicate n x := by simp [rpL]
theorem cp_en {l l' : List Et} : (∀ e ∈ l.map enV, ∀ y ∈ l'.map enV, putl e 0 y.cells = y) = True := by
  refine eq_true fun e he y hy => ?_
  obtain ⟨a, _, rfl⟩ := List.mem_map.1 he
  obtain ⟨b, _, rfl⟩ := List.mem_map.1 hy
  rfl
def rp1H (x : Int) (d k : Nat) : HL := [(60000, ⟨false, 1, (rpL x 0 d k).map (AV.int .i64)⟩), (100000, ⟨false, 1, [.int .i64 x]⟩)]
theorem rep1_loop {x : Int} {n : Nat} (hn : n ≤ 1000000) : ∀ (s k d : Nat), k ≤ s → d + k = n → (k = 0 ∨ 1 ≤ d) →
    E.L 43 9 [.sl 60000 0 n, .int .i64 d] (rp1H x d k) = some ((.exit 0, [.sl 60000 0 n, .int .i64 n], rp1H x n 0), True) := by
  intro s
  induction s with
  | zero =>
    intro k d hk h hd
    have hk0 : k = 0 := by omega
    subst hk0
    have hd0 : d = n := by omega
    subst hd0
    have q : ((d : Int) < d) = False := eq_false (by omega)
    rw [l43_9]
    simp (maxSteps := 100000000) only [ivc, anf, vlen, vbuiltin, nilR, eq_self, Nat.reduceEqDiff, Nat.reduceLT, Nat.reduceLeDiff, Nat.reduceAdd, Nat.reduceBEq, reduceCtorEq, ↓reduceIte, tyb, rp1H, q]
  | succ s ih =>
    intro k d hk h hd
    by_cases hk0 : k = 0
    · exact ih k d (by omega) h hd
    have hlen := rpL_len (x := x) (z := 0) (d := d) (k := k)
    have q : ((d : Int) < n) = True := eq_true (by omega)
    have q2 : (0 ≤ (d : Int)) = True := eq_true (by omega)
    have q3 : ((d : Int) ≤ n) = True := eq_true (by omega)
    have nd : n - d = k := by omega
    have hw : IntKind.i64.wrap ((d : Int) + (min d k : Nat)) = d + (min d k : Nat) := wrap_id (by omega) (by omega)
    have ih' := ih (k - min d k) (d + min d k) (by omega) (by omega) (by omega)
    simp only [rp1H, Int.natCast_add] at ih'
    have hd' : 1 ≤ d := by omega
    rw [l43_9]
    simp (maxSteps := 100000000) only [ivc, anf, vop, vslice, vlen, vbuiltin, nilR, eq_self, Nat.reduceEqDiff, Nat.reduceLT, Nat.reduceLeDiff, Nat.reduceAdd, Nat.reduceBEq, Int.reduceLE, Int.reduceToNat, reduceCtorEq, implies_true, ↓reduceIte, tyb, rp1H, q, q2, q3, nd, hw, cp_ok, rp_take, rp_take2, rp_drop, rp_join, List.length_replicate, ih']
    exact some_true (by omega)
theorem rep1_ev {x : Int} {n : Nat} (hn : n ≤ 1000000) : E.F 43 [.sl 100000 0 1, .int .i64 n] [(100000, ⟨false, 1, [.int .i64 x]⟩)] = some ((.sl 200000 0 n, [(200000, ⟨false, 1, (List.replicate n x).map (AV.int .i64)⟩), (100000, ⟨false, 1, [.int .i64 x]⟩)]), True) := by
  have a := mul79_ev (y := n) (by omega) (by omega)
  have q : ((n : Int) < 0) = False := eq_false (by omega)
  have q2 : ((9223372036854775807 : Int) < n) = False := eq_false (by omega)
  have w1 := u64id (y := n) (by omega) (by omega)
  have w2 : IntKind.i64.wrap n = n := wrap_id (by omega) (by omega)
  have h := rep1_loop (x := x) hn n (n - min 1 n) (min 1 n) (by omega) (by omega) (by omega)
  simp only [rp1H, rp_done] at h
  have f1 := rp_first (f := AV.int .i64) (x := x) (z := 0) (n := n)
  have w3 := u64id (y := 1) (by omega) (by omega)
  rw [e43]
  simp (maxSteps := 100000000) only [ivc, anf, vop, vlen, vbuiltin, nilR, salloc, eq_self, Nat.reduceEqDiff, Nat.reduceLT, Nat.reduceLeDiff, Nat.reduceAdd, Nat.reduceMul, Nat.reduceBEq, Int.reduceLT, reduceCtorEq, ↓reduceIte, tyb, q, q2, a, w1, w2, w3, f1, h]
  refine some_true ?_
  exact ⟨by omega, fun e he => by have := List.eq_of_mem_replicate he; subst this; rfl⟩
def rp2H (x : Et) (d k : Nat) : HL := [(60000, ⟨false, 2, (rpL x ⟨0, 0⟩ d k).map enV⟩), (100000, ⟨false, 2, [.agg [.int .i64 x.s, .int .i64 x.m]]⟩)]
theorem rep2_loop {x : Et} {n : Nat} (hn : n ≤ 1000000) : ∀ (s k d : Nat), k ≤ s → d + k = n → (k = 0 ∨ 1 ≤ d) →
    E.L 59 9 [.sl 60000 0 n, .int .i64 d] (rp2H x d k) = some ((.exit 0, [.sl 60000 0 n, .int .i64 n], rp2H x n 0), True) := by
  intro s
  induction s with
  | zero =>
    intro k d hk h hd
    have hk0 : k = 0 := by omega
    subst hk0
    have hd0 : d = n := by omega
    subst hd0
    have q : ((d : Int) < d) = False := eq_false (by omega)
    rw [l59_9]
    simp (maxSteps := 100000000) only [ivc, anf, vlen, vbuiltin, nilR, eq_self, Nat.reduceEqDiff, Nat.reduceLT, Nat.reduceLeDiff, Nat.reduceAdd, Nat.reduceBEq, reduceCtorEq, ↓reduceIte, tyb, rp2H, q]
  | succ s ih =>
    intro k d hk h hd
    by_cases hk0 : k = 0
    · exact ih k d (by omega) h hd
    have hlen := rpL_len (x := x) (z := (⟨0, 0⟩ : Et)) (d := d) (k := k)
    have q : ((d : Int) < n) = True := eq_true (by omega)
    have q2 : (0 ≤ (d : Int)) = True := eq_true (by omega)
    have q3 : ((d : Int) ≤ n) = True := eq_true (by omega)
    have nd : n - d = k := by omega
    have hw : IntKind.i64.wrap ((d : Int) + (min d k : Nat)) = d + (min d k : Nat) := wrap_id (by omega) (by omega)
    have ih' := ih (k - min d k) (d + min d k) (by omega) (by omega) (by omega)
    simp only [rp2H, Int.natCast_add] at ih'
    have hd' : 1 ≤ d := by omega
    rw [l59_9]
    simp (maxSteps := 100000000) only [ivc, anf, vop, vslice, vlen, vbuiltin, nilR, eq_self, Nat.reduceEqDiff, Nat.reduceLT, Nat.reduceLeDiff, Nat.reduceAdd, Nat.reduceBEq, Int.reduceLE, Int.reduceToNat, reduceCtorEq, implies_true, ↓reduceIte, tyb, rp2H, q, q2, q3, nd, hw, cp_en, rp_take, rp_take2, rp_drop, rp_join, List.length_replicate, ih']
    exact some_true (by omega)
theorem rep2_ev {x : Et} {n : Nat} (hn : n ≤ 1000000) : E.F 59 [.sl 100000 0 1, .int .i64 n] [(100000, ⟨false, 2, [.agg [.int .i64 x.s, .int .i64 x.m]]⟩)] = some ((.sl 200000 0 n, [(200000, ⟨false, 2, (List.replicate n x).map enV⟩), (100000, ⟨false, 2, [.agg [.int .i64 x.s, .int .i64 x.m]]⟩)]), True) := by
  have a := mul79_ev (y := n) (by omega) (by omega)
  have q : ((n : Int) < 0) = False := eq_false (by omega)
  have q2 : ((9223372036854775807 : Int) < n) = False := eq_false (by omega)
  have w1 := u64id (y := n) (by omega) (by omega)
  have w2 : IntKind.i64.wrap n = n := wrap_id (by omega) (by omega)
  have h := rep2_loop (x := x) hn n (n - min 1 n) (min 1 n) (by omega) (by omega) (by omega)
  simp only [rp2H, rp_done] at h
  have f1 : List.take n [AV.agg [.int .i64 x.s, .int .i64 x.m]] ++ List.drop (min 1 n) (List.replicate n (AV.agg [.int .i64 0, .int .i64 0])) = _ := rp_first (f := enV) (x := x) (z := (⟨0, 0⟩ : Et)) (n := n)
  have w3 := u64id (y := 1) (by omega) (by omega)
  rw [e59]
  simp (maxSteps := 100000000) only [ivc, anf, vop, vlen, vbuiltin, nilR, salloc, eq_self, Nat.reduceEqDiff, Nat.reduceLT, Nat.reduceLeDiff, Nat.reduceAdd, Nat.reduceMul, Nat.reduceBEq, Int.reduceLT, reduceCtorEq, ↓reduceIte, tyb, q, q2, a, w1, w2, w3, f1, h]
  refine some_true ?_
  exact ⟨by omega, fun e he => by have := List.eq_of_mem_replicate he; subst this; rfl⟩
end Go.Proofs.YtikppcfabnnhfaaDoor
