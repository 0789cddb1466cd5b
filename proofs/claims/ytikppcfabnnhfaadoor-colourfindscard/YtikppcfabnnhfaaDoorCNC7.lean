/- The graph. -/
import Derived.Test.YtikppcfabnnhfaaDoorCNC6
namespace Go.Proofs.YtikppcfabnnhfaaDoor
open Go Go.Aw
set_option linter.unusedSimpArgs false
set_option linter.unusedVariables false
set_option maxRecDepth 100000
set_option maxHeartbeats 40000000
theorem addW_len {l : List Int} {c : Nat} {n : Int} : (addW l c n).length = l.length := by simp [addW]
def pairM (g : List Int) (x y : Et) : List Int := addW (addW g (8 + x.s.toNat * 8) y.s) (8 + y.s.toNat * 8) x.s
theorem pairM_len {g : List Int} {x y : Et} : (pairM g x y).length = g.length := by simp [pairM, addW_len]
def gO (g : List Int) : Ob := ⟨true, 4008, [.agg (g.map (AV.int .u64))]⟩
def okE (e : Et) : Prop := 0 ≤ e.s ∧ e.s < 500
theorem pairs_loop {C : List AV} {c : List Et} {n i : Int} {k : Nat} {x : Et} (hx : okE x) (hk : k ≤ c.length) (hcl : c.length ≤ 1000) (hc : ∀ e ∈ c, okE e) : ∀ (r m : List Et) (g : List Int), c.take k = m ++ r → g.length = 4008 →
    E.L 40 11 [.ptr 60000 0 0, .ro 2 (c.map enV), .ptr 60001 0 0, .ro 1 C, .int .i64 n, .int .i64 i, .ro 2 (c.map enV), .int .i64 c.length, .int .i64 k, .ro 2 ((c.take k).map enV), .int .i64 k, .int .i64 m.length] [(60000, gO g), (60001, ⟨true, 2, [enV x]⟩)]
    = some ((.exit 4, [.ptr 60000 0 0, .ro 2 (c.map enV), .ptr 60001 0 0, .ro 1 C, .int .i64 n, .int .i64 i, .ro 2 (c.map enV), .int .i64 c.length, .int .i64 k, .ro 2 ((c.take k).map enV), .int .i64 k, .int .i64 k], [(60000, gO (r.foldl (pairM · x ·) g)), (60001, ⟨true, 2, [enV x]⟩)]), True) := by
  intro r
  induction r with
  | nil =>
    intro m g h hg
    rw [List.append_nil] at h
    have hm : m.length = k := by rw [← h, List.length_take]; omega
    have q3 : ((k : Int) < (k : Int)) = False := eq_false (by omega)
    rw [hm, l40_11]
    simp (maxSteps := 100000000) only [ivc, anf, nilR, eq_self, Nat.reduceEqDiff, Nat.reduceLT, Nat.reduceLeDiff, Nat.reduceAdd, Nat.reduceBEq, reduceCtorEq, ↓reduceIte, tyb, gO, enV, ldb, Int.lt_irrefl, List.foldl_nil]
  | cons y r ih =>
    intro m g h hg
    have hlen : (c.take k).length = k := by rw [List.length_take]; omega
    have hn : m.length + (r.length + 1) = k := by rw [← hlen, h]; simp
    have hi' : (m.length : Int) < k := by omega
    have hy : (c.take k)[m.length]? = some y := by rw [h]; simp
    have hyc : okE y := hc y (List.mem_of_mem_take (List.mem_of_getElem? hy))
    have hgd := getD_map (f := enV) hy
    have hw : IntKind.i64.wrap ((m.length : Int) + 1) = m.length + 1 := wrap_id (by omega) (by omega)
    have hq : (0 ≤ (m.length : Int)) = True := eq_true (by omega)
    have ih' := ih (m ++ [y]) (pairM g x y) (by simp [h]) (by rw [pairM_len, hg])
    simp only [List.length_append, List.length_cons, List.length_nil, Nat.zero_add, Int.natCast_add, Int.cast_ofNat_Int, gO, enV, pairM] at ih'
    have a1 := add_ev (l := g) (c := 8 + x.s.toNat * 8) (n := y.s) hyc.1 (by have := hyc.2; omega) (by have := hx.1; have := hx.2; omega)
    have a2 := add_ev (l := addW g (8 + x.s.toNat * 8) y.s) (c := 8 + y.s.toNat * 8) (n := x.s) hx.1 (by have := hx.2; omega) (by rw [addW_len]; have := hyc.1; have := hyc.2; omega)
    rw [addW_len] at a2
    rw [hg] at a1 a2
    have q1 : (0 ≤ x.s ∧ x.s < 500) = True := eq_true hx
    have q3 : ((m.length:Int) < ((c.take k).length : Nat)) = True := eq_true (by rw [hlen]; omega)
    have q2 : (0 ≤ y.s ∧ y.s < 500) = True := eq_true hyc
    rw [l40_11]
    simp (maxSteps := 100000000) only [ivc, anf, vop, nilR, salloc, eq_self, Nat.reduceEqDiff, Nat.reduceLT, Nat.reduceLeDiff, Nat.reduceAdd, Nat.reduceMul, Nat.reduceSub, Nat.reduceBEq, reduceCtorEq, ↓reduceIte, tyb, gO, enV, ldb, hi', hgd, hw, hq, a1, a2, q1, q2, q3, ih', List.foldl_cons, pairM]
end Go.Proofs.YtikppcfabnnhfaaDoor
