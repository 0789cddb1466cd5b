/- The graph: classes. -/
import Derived.Test.YtikppcfabnnhfaaDoorCNC7
namespace Go.Proofs.YtikppcfabnnhfaaDoor
open Go Go.Aw
set_option linter.unusedSimpArgs false
set_option linter.unusedVariables false
set_option maxRecDepth 100000
set_option maxHeartbeats 40000000
def entsM : List Et → List Et → List Int → List Int
  | _, [], g => g
  | p, x :: r, g => entsM (p ++ [x]) r (p.foldl (pairM · x ·) (addW g 0 x.s))
theorem pairs_len {p : List Et} {x : Et} : ∀ {g : List Int}, (p.foldl (pairM · x ·) g).length = g.length := by
  induction p with
  | nil => intro g; rfl
  | cons y p ih => intro g; rw [List.foldl_cons, ih, pairM_len]
theorem entsM_len {r : List Et} : ∀ {p : List Et} {g : List Int}, (entsM p r g).length = g.length := by
  induction r with
  | nil => intro p g; rfl
  | cons x r ih => intro p g; rw [entsM, ih, pairs_len, addW_len]
theorem ents_loop {C : List AV} {c : List Et} {n i : Int} (hcl : c.length ≤ 1000) (hc : ∀ e ∈ c, okE e) : ∀ (r m : List Et) (g : List Int), c = m ++ r → g.length = 4008 →
    E.L 40 7 [.ptr 60000 0 0, .ro 2 (c.map enV), .ro 1 C, .int .i64 n, .int .i64 i, .ro 2 (c.map enV), .int .i64 c.length, .int .i64 m.length] [(60000, gO g)]
    = some ((.exit 2, [.ptr 60000 0 0, .ro 2 (c.map enV), .ro 1 C, .int .i64 n, .int .i64 i, .ro 2 (c.map enV), .int .i64 c.length, .int .i64 c.length], [(60000, gO (entsM m r g))]), True) := by
  intro r
  induction r with
  | nil =>
    intro m g h hg
    rw [List.append_nil] at h
    subst h
    have q3 : ((c.length : Int) < (c.length : Int)) = False := eq_false (by omega)
    rw [l40_7]
    simp (maxSteps := 100000000) only [ivc, anf, nilR, eq_self, Nat.reduceEqDiff, Nat.reduceLT, Nat.reduceLeDiff, Nat.reduceAdd, Nat.reduceBEq, reduceCtorEq, ↓reduceIte, tyb, gO, ldb, q3, entsM]
  | cons x r ih =>
    intro m g h hg
    have hn : m.length + (r.length + 1) = c.length := by rw [h]; simp
    have hi' : (m.length : Int) < c.length := by omega
    have hx : c[m.length]? = some x := by rw [h]; simp
    have hxc : okE x := hc x (List.mem_of_getElem? hx)
    have hgd := getD_map (f := enV) hx
    have hw : IntKind.i64.wrap ((m.length : Int) + 1) = m.length + 1 := wrap_id (by omega) (by omega)
    have hq : (0 ≤ (m.length : Int)) = True := eq_true (by omega)
    have htk : c.take m.length = m := by rw [h]; simp
    have ih' := ih (m ++ [x]) (m.foldl (pairM · x ·) (addW g 0 x.s)) (by simp [h]) (by rw [pairs_len, addW_len, hg])
    simp only [List.length_append, List.length_cons, List.length_nil, Nat.zero_add, Int.natCast_add, Int.cast_ofNat_Int, gO] at ih'
    have a1 := add_ev (l := g) (c := 0) (n := x.s) hxc.1 (by have := hxc.2; omega) (by omega)
    rw [hg] at a1
    have hp := pairs_loop (C := C) (n := n) (i := i) (k := m.length) (x := x) hxc (by omega) hcl hc m [] (addW g 0 x.s) (by rw [htk]; rfl) (by rw [addW_len, hg])
    rw [htk] at hp
    simp only [List.length_nil, Int.natCast_zero, gO, enV] at hp
    have htm : (c.map enV).take m.length = m.map enV := by rw [← List.map_take, htk]
    have q5 : (0 ≤ (m.length : Int) ∧ (m.length : Int) ≤ c.length) = True := eq_true (by omega)
    rw [l40_7]
    simp (maxSteps := 100000000) only [ivc, anf, vop, vslice, vlen, vbuiltin, nilR, salloc, eq_self, Nat.reduceEqDiff, Nat.reduceLT, Nat.reduceLeDiff, Nat.reduceAdd, Nat.reduceMul, Nat.reduceSub, Nat.reduceBEq, Int.reduceLE, Int.reduceToNat, reduceCtorEq, implies_true, ↓reduceIte, tyb, gO, enV, ldb, hi', hgd, hw, hq, a1, hp, htm, ih', entsM]
    exact some_true (by omega)
/-- n zeros -/
def zs (n : Nat) : List Int := List.replicate n 0
theorem zrep (n : Nat) : List.replicate n (0 : Int) = zs n := rfl
theorem zs_len (n : Nat) : (zs n).length = n := by simp [zs]
def graphM (cs : List (List Et)) (g : List Int) : List Int := cs.foldl (fun g c => entsM [] c g) g
def okW (w : Wd) : Prop := w.classes.length ≤ 200 ∧ ∀ c ∈ w.classes, c.length ≤ 100 ∧ ∀ e ∈ c, okE e
theorem cls_loop {w : List (List Et)} (hl : w.length ≤ 1000) (hw0 : ∀ c ∈ w, c.length ≤ 100 ∧ ∀ e ∈ c, okE e) : ∀ (r m : List (List Et)) (g : List Int), w = m ++ r → g.length = 4008 →
    E.L 40 4 [.ptr 60000 0 0, .ro 1 (w.map clV), .int .i64 w.length, .int .i64 m.length] [(60000, gO g)]
    = some ((.exit 0, [.ptr 60000 0 0, .ro 1 (w.map clV), .int .i64 w.length, .int .i64 w.length], [(60000, gO (graphM r g))]), True) := by
  intro r
  induction r with
  | nil =>
    intro m g h hg
    rw [List.append_nil] at h
    subst h
    have q3 : ((w.length : Int) < (w.length : Int)) = False := eq_false (by omega)
    rw [l40_4]
    simp (maxSteps := 100000000) only [ivc, anf, nilR, eq_self, Nat.reduceEqDiff, Nat.reduceLT, Nat.reduceLeDiff, Nat.reduceAdd, Nat.reduceBEq, reduceCtorEq, ↓reduceIte, tyb, gO, ldb, q3, graphM, List.foldl_nil]
  | cons x r ih =>
    intro m g h hg
    have hn : m.length + (r.length + 1) = w.length := by rw [h]; simp
    have hi' : (m.length : Int) < w.length := by omega
    have hx : w[m.length]? = some x := by rw [h]; simp
    obtain ⟨x1, x2⟩ := hw0 x (List.mem_of_getElem? hx)
    have hgd := getD_map (f := clV) hx
    have hw : IntKind.i64.wrap ((m.length : Int) + 1) = m.length + 1 := wrap_id (by omega) (by omega)
    have hq : (0 ≤ (m.length : Int)) = True := eq_true (by omega)
    have ih' := ih (m ++ [x]) (entsM [] x g) (by simp [h]) (by rw [entsM_len, hg])
    simp only [List.length_append, List.length_cons, List.length_nil, Nat.zero_add, Int.natCast_add, Int.cast_ofNat_Int, gO] at ih'
    have hp := ents_loop (C := w.map clV) (n := w.length) (i := m.length) (by omega) x2 x [] g rfl hg
    simp only [List.length_nil, Int.natCast_zero, gO] at hp
    rw [l40_4]
    simp (maxSteps := 100000000) only [ivc, anf, vlen, vbuiltin, nilR, eq_self, Nat.reduceEqDiff, Nat.reduceLT, Nat.reduceLeDiff, Nat.reduceAdd, Nat.reduceBEq, reduceCtorEq, ↓reduceIte, tyb, gO, clV, ldb, hi', hgd, hw, hq, hp, ih', graphM, List.foldl_cons]
def graphW (w : Wd) : List Int := graphM w.classes (zs 4008)
theorem graph_ev {w : Wd} (ok : okW w) : E.F 40 [wdV w] [] = some ((.ptr 200000 0 0, [(200000, gO (graphW w))]), True) := by
  obtain ⟨o1, o2⟩ := ok
  have h := cls_loop (by omega) o2 w.classes [] (zs 4008) rfl (zs_len 4008)
  simp only [List.length_nil, Int.natCast_zero, gO] at h
  rw [e40]
  simp (maxSteps := 100000000) only [↓zrep, zs_len, ivc, anf, vop, vlen, vbuiltin, salloc, eq_self, Nat.reduceEqDiff, Nat.reduceLT, Nat.reduceLeDiff, Nat.reduceAdd, Nat.reduceBEq, reduceCtorEq, ↓reduceIte, tyb, gO, wdV, ldb, h, graphW]
end Go.Proofs.YtikppcfabnnhfaaDoor
