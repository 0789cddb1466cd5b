/- table. -/
import Derived.Test.YtikppcfabnnhfaaDoorCNC18
namespace Go.Proofs.YtikppcfabnnhfaaDoor
open Go Go.Aw
set_option linter.unusedSimpArgs false
set_option linter.unusedVariables false
set_option maxRecDepth 100000
set_option maxHeartbeats 40000000
def colAt (cs : List Int) (s : Int) : Int := cs.getD s.toNat 0
/-- An entry has a colour. -/
def hasC (cs : List Int) (e : Et) : Prop := 0 ≤ e.s ∧ e.s < cs.length ∧ 0 ≤ colAt cs e.s ∧ colAt cs e.s < 500
def tsM (cs : List Int) : List Et → Int → Int
  | [], n => n
  | x :: r, n => tsM cs r (maxI n (colAt cs x.s + 1))
theorem ts_loop {w : Wd} {cs : List Int} {k : Int} {c : List Et} (hl : c.length ≤ 1000) (hc : ∀ e ∈ c, hasC cs e) : ∀ (r m : List Et) (n : Int), c = m ++ r →
    E.L 55 4 [.ro 1 (cs.map (AV.int .i64)), .int .i64 k, .ptr 60000 0 0, .int .i64 n, .ro 2 (c.map enV), .int .i64 c.length, .int .i64 m.length] (wO w) = some ((.exit 0, [.ro 1 (cs.map (AV.int .i64)), .int .i64 k, .ptr 60000 0 0, .int .i64 (tsM cs r n), .ro 2 (c.map enV), .int .i64 c.length, .int .i64 c.length], wO w), True) := by
  intro r
  induction r with
  | nil =>
    intro m n h
    rw [List.append_nil] at h
    subst h
    rw [l55_4]
    simp (maxSteps := 100000000) only [ivc, anf, nilR, eq_self, Nat.reduceEqDiff, Nat.reduceLT, Nat.reduceLeDiff, Nat.reduceAdd, Nat.reduceBEq, reduceCtorEq, ↓reduceIte, tyb, wO, wdV, Int.lt_irrefl, tsM]
  | cons x r ih =>
    intro m n h
    have hn : m.length + (r.length + 1) = c.length := by rw [h]; simp
    have hi' : (m.length : Int) < c.length := by omega
    have hx := hc x (by rw [h]; simp)
    obtain ⟨x1, x2, x3, x4⟩ := hx
    have hgd := getD_map (f := enV) (show c[m.length]? = some x by rw [h]; simp)
    have hw : IntKind.i64.wrap ((m.length : Int) + 1) = m.length + 1 := wrap_id (by omega) (by omega)
    have hw2 : IntKind.i64.wrap (colAt cs x.s + 1) = colAt cs x.s + 1 := wrap_id (by omega) (by omega)
    have hc0 : (0 ≤ (m.length : Int)) = True := eq_true (by omega)
    have q : (0 ≤ x.s ∧ x.s < cs.length) = True := eq_true ⟨x1, x2⟩
    have g : (cs.map (AV.int .i64)).getD x.s.toNat .junk = .int .i64 (colAt cs x.s) := getI (by omega)
    have ih' := ih (m ++ [x]) (maxI n (colAt cs x.s + 1)) (by simp [h])
    simp only [List.length_append, List.length_cons, List.length_nil, Nat.zero_add, Int.natCast_add, Int.cast_ofNat_Int, wO, wdV, maxI] at ih'
    rw [l55_4]
    simp (maxSteps := 100000000) only [ivc, anf, vop, vbuiltin, nilR, salloc, eq_self, Nat.reduceEqDiff, Nat.reduceLT, Nat.reduceLeDiff, Nat.reduceAdd, Nat.reduceBEq, reduceCtorEq, ↓reduceIte, tyb, wO, wdV, enV, hi', hgd, hw, hw2, hc0, q, g, ih', tsM, maxI]
def tuM (cs : List Int) : List Et → List Et → List Et
  | [], t => t
  | x :: r, t => tuM cs r (t.set (colAt cs x.s).toNat x)
theorem tuM_len {cs : List Int} : ∀ {r t : List Et}, (tuM cs r t).length = t.length
  | [], _ => rfl
  | _ :: r, t => by rw [tuM, tuM_len, List.length_set]
theorem tu_loop {cs : List Int} {c : List Et} {n : Nat} (hl : c.length ≤ 1000) (hc : ∀ e ∈ c, hasC cs e ∧ colAt cs e.s < n) : ∀ (r m t : List Et), c = m ++ r → t.length = n →
    E.L 55 10 [.ro 1 (cs.map (AV.int .i64)), .sl 60000 0 n, .ro 2 (c.map enV), .int .i64 c.length, .int .i64 m.length] [(60000, ⟨false, 2, t.map enV⟩)] = some ((.exit 2, [.ro 1 (cs.map (AV.int .i64)), .sl 60000 0 n, .ro 2 (c.map enV), .int .i64 c.length, .int .i64 c.length], [(60000, ⟨false, 2, (tuM cs r t).map enV⟩)]), True) := by
  intro r
  induction r with
  | nil =>
    intro m t h ht
    rw [List.append_nil] at h
    subst h
    rw [l55_10]
    simp (maxSteps := 100000000) only [ivc, anf, nilR, eq_self, Nat.reduceEqDiff, Nat.reduceLT, Nat.reduceLeDiff, Nat.reduceAdd, Nat.reduceBEq, reduceCtorEq, ↓reduceIte, tyb, Int.lt_irrefl, tuM]
  | cons x r ih =>
    intro m t h ht
    have hn : m.length + (r.length + 1) = c.length := by rw [h]; simp
    have hi' : (m.length : Int) < c.length := by omega
    obtain ⟨⟨x1, x2, x3, x4⟩, x5⟩ := hc x (by rw [h]; simp)
    have hgd := getD_map (f := enV) (show c[m.length]? = some x by rw [h]; simp)
    have hw : IntKind.i64.wrap ((m.length : Int) + 1) = m.length + 1 := wrap_id (by omega) (by omega)
    have hc0 : (0 ≤ (m.length : Int)) = True := eq_true (by omega)
    have q : (0 ≤ x.s ∧ x.s < cs.length) = True := eq_true ⟨x1, x2⟩
    have q2 : (0 ≤ colAt cs x.s ∧ colAt cs x.s < n) = True := eq_true ⟨x3, x5⟩
    have g : (cs.map (AV.int .i64)).getD x.s.toNat .junk = .int .i64 (colAt cs x.s) := getI (by omega)
    have g2 : (t.map enV).getD (colAt cs x.s).toNat .junk = .agg [.int .i64 (t.getD (colAt cs x.s).toNat ⟨0, 0⟩).s, .int .i64 (t.getD (colAt cs x.s).toNat ⟨0, 0⟩).m] := by
      have : (colAt cs x.s).toNat < t.length := by omega
      simp [List.getD_eq_getElem?_getD, List.getElem?_eq_getElem this, enV]
    have g3 : (t.map enV).set (colAt cs x.s).toNat (.agg [.int .i64 x.s, .int .i64 x.m]) = (t.set (colAt cs x.s).toNat x).map enV := set_map (f := enV)
    have ih' := ih (m ++ [x]) (t.set (colAt cs x.s).toNat x) (by simp [h]) (by rw [List.length_set, ht])
    simp only [List.length_append, List.length_cons, List.length_nil, Nat.zero_add, Int.natCast_add, Int.cast_ofNat_Int] at ih'
    rw [l55_10]
    simp (maxSteps := 100000000) only [ivc, anf, vop, nilR, salloc, eq_self, Nat.reduceEqDiff, Nat.reduceLT, Nat.reduceLeDiff, Nat.reduceAdd, Nat.reduceBEq, reduceCtorEq, ↓reduceIte, tyb, enV, hi', hgd, hw, hc0, q, q2, g, g2, g3, ih', tuM]
/-- No slot. -/
def noE : Et := ⟨-1, -1⟩
def reN (n : Nat) : List Et := List.replicate n noE
theorem rep_no {n : Nat} (hn : n ≤ 1000000) : E.F 59 [.sl 100000 0 1, .int .i64 n] [(100000, ⟨false, 2, [.agg [.int .i64 (-1), .int .i64 (-1)]]⟩)] = some ((.sl 200000 0 n, [(200000, ⟨false, 2, (reN n).map enV⟩), (100000, ⟨false, 2, [.agg [.int .i64 (-1), .int .i64 (-1)]]⟩)]), True) := rep2_ev (x := noE) hn
def tblM (cs : List Int) (c : List Et) : List Et := tuM cs c (reN (tsM cs c 0).toNat)
theorem tsM_rng {cs : List Int} : ∀ {c : List Et} {n : Int}, (∀ e ∈ c, hasC cs e) → 0 ≤ n → n ≤ 500 → n ≤ tsM cs c n ∧ tsM cs c n ≤ 500 ∧ ∀ e ∈ c, colAt cs e.s < tsM cs c n
  | [], n, _, h0, h1 => ⟨Int.le_refl _, h1, fun e he => by cases he⟩
  | x :: c, n, h, h0, h1 => by
    have hx := h x (by simp)
    have hm : n ≤ maxI n (colAt cs x.s + 1) ∧ maxI n (colAt cs x.s + 1) ≤ 500 ∧ colAt cs x.s < maxI n (colAt cs x.s + 1) := by
      have := hx.2.2
      unfold maxI
      split <;> omega
    obtain ⟨a1, a2, a3⟩ := tsM_rng (c := c) (n := maxI n (colAt cs x.s + 1)) (fun e he => h e (by simp [he])) (by omega) hm.2.1
    rw [tsM]
    refine ⟨by omega, a2, fun e he => ?_⟩
    rcases List.mem_cons.1 he with rfl | he
    · omega
    · exact a3 e he
theorem table_ev {w : Wd} {cs : List Int} {k : Nat} {c : List Et} (hk : w.classes[k]? = some c) (hl : c.length ≤ 1000) (hc : ∀ e ∈ c, hasC cs e) (hn : w.classes.length ≤ 1000) :
    E.F 55 [wdV w, .ro 1 (cs.map (AV.int .i64)), .int .i64 k] [] = some ((.sl 200000 0 (tblM cs c).length, [(200000, ⟨false, 2, (tblM cs c).map enV⟩)]), True) := by
  obtain ⟨a1, a2, a3⟩ := tsM_rng (n := 0) hc (by omega) (by omega)
  have hkl := (List.getElem?_eq_some_iff.1 hk).1
  have h1 := ts_loop (w := w) (k := k) hl hc c [] 0 rfl
  have hlen : (tblM cs c).length = (tsM cs c 0).toNat := by rw [tblM, tuM_len, reN, List.length_replicate]
  have h2 := tu_loop (n := (tsM cs c 0).toNat) hl (fun e he => ⟨hc e he, by have := a3 e he; omega⟩) c [] (reN (tsM cs c 0).toNat) rfl (by rw [reN, List.length_replicate])
  have h3 := rep_no (n := (tsM cs c 0).toNat) (by omega)
  have e1 : (((tsM cs c 0).toNat : Nat) : Int) = tsM cs c 0 := by omega
  rw [e1] at h3
  have hgd := getD_map (f := clV) hk
  have q : (0 ≤ (k : Int) ∧ (k : Int) < w.classes.length) = True := eq_true (by omega)
  rw [hlen]
  unfold tblM
  generalize (tsM cs c 0).toNat = N at h2 h3 ⊢
  simp only [List.length_nil, Int.natCast_zero, wO, wdV] at h1 h2
  rw [e55]
  simp (maxSteps := 100000000) only [ivc, anf, vop, vlen, vbuiltin, salloc, eq_self, Nat.reduceEqDiff, Nat.reduceLT, Nat.reduceLeDiff, Nat.reduceAdd, Nat.reduceMul, Nat.reduceBEq, Int.reduceNeg, reduceCtorEq, ↓reduceIte, tyb, wdV, clV, hgd, q, h1, h2, h3]
end Go.Proofs.YtikppcfabnnhfaaDoor
