/- A part of the proof of ColourReachesCardSaid. -/
import Derived.Test.YtikppcfabnnhfaaDoorC4
/- Reach: what a number does; roots, methods. -/
namespace Go.Proofs.YtikppcfabnnhfaaDoor
open Go Go.Aw
set_option linter.unusedSimpArgs false
set_option linter.unusedVariables false
set_option maxRecDepth 100000
set_option maxHeartbeats 40000000
structure Rs where
 M : List Bool
 Q : List Int
def rch (z : Rs) (n : Int) : Rs := if 0 ≤ n /\ getB z.M n.toNat = false then ⟨z.M.set n.toNat true, z.Q ++ [n]⟩ else z
def rin (z : Rs) (lo : Nat) (R : List Int) : Prop := R.drop lo = z.Q /\ R.length ≤ 1000 /\ z.Q.length ≤ z.M.count true /\ z.M.length ≤ 500 /\ ∀ q ∈ z.Q, 0 ≤ q /\ q < z.M.length
theorem cnt_true : ∀ {M : List Bool} {n : Nat}, n < M.length -> getB M n = false -> (M.set n true).count true = M.count true + 1
 | b :: M, 0, _, h => by
  have hb : b = false := by simpa [getB] using h
  subst hb
  simp
 | b :: M, n + 1, hn, h => by
  have ih := cnt_true (M := M) (n := n) (by simpa using hn) (by simpa [getB] using h)
  rw [List.set_cons_succ, List.count_cons, List.count_cons, ih]
  omega
theorem rch_len {z : Rs} {n : Int} : (rch z n).M.length = z.M.length := by
 unfold rch
 split <;> simp
theorem fold_len : ∀ {l : List Int} {z : Rs}, (l.foldl rch z).M.length = z.M.length
 | [], _ => rfl
 | x :: l, z => by rw [List.foldl_cons, fold_len, rch_len]
theorem rc73 {n : Int} {z : Rs} {lo : Nat} {R : List Int} (hi : rin z lo R) (hn : n < z.M.length) :
  ∃ lo' R', rin (rch z n) lo' R' /\ E.F 73 [.int .i64 n, .ptr 100000 0 0, .ptr 100001 0 0] (bxH z.M lo R z.Q) = some ((.tup [], bxO (rch z n).M lo' R' (rch z n).Q), True) := by
 obtain ⟨h1, h2, h3, h4, h5⟩ := hi
 by_cases h : 0 ≤ n /\ getB z.M n.toNat = false
 ·have e : rch z n = ⟨z.M.set n.toNat true, z.Q ++ [n]⟩ := if_pos h
  rw [e]
  have hc := cnt_true (M := z.M) (n := n.toNat) (by omega) h.2
  have hle := List.count_le_length (a := true) (l := z.M)
  exact ⟨0, z.Q ++ [n], ⟨rfl, by simp; omega, by simp [hc]; omega, by simpa using h4, fun q hq => by
   rw [List.length_set]
   rcases List.mem_append.1 hq with hq | hq
   ·exact h5 q hq
   ·rw [List.mem_singleton.1 hq]; exact ⟨h.1, hn⟩⟩, rc73_go h1 (by omega) h.1 hn h.2⟩
 ·have e : rch z n = z := if_neg h
  rw [e]
  refine ⟨lo, R, ⟨h1, h2, h3, h4, h5⟩, rc73_no hn ?_⟩
  cases hb : getB z.M n.toNat with
  | true => exact .inr rfl
  | false => exact .inl (by
    rcases Int.lt_or_le n 0 with h6 | h6
    ·exact h6
    ·exact absurd ⟨h6, hb⟩ h)
def f73V : AV := .fn (Fn.func 73) [] [.ptr 60001 0 0, .ptr 60004 0 0]
def rcV (C S : List Bool) : List AV := [.ptr 60000 0 0, .ptr 60001 0 0, .sl 60002 0 C.length, .sl 60003 0 S.length, .ptr 60004 0 0, f73V]
def rcH (w : Wd) (z : Rs) (C S : List Bool) (lo : Nat) (R : List Int) : HL := [(60000, ⟨true, 3, [wdV w]⟩), (60001, ⟨true, 1, [.sl 60005 0 z.M.length]⟩), (60002, bR C), (60003, bR S), (60004, ⟨true, 1, [.sl 60006 lo z.Q.length]⟩), (60005, bR z.M), (60006, iR R)]
theorem rc9_loop {w : Wd} {C S : List Bool} {l : List Int} (hl : l.length ≤ 1000000) : ∀ (r m : List Int) (z : Rs) (lo : Nat) (R : List Int), l = m ++ r -> rin z lo R -> (∀ x ∈ r, x < z.M.length) ->
  ∃ lo' R', rin (r.foldl rch z) lo' R' /\ E.L 34 9 (rcV C S ++ [.ro 1 (l.map (AV.int .i64)), .int .i64 l.length, .int .i64 m.length]) (rcH w z C S lo R) = some ((.exit 0, rcV C S ++ [.ro 1 (l.map (AV.int .i64)), .int .i64 l.length, .int .i64 l.length], rcH w (r.foldl rch z) C S lo' R'), True) := by
 intro r
 induction r with
 | nil =>
  intro m z lo R h hi _
  rw [List.append_nil] at h
  subst h
  refine ⟨lo, R, hi, ?_⟩
  have q : ((l.length : Int) < l.length) = False := eq_false (by omega)
  rw [l34_9]
  simp (maxSteps := 100000000) only [ivc, anf, nilR, eq_self, Nat.reduceEqDiff, Nat.reduceLT, Nat.reduceLeDiff, Nat.reduceAdd, Nat.reduceBEq, reduceCtorEq, ↓reduceIte, tyb, rcV, f73V, rcH, bR, iR, wdV, q, List.foldl_nil]
 | cons x r ih =>
  intro m z lo R h hi hx
  have hn : m.length + (r.length + 1) = l.length := by rw [h]; simp
  have hi' : (m.length : Int) < l.length := by omega
  have hg := getD_map (f := AV.int .i64) (show l[m.length]? = some x by rw [h]; simp)
  have hw : IntKind.i64.wrap ((m.length : Int) + 1) = m.length + 1 := wrap_id (by omega) (by omega)
  have hc : (0 ≤ (m.length : Int) /\ (m.length : Int) < l.length) = True := eq_true (by omega)
  obtain ⟨lo1, R1, hi1, c⟩ := rc73 hi (hx x (by simp))
  have hM : (rch z x).M.length = z.M.length := rch_len
  obtain ⟨lo2, R2, hi2, ih'⟩ := ih (m ++ [x]) (rch z x) lo1 R1 (by simp [h]) hi1 (fun y hy => by rw [hM]; exact hx y (by simp [hy]))
  rw [List.foldl_cons]
  refine ⟨lo2, R2, hi2, ?_⟩
  generalize rch z x = z1 at *
  generalize r.foldl rch z1 = z2 at *
  simp only [List.length_append, List.length_cons, List.length_nil, Nat.zero_add, Int.natCast_add, Int.cast_ofNat_Int, rcV, f73V, rcH, bR, iR, wdV, bxH, bxO, List.cons_append, List.nil_append] at ih' c
  rw [l34_9]
  simp (maxSteps := 100000000) only [ivc, anf, nilR, eq_self, Nat.reduceEqDiff, Nat.reduceLT, Nat.reduceLeDiff, Nat.reduceAdd, Nat.reduceMul, Nat.reduceBEq, reduceCtorEq, ↓reduceIte, tyb, rcV, f73V, rcH, bR, iR, wdV, hi', hg, hw, c, ih']
  exact some_true (by omega)
def rdH (w : Wd) (b : Bd) (z : Rs) (C S : List Bool) (lo : Nat) (R : List Int) : HL := [(60000, ⟨true, 3, [wdV w]⟩), (60001, ⟨true, 1, [.sl 60006 0 z.M.length]⟩), (60002, bR C), (60003, bR S), (60004, ⟨true, 1, [.sl 60007 lo z.Q.length]⟩), (60005, ⟨true, 3, [bdV b]⟩), (60006, bR z.M), (60007, iR R)]
theorem rc17_loop {w : Wd} {b : Bd} {C S : List Bool} {l : List Int} (hl : l.length ≤ 1000000) : ∀ (r m : List Int) (z : Rs) (lo : Nat) (R : List Int), l = m ++ r -> rin z lo R -> (∀ x ∈ r, x < z.M.length) ->
  ∃ lo' R', rin (r.foldl rch z) lo' R' /\ E.L 34 17 (rcV C S ++ [.ptr 60005 0 0, .ro 1 (l.map (AV.int .i64)), .int .i64 l.length, .int .i64 m.length]) (rdH w b z C S lo R) = some ((.exit 4, rcV C S ++ [.ptr 60005 0 0, .ro 1 (l.map (AV.int .i64)), .int .i64 l.length, .int .i64 l.length], rdH w b (r.foldl rch z) C S lo' R'), True) := by
 intro r
 induction r with
 | nil =>
  intro m z lo R h hi _
  rw [List.append_nil] at h
  subst h
  refine ⟨lo, R, hi, ?_⟩
  have q : ((l.length : Int) < l.length) = False := eq_false (by omega)
  rw [l34_17]
  simp (maxSteps := 100000000) only [ivc, anf, nilR, eq_self, Nat.reduceEqDiff, Nat.reduceLT, Nat.reduceLeDiff, Nat.reduceAdd, Nat.reduceBEq, reduceCtorEq, ↓reduceIte, tyb, rcV, f73V, rdH, bR, iR, wdV, bdV, q, List.foldl_nil]
 | cons x r ih =>
  intro m z lo R h hi hx
  have hn : m.length + (r.length + 1) = l.length := by rw [h]; simp
  have hi' : (m.length : Int) < l.length := by omega
  have hg := getD_map (f := AV.int .i64) (show l[m.length]? = some x by rw [h]; simp)
  have hw : IntKind.i64.wrap ((m.length : Int) + 1) = m.length + 1 := wrap_id (by omega) (by omega)
  have hc : (0 ≤ (m.length : Int) /\ (m.length : Int) < l.length) = True := eq_true (by omega)
  obtain ⟨lo1, R1, hi1, c⟩ := rc73 hi (hx x (by simp))
  have hM : (rch z x).M.length = z.M.length := rch_len
  obtain ⟨lo2, R2, hi2, ih'⟩ := ih (m ++ [x]) (rch z x) lo1 R1 (by simp [h]) hi1 (fun y hy => by rw [hM]; exact hx y (by simp [hy]))
  rw [List.foldl_cons]
  refine ⟨lo2, R2, hi2, ?_⟩
  generalize rch z x = z1 at *
  generalize r.foldl rch z1 = z2 at *
  simp only [List.length_append, List.length_cons, List.length_nil, Nat.zero_add, Int.natCast_add, Int.cast_ofNat_Int, rcV, f73V, rdH, bR, iR, wdV, bdV, bxH, bxO, List.cons_append, List.nil_append] at ih' c
  rw [l34_17]
  simp (maxSteps := 100000000) only [ivc, anf, nilR, eq_self, Nat.reduceEqDiff, Nat.reduceLT, Nat.reduceLeDiff, Nat.reduceAdd, Nat.reduceMul, Nat.reduceBEq, reduceCtorEq, ↓reduceIte, tyb, rcV, f73V, rdH, bR, iR, wdV, bdV, hi', hg, hw, c, ih']
  exact some_true (by omega)
def reH (w : Wd) (b : Bd) (z : Rs) (C S : List Bool) (ls : List Int) (lo : Nat) (R : List Int) : HL := [(60000, ⟨true, 3, [wdV w]⟩), (60001, ⟨true, 1, [.sl 60007 0 z.M.length]⟩), (60002, bR C), (60003, bR S), (60004, ⟨true, 1, [.sl 60008 lo z.Q.length]⟩), (60005, ⟨true, 3, [bdV b]⟩), (60006, iR ls), (60007, bR z.M), (60008, iR R)]
theorem meth_lt {w : Wd} (g : Good w) {c : List Et} (hc : c ∈ w.classes) {n : Int} : methM c n < w.bodies.length := by
 unfold methM
 split
 ·rename_i e he
  have := (g.ent c hc e (List.mem_of_find?_eq_some he)).2
  omega
 ·omega
theorem rc27_loop {w : Wd} {b : Bd} {C S : List Bool} {ls bc : List Int} {k : Nat} {i : Int} {c : List Et} (g : Good w) (hk : w.classes[k]? = some c) (hl : ls.length ≤ 500) (hls : ∀ x ∈ ls, selN x) : ∀ (r m : List Int) (z : Rs) (lo : Nat) (R : List Int), ls = m ++ r -> rin z lo R -> z.M.length = w.bodies.length ->
  ∃ lo' R', rin ((r.map (methM c)).foldl rch z) lo' R' /\ E.L 34 27 (rcV C S ++ [.ptr 60005 0 0, .int .i64 k, .ro 1 (bc.map (AV.int .i64)), .int .i64 bc.length, .int .i64 i, .sl 60006 0 ls.length, .int .i64 ls.length, .int .i64 m.length]) (reH w b z C S ls lo R) = some ((.exit 8, rcV C S ++ [.ptr 60005 0 0, .int .i64 k, .ro 1 (bc.map (AV.int .i64)), .int .i64 bc.length, .int .i64 i, .sl 60006 0 ls.length, .int .i64 ls.length, .int .i64 ls.length], reH w b ((r.map (methM c)).foldl rch z) C S ls lo' R'), True) := by
 have hc0 := List.mem_of_getElem? hk
 intro r
 induction r with
 | nil =>
  intro m z lo R h hi _
  rw [List.append_nil] at h
  subst h
  refine ⟨lo, R, hi, ?_⟩
  have q : ((ls.length : Int) < ls.length) = False := eq_false (by omega)
  rw [l34_27]
  simp (maxSteps := 100000000) only [ivc, anf, nilR, eq_self, Nat.reduceEqDiff, Nat.reduceLT, Nat.reduceLeDiff, Nat.reduceAdd, Nat.reduceBEq, reduceCtorEq, ↓reduceIte, tyb, rcV, f73V, reH, bR, iR, wdV, bdV, q, List.foldl_nil]
 | cons x r ih =>
  intro m z lo R h hi hx
  have hn : m.length + (r.length + 1) = ls.length := by rw [h]; simp
  have hi' : (m.length : Int) < ls.length := by omega
  have hg := getD_map (f := AV.int .i64) (show ls[m.length]? = some x by rw [h]; simp)
  have hw : IntKind.i64.wrap ((m.length : Int) + 1) = m.length + 1 := wrap_id (by omega) (by omega)
  have hc : (0 ≤ (m.length : Int) /\ (m.length : Int) < ls.length) = True := eq_true (by omega)
  have hxs := hls x (by rw [h]; simp)
  have me := method_ev (w := w) (n := x) hk (by have := g.len c hc0; omega) (g.asc c hc0) (fun e he => by
   have := (g.ent c hc0 e he).1
   have h1 := hxs.1
   have h2 := hxs.2
   unfold i64r; omega)
  have hlt := meth_lt g hc0 (n := x)
  obtain ⟨lo1, R1, hi1, cc⟩ := rc73 (n := methM c x) hi (by rw [hx]; exact hlt)
  have hM : (rch z (methM c x)).M.length = z.M.length := rch_len
  obtain ⟨lo2, R2, hi2, ih'⟩ := ih (m ++ [x]) (rch z (methM c x)) lo1 R1 (by simp [h]) hi1 (hM.trans hx)
  rw [List.map_cons, List.foldl_cons]
  refine ⟨lo2, R2, hi2, ?_⟩
  generalize methM c x = y at *
  generalize rch z y = z1 at *
  generalize (r.map (methM c)).foldl rch z1 = z2 at *
  simp only [List.length_append, List.length_cons, List.length_nil, Nat.zero_add, Int.natCast_add, Int.cast_ofNat_Int, rcV, f73V, reH, bR, iR, wdV, bdV, bxH, bxO, List.cons_append, List.nil_append] at ih' cc me
  rw [l34_27]
  simp (maxSteps := 100000000) only [ivc, anf, nilR, eq_self, Nat.reduceEqDiff, Nat.reduceLT, Nat.reduceLeDiff, Nat.reduceAdd, Nat.reduceMul, Nat.reduceBEq, reduceCtorEq, ↓reduceIte, tyb, rcV, f73V, reH, bR, iR, wdV, bdV, hi', hg, hw, me, cc, ih']
  exact some_true (by omega)
theorem lsM_mem : ∀ {l : List Bool} {n x : Int}, x ∈ lsM l n ↔ n ≤ x /\ x < n + l.length /\ getB l (x - n).toNat = true
 | [], n, x => by
  simp only [lsM, List.not_mem_nil, List.length_nil, false_iff]
  omega
 | b :: r, n, x => by
  rw [lsM, List.mem_append, lsM_mem, List.length_cons]
  have hs : n + 1 ≤ x -> getB (b :: r) (x - n).toNat = getB r (x - (n + 1)).toNat := fun h => by
   have : (x - n).toNat = (x - (n + 1)).toNat + 1 := by omega
   rw [this]
   rfl
  constructor
  ·rintro (h | ⟨h1, h2, h3⟩)
   ·split at h
    ·rename_i hb
     rw [List.mem_singleton.1 h]
     refine ⟨Int.le_refl _, by omega, ?_⟩
     rw [show (n - n).toNat = 0 by omega]
     exact hb
    ·cases h
   ·exact ⟨by omega, by omega, by rw [hs h1]; exact h3⟩
  ·rintro ⟨h1, h2, h3⟩
   by_cases hx : x = n
   ·subst hx
    rw [show (x - x).toNat = 0 by omega] at h3
    have hb : b = true := h3
    exact .inl (by rw [if_pos hb]; simp)
   ·exact .inr ⟨by omega, by omega, by rw [<- hs (by omega)]; exact h3⟩
theorem ls_mem {l : List Bool} {x : Int} : x ∈ lsM l 0 ↔ 0 ≤ x /\ x < l.length /\ getB l x.toNat = true := by
 rw [lsM_mem, Int.zero_add, Int.sub_zero]
def clAt (w : Wd) (n : Int) : List Et := w.classes.getD n.toNat []
def stC (w : Wd) (S : List Bool) (y : Rs × List Bool) (n : Int) : Rs × List Bool :=
 if getB y.2 n.toNat = false then (((lsM S 0).map (methM (clAt w n))).foldl rch y.1, y.2.set n.toNat true) else y
theorem stC_len {w : Wd} {S : List Bool} {y : Rs × List Bool} {n : Int} : (stC w S y n).1.M.length = y.1.M.length /\ (stC w S y n).2.length = y.2.length := by
 unfold stC
 split
 ·exact ⟨fold_len, by simp⟩
 ·exact ⟨rfl, rfl⟩
theorem rc22_loop {w : Wd} {b : Bd} {S : List Bool} {l : List Int} (g : Good w) (hl : l.length ≤ 1000000) (hS : S.length = 500) : ∀ (r m : List Int) (z : Rs) (C : List Bool) (lo : Nat) (R : List Int), l = m ++ r -> rin z lo R -> z.M.length = w.bodies.length -> C.length = w.classes.length -> (∀ x ∈ r, 0 ≤ x /\ x < w.classes.length) ->
  ∃ lo' R', rin (r.foldl (stC w S) (z, C)).1 lo' R' /\ E.L 34 22 (rcV C S ++ [.ptr 60005 0 0, .ro 1 (l.map (AV.int .i64)), .int .i64 l.length, .int .i64 m.length]) (rdH w b z C S lo R) = some ((.exit 6, rcV (r.foldl (stC w S) (z, C)).2 S ++ [.ptr 60005 0 0, .ro 1 (l.map (AV.int .i64)), .int .i64 l.length, .int .i64 l.length], rdH w b (r.foldl (stC w S) (z, C)).1 (r.foldl (stC w S) (z, C)).2 S lo' R'), True) := by
 intro r
 induction r with
 | nil =>
  intro m z C lo R h hi _ _ _
  rw [List.append_nil] at h
  subst h
  refine ⟨lo, R, hi, ?_⟩
  have q : ((l.length : Int) < l.length) = False := eq_false (by omega)
  rw [l34_22]
  simp (maxSteps := 100000000) only [ivc, anf, nilR, eq_self, Nat.reduceEqDiff, Nat.reduceLT, Nat.reduceLeDiff, Nat.reduceAdd, Nat.reduceBEq, reduceCtorEq, ↓reduceIte, tyb, rcV, f73V, rdH, bR, iR, wdV, bdV, q, List.foldl_nil]
 | cons x r ih =>
  intro m z C lo R h hi hM hC hx
  have hn : m.length + (r.length + 1) = l.length := by rw [h]; simp
  have hi' : (m.length : Int) < l.length := by omega
  have hg := getD_map (f := AV.int .i64) (show l[m.length]? = some x by rw [h]; simp)
  have hw : IntKind.i64.wrap ((m.length : Int) + 1) = m.length + 1 := wrap_id (by omega) (by omega)
  have hc : (0 ≤ (m.length : Int) /\ (m.length : Int) < l.length) = True := eq_true (by omega)
  obtain ⟨hx0, hx1⟩ := hx x (by simp)
  have q : (0 ≤ x /\ x < C.length) = True := eq_true ⟨hx0, by omega⟩
  have k1 := getBo (l := C) (i := x.toNat) (by omega)
  have gc := g.nc
  cases hb : getB C x.toNat with
  | true =>
   have e : stC w S (z, C) x = (z, C) := if_neg (by rw [hb]; simp)
   obtain ⟨lo2, R2, hi2, ih'⟩ := ih (m ++ [x]) z C lo R (by simp [h]) hi hM hC (fun y hy => hx y (by simp [hy]))
   rw [List.foldl_cons, e]
   refine ⟨lo2, R2, hi2, ?_⟩
   rw [hb] at k1
   generalize r.foldl (stC w S) (z, C) = z2 at *
   simp only [List.length_append, List.length_cons, List.length_nil, Nat.zero_add, Int.natCast_add, Int.cast_ofNat_Int, rcV, f73V, rdH, bR, iR, wdV, bdV, List.cons_append, List.nil_append] at ih'
   rw [l34_22]
   simp (maxSteps := 100000000) only [ivc, anf, vop, nilR, eq_self, Nat.reduceEqDiff, Nat.reduceLT, Nat.reduceLeDiff, Nat.reduceAdd, Nat.reduceBEq, reduceCtorEq, ↓reduceIte, tyb, rcV, f73V, rdH, bR, iR, wdV, bdV, hi', hg, hw, q, k1, ih']
   exact some_true (by omega)
  | false =>
   have hk : w.classes[x.toNat]? = some (clAt w x) := by
    unfold clAt
    rw [List.getD_eq_getElem?_getD, List.getElem?_eq_getElem (by omega)]; rfl
   have e : stC w S (z, C) x = (((lsM S 0).map (methM (clAt w x))).foldl rch z, C.set x.toNat true) := if_pos hb
   have ls := list_ev (l := S) (by omega)
   have hls : ∀ y ∈ lsM S 0, selN y := fun y hy => by
    obtain ⟨a, b, _⟩ := ls_mem.1 hy
    exact ⟨a, by omega⟩
   have hll := lsM_len (l := S) (n := 0)
   obtain ⟨lo1, R1, hi1, lp⟩ := rc27_loop (b := b) (C := C.set x.toNat true) (S := S) (bc := l) (i := m.length) g hk (by omega) hls (lsM S 0) [] z lo R rfl hi hM
   have hM1 : (((lsM S 0).map (methM (clAt w x))).foldl rch z).M.length = z.M.length := fold_len
   obtain ⟨lo2, R2, hi2, ih'⟩ := ih (m ++ [x]) (((lsM S 0).map (methM (clAt w x))).foldl rch z) (C.set x.toNat true) lo1 R1 (by simp [h]) hi1 (hM1.trans hM) (by rw [List.length_set]; exact hC) (fun y hy => hx y (by simp [hy]))
   rw [List.foldl_cons, e]
   refine ⟨lo2, R2, hi2, ?_⟩
   rw [hb] at k1
   generalize lsM S 0 = L at *
   generalize (L.map (methM (clAt w x))).foldl rch z = z1 at *
   generalize r.foldl (stC w S) (z1, C.set x.toNat true) = z2 at *
   rw [show ((x.toNat : Nat) : Int) = x by omega] at lp
   simp only [List.length_append, List.length_cons, List.length_nil, Nat.zero_add, Int.natCast_add, Int.cast_ofNat_Int, rcV, f73V, rdH, reH, bR, iR, wdV, bdV, List.cons_append, List.nil_append, List.length_set] at ih' ls lp
   rw [l34_22]
   simp (maxSteps := 100000000) only [ivc, anf, vop, vlen, vbuiltin, nilR, eq_self, Nat.reduceEqDiff, Nat.reduceLT, Nat.reduceLeDiff, Nat.reduceAdd, Nat.reduceMul, Nat.reduceBEq, reduceCtorEq, ↓reduceIte, tyb, rcV, f73V, rdH, bR, iR, wdV, bdV, hi', hg, hw, q, k1, set_map, ls, lp, ih']
   exact some_true (by omega)
def rfH (w : Wd) (z : Rs) (C S : List Bool) (ls : List Int) (lo : Nat) (R : List Int) : HL := [(60000, ⟨true, 3, [wdV w]⟩), (60001, ⟨true, 1, [.sl 60006 0 z.M.length]⟩), (60002, bR C), (60003, bR S), (60004, ⟨true, 1, [.sl 60007 lo z.Q.length]⟩), (60005, iR ls), (60006, bR z.M), (60007, iR R)]
theorem clAt_some {w : Wd} {n : Int} (h0 : 0 ≤ n) (h1 : n < w.classes.length) : w.classes[n.toNat]? = some (clAt w n) := by
 unfold clAt
 rw [List.getD_eq_getElem?_getD, List.getElem?_eq_getElem (by omega)]; rfl
theorem rc38_loop {w : Wd} {C S : List Bool} {ls bc : List Int} {n i : Int} (g : Good w) (hn5 : selN n) (hl : ls.length ≤ 500) (hls : ∀ x ∈ ls, 0 ≤ x /\ x < w.classes.length) : ∀ (r m : List Int) (z : Rs) (lo : Nat) (R : List Int), ls = m ++ r -> rin z lo R -> z.M.length = w.bodies.length ->
  ∃ lo' R', rin ((r.map fun x => methM (clAt w x) n).foldl rch z) lo' R' /\ E.L 34 38 (rcV C S ++ [.int .i64 n, .ro 1 (bc.map (AV.int .i64)), .int .i64 bc.length, .int .i64 i, .sl 60005 0 ls.length, .int .i64 ls.length, .int .i64 m.length]) (rfH w z C S ls lo R) = some ((.exit 12, rcV C S ++ [.int .i64 n, .ro 1 (bc.map (AV.int .i64)), .int .i64 bc.length, .int .i64 i, .sl 60005 0 ls.length, .int .i64 ls.length, .int .i64 ls.length], rfH w ((r.map fun x => methM (clAt w x) n).foldl rch z) C S ls lo' R'), True) := by
 intro r
 induction r with
 | nil =>
  intro m z lo R h hi _
  rw [List.append_nil] at h
  subst h
  refine ⟨lo, R, hi, ?_⟩
  have q : ((ls.length : Int) < ls.length) = False := eq_false (by omega)
  rw [l34_38]
  simp (maxSteps := 100000000) only [ivc, anf, nilR, eq_self, Nat.reduceEqDiff, Nat.reduceLT, Nat.reduceLeDiff, Nat.reduceAdd, Nat.reduceBEq, reduceCtorEq, ↓reduceIte, tyb, rcV, f73V, rfH, bR, iR, wdV, q, List.foldl_nil]
 | cons x r ih =>
  intro m z lo R h hi hx
  have hn : m.length + (r.length + 1) = ls.length := by rw [h]; simp
  have hi' : (m.length : Int) < ls.length := by omega
  have hg := getD_map (f := AV.int .i64) (show ls[m.length]? = some x by rw [h]; simp)
  have hw : IntKind.i64.wrap ((m.length : Int) + 1) = m.length + 1 := wrap_id (by omega) (by omega)
  have hc : (0 ≤ (m.length : Int) /\ (m.length : Int) < ls.length) = True := eq_true (by omega)
  obtain ⟨x0, x1⟩ := hls x (by rw [h]; simp)
  have hk := clAt_some x0 x1
  have hc0 := List.mem_of_getElem? hk
  have me := method_ev (w := w) (n := n) hk (by have := g.len _ hc0; omega) (g.asc _ hc0) (fun e he => by
   have := (g.ent _ hc0 e he).1
   have h1 := hn5.1
   have h2 := hn5.2
   unfold i64r; omega)
  rw [show ((x.toNat : Nat) : Int) = x by omega] at me
  have hlt := meth_lt g hc0 (n := n)
  obtain ⟨lo1, R1, hi1, cc⟩ := rc73 (n := methM (clAt w x) n) hi (by rw [hx]; exact hlt)
  have hM : (rch z (methM (clAt w x) n)).M.length = z.M.length := rch_len
  obtain ⟨lo2, R2, hi2, ih'⟩ := ih (m ++ [x]) (rch z (methM (clAt w x) n)) lo1 R1 (by simp [h]) hi1 (hM.trans hx)
  rw [List.map_cons, List.foldl_cons]
  refine ⟨lo2, R2, hi2, ?_⟩
  generalize methM (clAt w x) n = y at *
  generalize rch z y = z1 at *
  generalize (r.map fun x => methM (clAt w x) n).foldl rch z1 = z2 at *
  simp only [List.length_append, List.length_cons, List.length_nil, Nat.zero_add, Int.natCast_add, Int.cast_ofNat_Int, rcV, f73V, rfH, bR, iR, wdV, bxH, bxO, List.cons_append, List.nil_append] at ih' cc me
  rw [l34_38]
  simp (maxSteps := 100000000) only [ivc, anf, nilR, eq_self, Nat.reduceEqDiff, Nat.reduceLT, Nat.reduceLeDiff, Nat.reduceAdd, Nat.reduceMul, Nat.reduceBEq, reduceCtorEq, ↓reduceIte, tyb, rcV, f73V, rfH, bR, iR, wdV, hi', hg, hw, me, cc, ih']
  exact some_true (by omega)
def stS (w : Wd) (C : List Bool) (y : Rs × List Bool) (n : Int) : Rs × List Bool :=
 if getB y.2 n.toNat = false then (((lsM C 0).map fun x => methM (clAt w x) n).foldl rch y.1, y.2.set n.toNat true) else y
theorem stS_len {w : Wd} {C : List Bool} {y : Rs × List Bool} {n : Int} : (stS w C y n).1.M.length = y.1.M.length /\ (stS w C y n).2.length = y.2.length := by
 unfold stS
 split
 ·exact ⟨fold_len, by simp⟩
 ·exact ⟨rfl, rfl⟩
theorem rc33_loop {w : Wd} {C : List Bool} {l : List Int} (g : Good w) (hl : l.length ≤ 1000000) (hC : C.length = w.classes.length) : ∀ (r m : List Int) (z : Rs) (S : List Bool) (lo : Nat) (R : List Int), l = m ++ r -> rin z lo R -> z.M.length = w.bodies.length -> S.length = 500 -> (∀ x ∈ r, selN x) ->
  ∃ lo' R', rin (r.foldl (stS w C) (z, S)).1 lo' R' /\ E.L 34 33 (rcV C S ++ [.ro 1 (l.map (AV.int .i64)), .int .i64 l.length, .int .i64 m.length]) (rcH w z C S lo R) = some ((.exit 10, rcV C (r.foldl (stS w C) (z, S)).2 ++ [.ro 1 (l.map (AV.int .i64)), .int .i64 l.length, .int .i64 l.length], rcH w (r.foldl (stS w C) (z, S)).1 C (r.foldl (stS w C) (z, S)).2 lo' R'), True) := by
 intro r
 induction r with
 | nil =>
  intro m z S lo R h hi _ _ _
  rw [List.append_nil] at h
  subst h
  refine ⟨lo, R, hi, ?_⟩
  have q : ((l.length : Int) < l.length) = False := eq_false (by omega)
  rw [l34_33]
  simp (maxSteps := 100000000) only [ivc, anf, nilR, eq_self, Nat.reduceEqDiff, Nat.reduceLT, Nat.reduceLeDiff, Nat.reduceAdd, Nat.reduceBEq, reduceCtorEq, ↓reduceIte, tyb, rcV, f73V, rcH, bR, iR, wdV, q, List.foldl_nil]
 | cons x r ih =>
  intro m z S lo R h hi hM hS hx
  have hn : m.length + (r.length + 1) = l.length := by rw [h]; simp
  have hi' : (m.length : Int) < l.length := by omega
  have hg := getD_map (f := AV.int .i64) (show l[m.length]? = some x by rw [h]; simp)
  have hw : IntKind.i64.wrap ((m.length : Int) + 1) = m.length + 1 := wrap_id (by omega) (by omega)
  have hc : (0 ≤ (m.length : Int) /\ (m.length : Int) < l.length) = True := eq_true (by omega)
  have hxs := hx x (by simp)
  obtain ⟨hx0, hx1⟩ := hxs
  have q : (0 ≤ x /\ x < S.length) = True := eq_true ⟨hx0, by omega⟩
  have k1 := getBo (l := S) (i := x.toNat) (by omega)
  have gc := g.nc
  cases hb : getB S x.toNat with
  | true =>
   have e : stS w C (z, S) x = (z, S) := if_neg (by rw [hb]; simp)
   obtain ⟨lo2, R2, hi2, ih'⟩ := ih (m ++ [x]) z S lo R (by simp [h]) hi hM hS (fun y hy => hx y (by simp [hy]))
   rw [List.foldl_cons, e]
   refine ⟨lo2, R2, hi2, ?_⟩
   rw [hb] at k1
   generalize r.foldl (stS w C) (z, S) = z2 at *
   simp only [List.length_append, List.length_cons, List.length_nil, Nat.zero_add, Int.natCast_add, Int.cast_ofNat_Int, rcV, f73V, rcH, bR, iR, wdV, List.cons_append, List.nil_append] at ih'
   rw [l34_33]
   simp (maxSteps := 100000000) only [ivc, anf, vop, nilR, eq_self, Nat.reduceEqDiff, Nat.reduceLT, Nat.reduceLeDiff, Nat.reduceAdd, Nat.reduceBEq, reduceCtorEq, ↓reduceIte, tyb, rcV, f73V, rcH, bR, iR, wdV, hi', hg, hw, q, k1, ih']
   exact some_true (by omega)
  | false =>
   have e : stS w C (z, S) x = (((lsM C 0).map fun y => methM (clAt w y) x).foldl rch z, S.set x.toNat true) := if_pos hb
   have ls := list_ev (l := C) (by omega)
   have hls : ∀ y ∈ lsM C 0, 0 ≤ y /\ y < w.classes.length := fun y hy => by
    obtain ⟨a, b, _⟩ := ls_mem.1 hy
    exact ⟨a, by omega⟩
   have hll := lsM_len (l := C) (n := 0)
   obtain ⟨lo1, R1, hi1, lp⟩ := rc38_loop (C := C) (S := S.set x.toNat true) (bc := l) (i := m.length) (n := x) g ⟨hx0, hx1⟩ (by omega) hls (lsM C 0) [] z lo R rfl hi hM
   have hM1 : (((lsM C 0).map fun y => methM (clAt w y) x).foldl rch z).M.length = z.M.length := fold_len
   obtain ⟨lo2, R2, hi2, ih'⟩ := ih (m ++ [x]) (((lsM C 0).map fun y => methM (clAt w y) x).foldl rch z) (S.set x.toNat true) lo1 R1 (by simp [h]) hi1 (hM1.trans hM) (by rw [List.length_set]; exact hS) (fun y hy => hx y (by simp [hy]))
   rw [List.foldl_cons, e]
   refine ⟨lo2, R2, hi2, ?_⟩
   rw [hb] at k1
   generalize lsM C 0 = L at *
   generalize (L.map fun y => methM (clAt w y) x).foldl rch z = z1 at *
   generalize r.foldl (stS w C) (z1, S.set x.toNat true) = z2 at *
   simp only [List.length_append, List.length_cons, List.length_nil, Nat.zero_add, Int.natCast_add, Int.cast_ofNat_Int, rcV, f73V, rfH, rcH, bR, iR, wdV, List.cons_append, List.nil_append, List.length_set] at ih' ls lp
   rw [l34_33]
   simp (maxSteps := 100000000) only [ivc, anf, vop, vlen, vbuiltin, nilR, eq_self, Nat.reduceEqDiff, Nat.reduceLT, Nat.reduceLeDiff, Nat.reduceAdd, Nat.reduceMul, Nat.reduceBEq, reduceCtorEq, ↓reduceIte, tyb, rcV, f73V, rcH, bR, iR, wdV, hi', hg, hw, q, k1, set_map, ls, lp, ih']
   exact some_true (by omega)
def mu (z : Rs) : Nat := z.M.length - z.M.count true + z.Q.length
theorem mu_rch {z : Rs} {n : Int} (hn : n < z.M.length) : mu (rch z n) = mu z := by
 unfold rch
 split
 ·rename_i h
  have hc := cnt_true (M := z.M) (n := n.toNat) (by omega) h.2
  have hl := List.count_le_length (a := true) (l := z.M.set n.toNat true)
  rw [List.length_set] at hl
  unfold mu
  simp only [List.length_set, List.length_append, List.length_cons, List.length_nil, hc]
  omega
 ·rfl
theorem mu_fold : ∀ {l : List Int} {z : Rs}, (∀ x ∈ l, x < z.M.length) -> mu (l.foldl rch z) = mu z
 | [], _, _ => rfl
 | x :: l, z, h => by
  rw [List.foldl_cons, mu_fold fun y hy => by rw [rch_len]; exact h y (by simp [hy]), mu_rch (h x (by simp))]
theorem mu_stC {w : Wd} (g : Good w) {S : List Bool} {y : Rs × List Bool} {n : Int} (hM : y.1.M.length = w.bodies.length) (h : 0 ≤ n /\ n < w.classes.length) : mu (stC w S y n).1 = mu y.1 := by
 unfold stC
 split
 ·refine mu_fold fun x hx => ?_
  obtain ⟨a, _, rfl⟩ := List.mem_map.1 hx
  rw [hM]
  exact meth_lt g (List.mem_of_getElem? (clAt_some h.1 h.2))
 ·rfl
theorem mu_stS {w : Wd} (g : Good w) {C : List Bool} {y : Rs × List Bool} {n : Int} (hM : y.1.M.length = w.bodies.length) (hC : C.length = w.classes.length) : mu (stS w C y n).1 = mu y.1 := by
 unfold stS
 split
 ·refine mu_fold fun x hx => ?_
  obtain ⟨a, ha, rfl⟩ := List.mem_map.1 hx
  obtain ⟨a0, a1, _⟩ := ls_mem.1 ha
  rw [hM]
  exact meth_lt g (List.mem_of_getElem? (clAt_some a0 (by omega)))
 ·rfl
theorem foldC {w : Wd} (g : Good w) {S : List Bool} : ∀ {l : List Int} {y : Rs × List Bool}, y.1.M.length = w.bodies.length -> (∀ x ∈ l, 0 ≤ x /\ x < w.classes.length) -> mu (l.foldl (stC w S) y).1 = mu y.1 /\ (l.foldl (stC w S) y).1.M.length = y.1.M.length /\ (l.foldl (stC w S) y).2.length = y.2.length
 | [], _, _, _ => ⟨rfl, rfl, rfl⟩
 | x :: l, y, hM, h => by
  obtain ⟨a, b⟩ := stC_len (w := w) (S := S) (y := y) (n := x)
  obtain ⟨c, d, e⟩ := foldC g (S := S) (l := l) (y := stC w S y x) (a.trans hM) (fun z hz => h z (by simp [hz]))
  rw [List.foldl_cons]
  exact ⟨c.trans (mu_stC g hM (h x (by simp))), d.trans a, e.trans b⟩
theorem foldS {w : Wd} (g : Good w) {C : List Bool} (hC : C.length = w.classes.length) : ∀ {l : List Int} {y : Rs × List Bool}, y.1.M.length = w.bodies.length -> mu (l.foldl (stS w C) y).1 = mu y.1 /\ (l.foldl (stS w C) y).1.M.length = y.1.M.length /\ (l.foldl (stS w C) y).2.length = y.2.length
 | [], _, _ => ⟨rfl, rfl, rfl⟩
 | x :: l, y, hM => by
  obtain ⟨a, b⟩ := stS_len (w := w) (C := C) (y := y) (n := x)
  obtain ⟨c, d, e⟩ := foldS g hC (l := l) (y := stS w C y x) (a.trans hM)
  rw [List.foldl_cons]
  exact ⟨c.trans (mu_stS g hM hC), d.trans a, e.trans b⟩
def bdAt (w : Wd) (q : Int) : Bd := w.bodies.getD q.toNat ⟨[], [], []⟩
structure Ry where
 z : Rs
 C : List Bool
 S : List Bool
def stB (w : Wd) (y : Ry) (q : Int) (Q : List Int) : Ry :=
 ⟨((bdAt w q).ss.foldl (stS w ((bdAt w q).cs.foldl (stC w y.S) ((bdAt w q).ms.foldl rch ⟨y.z.M, Q⟩, y.C)).2) (((bdAt w q).cs.foldl (stC w y.S) ((bdAt w q).ms.foldl rch ⟨y.z.M, Q⟩, y.C)).1, y.S)).1,
  ((bdAt w q).cs.foldl (stC w y.S) ((bdAt w q).ms.foldl rch ⟨y.z.M, Q⟩, y.C)).2,
  ((bdAt w q).ss.foldl (stS w ((bdAt w q).cs.foldl (stC w y.S) ((bdAt w q).ms.foldl rch ⟨y.z.M, Q⟩, y.C)).2) (((bdAt w q).cs.foldl (stC w y.S) ((bdAt w q).ms.foldl rch ⟨y.z.M, Q⟩, y.C)).1, y.S)).2⟩
def runR (w : Wd) : Nat -> Ry -> Ry
 | 0, y => y
 | k + 1, y => match y.z.Q with
  | [] => y
  | q :: Q => runR w k (stB w y q Q)
structure RyOk (w : Wd) (y : Ry) : Prop where
 m : y.z.M.length = w.bodies.length
 c : y.C.length = w.classes.length
 s : y.S.length = 500
theorem rc13_loop {w : Wd} (g : Good w) : ∀ (k : Nat) (y : Ry) (lo : Nat) (R : List Int), mu y.z ≤ k -> rin y.z lo R -> RyOk w y ->
  ∃ lo' R', (runR w k y).z.Q = [] /\ RyOk w (runR w k y) /\ E.L 34 13 (rcV y.C y.S) (rcH w y.z y.C y.S lo R) = some ((.exit 2, rcV (runR w k y).C (runR w k y).S, rcH w (runR w k y).z (runR w k y).C (runR w k y).S lo' R'), True) := by
 intro k
 induction k with
 | zero =>
  intro y lo R hm hi ok
  have hQ : y.z.Q.length = 0 := by unfold mu at hm; omega
  refine ⟨lo, R, List.eq_nil_of_length_eq_zero hQ, ok, ?_⟩
  rw [show runR w 0 y = y from rfl, l34_13]
  simp (maxSteps := 100000000) only [ivc, anf, vlen, vbuiltin, nilR, eq_self, Nat.reduceEqDiff, Nat.reduceLT, Nat.reduceLeDiff, Nat.reduceAdd, Nat.reduceBEq, reduceCtorEq, ↓reduceIte, tyb, rcV, f73V, rcH, bR, iR, wdV, hQ, Int.lt_irrefl]
 | succ k ih =>
  intro y lo R hm hi ok
  cases hq : y.z.Q with
  | nil =>
   have e : runR w (k + 1) y = y := by rw [runR, hq]
   rw [e]
   refine ⟨lo, R, hq, ok, ?_⟩
   rw [l34_13]
   simp (maxSteps := 100000000) only [ivc, anf, vlen, vbuiltin, nilR, eq_self, Nat.reduceEqDiff, Nat.reduceLT, Nat.reduceLeDiff, Nat.reduceAdd, Nat.reduceBEq, reduceCtorEq, ↓reduceIte, tyb, rcV, f73V, rcH, bR, iR, wdV, hq, Int.lt_irrefl]
  | cons q Q =>
   have e : runR w (k + 1) y = runR w k (stB w y q Q) := by rw [runR, hq]
   obtain ⟨h1, h2, h3, h4, h5⟩ := hi
   obtain ⟨q0, q1⟩ := h5 q (by rw [hq]; simp)
   rw [ok.m] at q1
   have hbd : w.bodies[q.toNat]? = some (bdAt w q) := by
    unfold bdAt
    rw [List.getD_eq_getElem?_getD, List.getElem?_eq_getElem (by omega)]; rfl
   have hbm := List.mem_of_getElem? hbd
   obtain ⟨br1, br2, br3⟩ := g.br _ hbm
   obtain ⟨bl1, bl2, bl3⟩ := g.bl _ hbm
   rw [hq] at h1 h3
   rw [List.length_cons] at h3
   have hi1 : rin ⟨y.z.M, Q⟩ (lo + 1) R := ⟨by
    rw [<- List.drop_drop, h1]; rfl, h2, by dsimp only; omega, h4, fun x hx => h5 x (by rw [hq]; simp [hx])⟩
   have okm := ok.m
   obtain ⟨lo2, R2, hi2, lp1⟩ := rc17_loop (w := w) (b := bdAt w q) (C := y.C) (S := y.S) (l := (bdAt w q).ms) (by omega) (bdAt w q).ms [] ⟨y.z.M, Q⟩ (lo + 1) R rfl hi1 (fun x hx => by dsimp only; rw [okm]; exact (br2 x hx).2)
   have l1 : ((bdAt w q).ms.foldl rch ⟨y.z.M, Q⟩).M.length = w.bodies.length := fold_len.trans okm
   have m1 : mu ((bdAt w q).ms.foldl rch ⟨y.z.M, Q⟩) = mu ⟨y.z.M, Q⟩ := mu_fold fun x hx => by dsimp only; rw [okm]; exact (br2 x hx).2
   have hst : stB w y q Q = ⟨((bdAt w q).ss.foldl (stS w ((bdAt w q).cs.foldl (stC w y.S) ((bdAt w q).ms.foldl rch ⟨y.z.M, Q⟩, y.C)).2) (((bdAt w q).cs.foldl (stC w y.S) ((bdAt w q).ms.foldl rch ⟨y.z.M, Q⟩, y.C)).1, y.S)).1,
    ((bdAt w q).cs.foldl (stC w y.S) ((bdAt w q).ms.foldl rch ⟨y.z.M, Q⟩, y.C)).2,
    ((bdAt w q).ss.foldl (stS w ((bdAt w q).cs.foldl (stC w y.S) ((bdAt w q).ms.foldl rch ⟨y.z.M, Q⟩, y.C)).2) (((bdAt w q).cs.foldl (stC w y.S) ((bdAt w q).ms.foldl rch ⟨y.z.M, Q⟩, y.C)).1, y.S)).2⟩ := rfl
   have m0 : mu ⟨y.z.M, Q⟩ + 1 = mu y.z := by
    unfold mu
    rw [hq]
    simp only [List.length_cons]
    omega
   generalize (bdAt w q).ms.foldl rch ⟨y.z.M, Q⟩ = z1 at *
   obtain ⟨lo3, R3, hi3, lp2⟩ := rc22_loop (w := w) (b := bdAt w q) (S := y.S) (l := (bdAt w q).cs) g (by omega) ok.s (bdAt w q).cs [] z1 y.C lo2 R2 rfl hi2 l1 ok.c br3
   obtain ⟨m2, l2, c2⟩ := foldC g (S := y.S) (l := (bdAt w q).cs) (y := (z1, y.C)) l1 br3
   dsimp only at m2 l2 c2
   have okc := ok.c
   generalize (bdAt w q).cs.foldl (stC w y.S) (z1, y.C) = z2 at *
   obtain ⟨lo4, R4, hi4, lp3⟩ := rc33_loop (w := w) (C := z2.2) (l := (bdAt w q).ss) g (by omega) (c2.trans okc) (bdAt w q).ss [] z2.1 y.S lo3 R3 rfl hi3 (l2.trans l1) ok.s br1
   obtain ⟨m3, l3, c3⟩ := foldS g (C := z2.2) (c2.trans okc) (l := (bdAt w q).ss) (y := (z2.1, y.S)) (l2.trans l1)
   dsimp only at m3 l3 c3
   generalize (bdAt w q).ss.foldl (stS w z2.2) (z2.1, y.S) = z3 at *
   obtain ⟨lo5, R5, k1, k2, ih'⟩ := ih ⟨z3.1, z2.2, z3.2⟩ lo4 R4 (by dsimp only; omega) hi4 ⟨l3.trans (l2.trans l1), c2.trans okc, c3.trans ok.s⟩
   rw [e, hst]
   refine ⟨lo5, R5, k1, k2, ?_⟩
   generalize runR w k ⟨z3.1, z2.2, z3.2⟩ = y2 at *
   have hg := getD_map (f := bdV) hbd
   have hR : (R.map (AV.int .i64)).getD lo .junk = .int .i64 q := by
    have hlo : R[lo]? = some q := by
     have := congrArg (·[0]?) h1
     simpa [List.getElem?_drop] using this
    exact getD_map hlo
   generalize bdAt w q = b at *
   have p1 : (0 < ((Q.length : Int) + 1)) = True := eq_true (by omega)
   have p2 : (0 ≤ q /\ q < w.bodies.length) = True := eq_true ⟨q0, q1⟩
   have p3 : ((Q.length : Int) + 1).toNat - 1 = Q.length := by omega
   simp only [List.length_nil, Int.natCast_zero, rcV, f73V, rcH, rdH, bR, iR, wdV, bdV, List.cons_append, List.nil_append] at lp1 lp2 lp3 ih'
   rw [l34_13]
   simp (maxSteps := 100000000) only [ivc, anf, vop, vslice, vlen, vbuiltin, nilR, salloc, eq_self, Nat.reduceEqDiff, Nat.reduceLT, Nat.reduceLeDiff, Nat.reduceAdd, Nat.reduceBEq, Int.reduceLE, Int.reduceToNat, reduceCtorEq, implies_true, ↓reduceIte, tyb, rcV, f73V, rcH, bR, iR, wdV, bdV, hq, p1, p2, p3, hR, hg, lp1, lp2, lp3, ih']
   exact some_true (by omega)
def fls (n : Nat) : List Bool := List.replicate n false
def rz0 (w : Wd) : Rs := w.roots.foldl rch ⟨fls w.bodies.length, []⟩
def reaM (w : Wd) : Ry := runR w (mu (rz0 w)) ⟨rz0 w, fls w.classes.length, fls 500⟩
theorem rep_fls {n : Nat} : List.replicate n (AV.bool false) = (fls n).map AV.bool := List.map_replicate.symm
theorem fls500 : AV.bool false :: (fls 499).map AV.bool = (fls 500).map AV.bool := rfl
theorem fls_len {n : Nat} : (fls n).length = n := List.length_replicate
theorem reach_ev {w : Wd} : E.F 34 [wdV w] [] = some ((if ckM w = 0 then .tup [.ro 1 ((lsM (reaM w).z.M 0).map (AV.int .i64)), .ro 1 ((lsM (reaM w).C 0).map (AV.int .i64)), .ro 1 ((lsM (reaM w).S 0).map (AV.int .i64)), .int .i64 0] else .tup [.ro 1 [], .ro 1 [], .ro 1 [], .int .i64 (ckM w)], []), True) := by
 have h1 := check_ev (w := w)
 rw [e34]
 by_cases h : ckM w = 0
 ·rw [if_pos h]
  rw [h] at h1
  have g := good_of h
  have gb := g.nb
  have gc := g.nc
  have gr := g.nr
  have hi0 : rin ⟨fls w.bodies.length, []⟩ 0 [] := ⟨rfl, by simp, by simp, by rw [fls_len]; exact gb, by simp⟩
  obtain ⟨lo1, R1, hi1, lp1⟩ := rc9_loop (w := w) (C := fls w.classes.length) (S := fls 500) (l := w.roots) (by omega) w.roots [] ⟨fls w.bodies.length, []⟩ 0 [] rfl hi0 (fun x hx => by dsimp only; rw [fls_len]; exact (g.rr x hx).2)
  have ok1 : RyOk w ⟨rz0 w, fls w.classes.length, fls 500⟩ := ⟨fold_len.trans fls_len, fls_len, fls_len⟩
  rw [show w.roots.foldl rch ⟨fls w.bodies.length, []⟩ = rz0 w from rfl] at lp1 hi1
  obtain ⟨lo2, R2, k1, k2, lp2⟩ := rc13_loop g (mu (rz0 w)) ⟨rz0 w, fls w.classes.length, fls 500⟩ lo1 R1 (Nat.le_refl _) hi1 ok1
  rw [show runR w (mu (rz0 w)) ⟨rz0 w, fls w.classes.length, fls 500⟩ = reaM w from rfl] at k1 k2 lp2
  have ml := ok1.m
  generalize reaM w = y at *
  dsimp only at ml
  generalize rz0 w = z1 at *
  obtain ⟨ym, yc, ys⟩ := k2
  have t1 := list_ev (l := y.z.M) (by omega)
  have t2 := list_ev (l := y.C) (by omega)
  have t3 := list_ev (l := y.S) (by omega)
  simp only [List.length_nil, Int.natCast_zero, fls_len, k1, rcV, f73V, rcH, bR, iR, wdV, List.map_nil, List.cons_append, List.nil_append] at h1 lp1 lp2 t1 t2 t3
  have nb0 : ((w.bodies.length : Int) < 0) = False := eq_false (by omega)
  have nc0 : ((w.classes.length : Int) < 0) = False := eq_false (by omega)
  simp (maxSteps := 100000000) only [ivc, anf, vop, vlen, vbuiltin, nilR, salloc, eq_self, Nat.reduceEqDiff, Nat.reduceLT, Nat.reduceLeDiff, Nat.reduceAdd, Nat.reduceMul, Nat.reduceBEq, Int.reduceLE, Int.reduceToNat, Int.reduceMul, reduceCtorEq, ↓reduceIte, tyb, ↓rep_fls, rep_fls, fls500, wdV, h1, lp1, lp2, t1, t2, t3]
  exact some_true (by omega)
 ·rw [if_neg h]
  have h' : (ckM w != 0) = true := bne_iff_ne.2 h
  simp only [wdV] at h1
  simp (maxSteps := 100000000) only [ivc, anf, nilR, salloc, eq_self, Nat.reduceEqDiff, Nat.reduceLT, Nat.reduceLeDiff, Nat.reduceAdd, Nat.reduceBEq, ↓reduceIte, tyb, wdV, h1, h']
theorem nur_loop {l : List Bool} (hl : l.length ≤ 1000000) : ∀ (r m : List Bool) (o : List Int), l = m ++ r -> o.length ≤ m.length ->
  E.L 64 4 [.sl 100000 0 l.length, .sl 60000 0 o.length, .int .i64 m.length] [(100000, bR l), (60000, iR o)] = some ((.exit 0, [.sl 100000 0 l.length, .sl 60000 0 (o ++ lsM r m.length).length, .int .i64 l.length], [(100000, bR l), (60000, iR (o ++ lsM r m.length))]), True) := by
 intro r
 induction r with
 | nil =>
  intro m o h ho
  rw [List.append_nil] at h
  subst h
  have q : ((l.length : Int) < l.length) = False := eq_false (by omega)
  rw [l64_4]
  simp (maxSteps := 100000000) only [ivc, anf, vlen, vbuiltin, nilR, eq_self, Nat.reduceEqDiff, Nat.reduceLT, Nat.reduceLeDiff, Nat.reduceAdd, Nat.reduceBEq, reduceCtorEq, ↓reduceIte, tyb, iR, bR, q, lsM]
 | cons b r ih =>
  intro m o h ho
  have hn : m.length + (r.length + 1) = l.length := by rw [h]; simp
  have hi' : (m.length : Int) < l.length := by omega
  have hg := getD_map (f := AV.bool) (show l[m.length]? = some b by rw [h]; simp)
  have hw : IntKind.i64.wrap ((m.length : Int) + 1) = m.length + 1 := wrap_id (by omega) (by omega)
  have hc : (0 ≤ (m.length : Int) /\ (m.length : Int) < l.length) = True := eq_true (by omega)
  cases b with
  | true =>
   have ih' := ih (m ++ [true]) (o ++ [(m.length : Int)]) (by simp [h]) (by simp; omega)
   rw [show lsM (true :: r) (m.length : Int) = (m.length : Int) :: lsM r (m.length + 1) from rfl]
   rw [List.append_assoc] at ih'
   simp only [List.length_append, List.length_cons, List.length_nil, Nat.zero_add, Int.natCast_add, Int.cast_ofNat_Int, iR, bR, List.map_append, List.map_cons, List.map_nil, List.cons_append, List.nil_append] at ih'
   rw [l64_4]
   simp (maxSteps := 100000000) only [ivc, anf, vlen, vbuiltin, nilR, salloc, sappend, eq_self, Nat.reduceEqDiff, Nat.reduceLT, Nat.reduceLeDiff, Nat.reduceAdd, Nat.reduceBEq, reduceCtorEq, ↓reduceIte, tyb, iR, bR, hi', hg, hw, ih']
   exact some_true (by omega)
  | false =>
   have ih' := ih (m ++ [false]) o (by simp [h]) (by simp; omega)
   rw [show lsM (false :: r) (m.length : Int) = lsM r (m.length + 1) from rfl]
   simp only [List.length_append, List.length_cons, List.length_nil, Nat.zero_add, Int.natCast_add, Int.cast_ofNat_Int, iR, bR] at ih'
   rw [l64_4]
   simp (maxSteps := 100000000) only [ivc, anf, vlen, vbuiltin, nilR, eq_self, Nat.reduceEqDiff, Nat.reduceLT, Nat.reduceLeDiff, Nat.reduceAdd, Nat.reduceBEq, reduceCtorEq, ↓reduceIte, tyb, iR, bR, hi', hg, hw, ih']
   exact some_true (by omega)
theorem numbersr_ev {l : List Bool} (hl : l.length ≤ 1000000) : E.F 64 [.sl 100000 0 l.length] [(100000, bR l)] = some ((.ro 1 ((lsM l 0).map (AV.int .i64)), [(100000, bR l)]), True) := by
 have h := nur_loop hl l [] [] rfl (Nat.le_refl _)
 have hn := lsM_len (l := l) (n := 0)
 simp only [List.length_nil, Int.natCast_zero, List.nil_append, iR, bR, List.map_nil] at h
 generalize lsM l 0 = L at h hn ⊢
 have tk : (L.map (AV.int .i64)).take L.length = L.map (AV.int .i64) := List.take_of_length_le (by simp)
 rw [e64]
 simp (maxSteps := 100000000) only [ivc, anf, eq_self, Nat.reduceEqDiff, Nat.reduceLT, Nat.reduceLeDiff, Nat.reduceAdd, Nat.reduceBEq, reduceCtorEq, ↓reduceIte, bR, h, tk]
 try exact some_true (by omega)
theorem s4_loop {M : List Bool} {L : AV} (hl : M.length ≤ 1000000) : ∀ (r m : List Bool), M = m ++ r -> ∀ l : List Int, L = .ro 1 (l.map (AV.int .i64)) ->
  E.L 76 4 [.sl 100000 0 M.length, L, .sl 60000 0 m.length, .int .i64 m.length] [(100000, bR M), (60000, bR m)] = some ((.exit 0, [.sl 100000 0 M.length, L, .sl 60000 0 M.length, .int .i64 M.length], [(100000, bR M), (60000, bR M)]), True) := by
 intro r
 induction r with
 | nil =>
  intro m h l hL
  rw [List.append_nil] at h
  subst h
  subst hL
  have q : ((M.length : Int) < M.length) = False := eq_false (by omega)
  rw [l76_4]
  simp (maxSteps := 100000000) only [ivc, anf, vlen, vbuiltin, nilR, eq_self, Nat.reduceEqDiff, Nat.reduceLT, Nat.reduceLeDiff, Nat.reduceAdd, Nat.reduceBEq, reduceCtorEq, ↓reduceIte, tyb, bR, q]
 | cons b r ih =>
  intro m h l hL
  have hn : m.length + (r.length + 1) = M.length := by rw [h]; simp
  have hi' : (m.length : Int) < M.length := by omega
  have hg := getD_map (f := AV.bool) (show M[m.length]? = some b by rw [h]; simp)
  have hw : IntKind.i64.wrap ((m.length : Int) + 1) = m.length + 1 := wrap_id (by omega) (by omega)
  have hc : (0 ≤ (m.length : Int) /\ (m.length : Int) < M.length) = True := eq_true (by omega)
  have ih' := ih (m ++ [b]) (by simp [h]) l hL
  subst hL
  simp only [List.length_append, List.length_cons, List.length_nil, Nat.zero_add, Int.natCast_add, Int.cast_ofNat_Int, bR, List.map_append, List.map_cons, List.map_nil] at ih'
  rw [l76_4]
  simp (maxSteps := 100000000) only [ivc, anf, vlen, vbuiltin, nilR, salloc, sappend, eq_self, Nat.reduceEqDiff, Nat.reduceLT, Nat.reduceLeDiff, Nat.reduceAdd, Nat.reduceBEq, reduceCtorEq, ↓reduceIte, tyb, bR, hi', hg, hw, ih']
  exact some_true (by omega)
def setL (M : List Bool) (l : List Int) : List Bool := l.foldl (fun M x => M.set x.toNat true) M
theorem setL_len : ∀ {l : List Int} {M : List Bool}, (setL M l).length = M.length
 | [], _ => rfl
 | x :: l, M => by rw [show setL M (x :: l) = setL (M.set x.toNat true) l from rfl, setL_len, List.length_set]
theorem s8_loop {M0 : List Bool} {l : List Int} {n : Nat} (hl : l.length ≤ 1000000) (hr : ∀ x ∈ l, 0 ≤ x /\ x < n) : ∀ (r m : List Int) (M : List Bool), l = m ++ r -> M.length = n ->
  E.L 76 8 [.ro 1 (l.map (AV.int .i64)), .sl 60000 0 n, .int .i64 m.length] [(60000, bR M), (100000, bR M0)] = some ((.exit 2, [.ro 1 (l.map (AV.int .i64)), .sl 60000 0 n, .int .i64 l.length], [(60000, bR (setL M r)), (100000, bR M0)]), True) := by
 intro r
 induction r with
 | nil =>
  intro m M h hM
  rw [List.append_nil] at h
  subst h
  have q : ((l.length : Int) < l.length) = False := eq_false (by omega)
  rw [l76_8, show setL M [] = M from rfl]
  simp (maxSteps := 100000000) only [ivc, anf, vlen, vbuiltin, nilR, eq_self, Nat.reduceEqDiff, Nat.reduceLT, Nat.reduceLeDiff, Nat.reduceAdd, Nat.reduceBEq, reduceCtorEq, ↓reduceIte, tyb, bR, q]
 | cons x r ih =>
  intro m M h hM
  have hn : m.length + (r.length + 1) = l.length := by rw [h]; simp
  have hi' : (m.length : Int) < l.length := by omega
  have hg := getD_map (f := AV.int .i64) (show l[m.length]? = some x by rw [h]; simp)
  obtain ⟨x0, x1⟩ := hr x (by rw [h]; simp)
  have hw : IntKind.i64.wrap ((m.length : Int) + 1) = m.length + 1 := wrap_id (by omega) (by omega)
  have hc : (0 ≤ (m.length : Int) /\ (m.length : Int) < l.length) = True := eq_true (by omega)
  have q3 : (0 ≤ x /\ x < n) = True := eq_true ⟨x0, x1⟩
  have g3 := getBo (l := M) (i := x.toNat) (by omega)
  have s3 : (M.map AV.bool).set x.toNat (.bool true) = (M.set x.toNat true).map AV.bool := List.map_set.symm
  have ih' := ih (m ++ [x]) (M.set x.toNat true) (by simp [h]) (by rw [List.length_set, hM])
  rw [show setL M (x :: r) = setL (M.set x.toNat true) r from rfl]
  simp only [List.length_append, List.length_cons, List.length_nil, Nat.zero_add, Int.natCast_add, Int.cast_ofNat_Int, bR] at ih'
  rw [l76_8]
  simp (maxSteps := 100000000) only [ivc, anf, vlen, vbuiltin, nilR, eq_self, Nat.reduceEqDiff, Nat.reduceLT, Nat.reduceLeDiff, Nat.reduceAdd, Nat.reduceBEq, reduceCtorEq, ↓reduceIte, tyb, bR, hi', hg, hw, q3, g3, s3, ih']
  try exact some_true (by omega)
theorem set_ev {M : List Bool} {l : List Int} (hM : M.length ≤ 1000000) (hl : l.length ≤ 1000000) (hr : ∀ x ∈ l, 0 ≤ x /\ x < M.length) :
  E.F 76 [.sl 100000 0 M.length, .ro 1 (l.map (AV.int .i64))] [(100000, bR M)] = some ((.sl 200000 0 M.length, [(200000, bR (setL M l)), (100000, bR M)]), True) := by
 have h1 := s4_loop hM M [] rfl l rfl
 have h2 := s8_loop (M0 := M) hl hr l [] M rfl rfl
 have e := setL_len (l := l) (M := M)
 generalize setL M l = R at h2 e ⊢
 simp only [List.length_nil, Int.natCast_zero, bR, List.map_nil] at h1 h2
 rw [e76]
 simp (maxSteps := 100000000) only [ivc, anf, eq_self, Nat.reduceEqDiff, Nat.reduceLT, Nat.reduceLeDiff, Nat.reduceAdd, Nat.reduceBEq, reduceCtorEq, ↓reduceIte, bR, h1, h2]
 try exact some_true (by omega)
structure Z3 where
 M : List Bool
 C : List Bool
 S : List Bool
def stBd (i : Nat) (z : Z3) (b : Bd) : Z3 := if getB z.M i = true then ⟨setL z.M b.ms, setL z.C b.cs, setL z.S b.ss⟩ else z
def passB : List Bd -> Nat -> Z3 -> Z3
 | [], _, z => z
 | b :: r, i, z => passB r (i + 1) (stBd i z b)
def stE (c : Nat) (z : Z3) (e : Et) : Z3 := if getB z.C c = true /\ getB z.S e.s.toNat = true then ⟨z.M.set e.m.toNat true, z.C, z.S⟩ else z
def passE : List (List Et) -> Nat -> Z3 -> Z3
 | [], _, z => z
 | l :: r, c, z => passE r (c + 1) (l.foldl (stE c) z)
structure Zok (nM nC nS : Nat) (z : Z3) : Prop where
 m : z.M.length = nM
 c : z.C.length = nC
 s : z.S.length = nS
theorem stBd_ok {nM nC nS : Nat} {z : Z3} {b : Bd} {i : Nat} (h : Zok nM nC nS z) : Zok nM nC nS (stBd i z b) := by
 unfold stBd
 split
 ·exact ⟨by rw [setL_len]; exact h.m, by rw [setL_len]; exact h.c, by rw [setL_len]; exact h.s⟩
 ·exact h
theorem passB_ok {nM nC nS : Nat} : ∀ {r : List Bd} {i : Nat} {z : Z3}, Zok nM nC nS z -> Zok nM nC nS (passB r i z)
 | [], _, _, h => h
 | b :: r, i, z, h => passB_ok (r := r) (i := i + 1) (z := stBd i z b) (stBd_ok h)
theorem stE_ok {nM nC nS : Nat} {z : Z3} {e : Et} {c : Nat} (h : Zok nM nC nS z) : Zok nM nC nS (stE c z e) := by
 unfold stE
 split
 ·exact ⟨by rw [List.length_set]; exact h.m, h.c, h.s⟩
 ·exact h
theorem foldE_ok {nM nC nS : Nat} {c : Nat} : ∀ {l : List Et} {z : Z3}, Zok nM nC nS z -> Zok nM nC nS (l.foldl (stE c) z)
 | [], _, h => h
 | e :: l, z, h => foldE_ok (l := l) (z := stE c z e) (stE_ok h)
theorem passE_ok {nM nC nS : Nat} : ∀ {r : List (List Et)} {c : Nat} {z : Z3}, Zok nM nC nS z -> Zok nM nC nS (passE r c z)
 | [], _, _, h => h
 | l :: r, c, z, h => passE_ok (r := r) (c := c + 1) (z := l.foldl (stE c) z) (foldE_ok h)
def rrO (w : Wd) (z : Z3) : HL := [(60000, ⟨true, 3, [wdV w]⟩), (60001, iR []), (60002, iR []), (60003, iR []), (60004, bR z.M), (60005, bR z.C), (60006, bR z.S)]
def rrV (nM nC nS : Nat) (t : List AV) : List AV := .ptr 60000 0 0 :: .sl 60001 0 0 :: .sl 60002 0 0 :: .sl 60003 0 0 :: .int .i64 0 :: .sl 60004 0 nM :: .sl 60005 0 nC :: .sl 60006 0 nS :: t
theorem rr9_loop {w : Wd} {bf : Int} {nM nC nS : Nat} (hl : w.bodies.length ≤ 1000) (hn : nM = w.bodies.length) (hC : nC ≤ 1000) (hS : nS ≤ 1000)
  (hb : ∀ b ∈ w.bodies, (b.ms.length ≤ 1000 /\ b.cs.length ≤ 1000 /\ b.ss.length ≤ 1000) /\ (∀ x ∈ b.ms, 0 ≤ x /\ x < nM) /\ (∀ x ∈ b.cs, 0 ≤ x /\ x < nC) /\ ∀ x ∈ b.ss, 0 ≤ x /\ x < nS) : ∀ (r m : List Bd) (z : Z3), w.bodies = m ++ r -> Zok nM nC nS z ->
  E.L 35 9 (rrV nM nC nS [.int .i64 bf, .int .i64 m.length]) (rrO w z) = some ((.exit 2, rrV nM nC nS [.int .i64 bf, .int .i64 w.bodies.length], rrO w (passB r m.length z)), True) := by
 intro r
 induction r with
 | nil =>
  intro m z h hz
  rw [List.append_nil] at h
  have q : ((w.bodies.length : Int) < w.bodies.length) = False := eq_false (by omega)
  rw [<- h, l35_9, show passB [] w.bodies.length z = z from rfl]
  simp (maxSteps := 100000000) only [ivc, anf, vop, vlen, vbuiltin, nilR, eq_self, Nat.reduceEqDiff, Nat.reduceLT, Nat.reduceLeDiff, Nat.reduceAdd, Nat.reduceBEq, reduceCtorEq, ↓reduceIte, tyb, rrV, rrO, iR, bR, wdV, q]
 | cons b r ih =>
  intro m z h hz
  have hn' : m.length + (r.length + 1) = w.bodies.length := by rw [h]; simp
  have hi' : (m.length : Int) < w.bodies.length := by omega
  have hm : w.bodies[m.length]? = some b := by rw [h]; simp
  have hg := getD_map (f := bdV) hm
  have hw : IntKind.i64.wrap ((m.length : Int) + 1) = m.length + 1 := wrap_id (by omega) (by omega)
  have hc : (0 ≤ (m.length : Int) /\ (m.length : Int) < w.bodies.length) = True := eq_true (by omega)
  have hc2 : (0 ≤ (m.length : Int) /\ (m.length : Int) < nM) = True := eq_true (by omega)
  obtain ⟨⟨l1, l2, l3⟩, r1, r2, r3⟩ := hb b (List.mem_of_getElem? hm)
  have hzm := hz.m
  have hzc := hz.c
  have hzs := hz.s
  have gm := getBo (l := z.M) (i := m.length) (by omega)
  have v1 := set_ev (M := z.M) (l := b.ms) (by omega) (by omega) (by rw [hzm]; exact r1)
  have v2 := set_ev (M := z.C) (l := b.cs) (by omega) (by omega) (by rw [hzc]; exact r2)
  have v3 := set_ev (M := z.S) (l := b.ss) (by omega) (by omega) (by rw [hzs]; exact r3)
  rw [hzm] at v1
  rw [hzc] at v2
  rw [hzs] at v3
  have ih' := ih (m ++ [b]) (stBd m.length z b) (by simp [h]) (stBd_ok hz)
  rw [List.length_append, List.length_cons, List.length_nil, Nat.zero_add] at ih'
  rw [show passB (b :: r) m.length z = passB r (m.length + 1) (stBd m.length z b) from rfl]
  generalize passB r (m.length + 1) (stBd m.length z b) = Z at ih' ⊢
  unfold stBd at ih'
  cases d : getB z.M m.length with
  | false =>
   rw [d] at gm
   rw [if_neg (by rw [d]; simp)] at ih'
   simp only [Int.natCast_add, Int.cast_ofNat_Int, rrV, rrO, iR, bR, wdV, List.map_nil] at ih'
   rw [l35_9]
   simp (maxSteps := 100000000) only [ivc, anf, vop, vlen, vbuiltin, nilR, eq_self, Nat.reduceEqDiff, Nat.reduceLT, Nat.reduceLeDiff, Nat.reduceAdd, Nat.reduceBEq, reduceCtorEq, ↓reduceIte, tyb, rrV, rrO, iR, bR, wdV, hi', hw, hc2, gm, ih']
   try exact some_true (by omega)
  | true =>
   rw [d] at gm
   rw [if_pos d] at ih'
   generalize setL z.M b.ms = M' at v1 ih'
   generalize setL z.C b.cs = C' at v2 ih'
   generalize setL z.S b.ss = S' at v3 ih'
   simp only [Int.natCast_add, Int.cast_ofNat_Int, rrV, rrO, iR, bR, wdV, List.map_nil] at ih' v1 v2 v3
   rw [l35_9]
   simp (maxSteps := 100000000) only [ivc, anf, vop, vlen, vbuiltin, nilR, eq_self, Nat.reduceEqDiff, Nat.reduceLT, Nat.reduceLeDiff, Nat.reduceAdd, Nat.reduceMul, Nat.reduceSub, Nat.reduceBEq, reduceCtorEq, ↓reduceIte, tyb, rrV, rrO, iR, bR, wdV, bdV, hi', hg, hw, hc2, gm, v1, v2, v3, ih']
   try exact some_true (by omega)
theorem rr17_loop {w : Wd} {bf : Int} {nM nC nS k : Nat} {cl : List Et} (hk : w.classes[k]? = some cl) (hn : w.classes.length ≤ 1000) (hnC : nC = w.classes.length) (hl : cl.length ≤ 1000) (hM : nM ≤ 1000) (hS : nS ≤ 1000)
  (he : ∀ e ∈ cl, (0 ≤ e.s /\ e.s < nS) /\ 0 ≤ e.m /\ e.m < nM) : ∀ (r m : List Et) (z : Z3), cl = m ++ r -> Zok nM nC nS z ->
  E.L 35 17 (rrV nM nC nS [.int .i64 bf, .int .i64 k, .int .i64 m.length]) (rrO w z) = some ((.exit 6, rrV nM nC nS [.int .i64 bf, .int .i64 k, .int .i64 cl.length], rrO w (r.foldl (stE k) z)), True) := by
 have hkl := (List.getElem?_eq_some_iff.1 hk).1
 have hg2 := getD_map (f := clV) hk
 have q2 : (0 ≤ (k : Int) /\ (k : Int) < w.classes.length) = True := eq_true (by omega)
 have q3 : (0 ≤ (k : Int) /\ (k : Int) < nC) = True := eq_true (by omega)
 intro r
 induction r with
 | nil =>
  intro m z h hz
  rw [List.append_nil] at h
  subst h
  have q : ((cl.length : Int) < cl.length) = False := eq_false (by omega)
  rw [l35_17, List.foldl_nil]
  simp (maxSteps := 100000000) only [ivc, anf, vop, vlen, vbuiltin, nilR, eq_self, Nat.reduceEqDiff, Nat.reduceLT, Nat.reduceLeDiff, Nat.reduceAdd, Nat.reduceBEq, reduceCtorEq, ↓reduceIte, tyb, rrV, rrO, iR, bR, wdV, clV, hg2, q2, q]
 | cons e r ih =>
  intro m z h hz
  have hn' : m.length + (r.length + 1) = cl.length := by rw [h]; simp
  have hi' : (m.length : Int) < cl.length := by omega
  have hm : cl[m.length]? = some e := by rw [h]; simp
  have hg := getD_map (f := enV) hm
  have hw : IntKind.i64.wrap ((m.length : Int) + 1) = m.length + 1 := wrap_id (by omega) (by omega)
  have hc : (0 ≤ (m.length : Int) /\ (m.length : Int) < cl.length) = True := eq_true (by omega)
  obtain ⟨⟨e1, e2⟩, e3, e4⟩ := he e (List.mem_of_getElem? hm)
  have hzm := hz.m
  have hzc := hz.c
  have hzs := hz.s
  have q4 : (0 ≤ e.s /\ e.s < nS) = True := eq_true ⟨e1, e2⟩
  have q5 : (0 ≤ e.m /\ e.m < nM) = True := eq_true ⟨e3, e4⟩
  have g1 := getBo (l := z.C) (i := k) (by omega)
  have g2 := getBo (l := z.S) (i := e.s.toNat) (by omega)
  have g3 := getBo (l := z.M) (i := e.m.toNat) (by omega)
  have s3 : (z.M.map AV.bool).set e.m.toNat (.bool true) = (z.M.set e.m.toNat true).map AV.bool := List.map_set.symm
  have ih' := ih (m ++ [e]) (stE k z e) (by simp [h]) (stE_ok hz)
  rw [List.length_append, List.length_cons, List.length_nil, Nat.zero_add] at ih'
  rw [List.foldl_cons]
  generalize r.foldl (stE k) (stE k z e) = Z at ih' ⊢
  unfold stE at ih'
  cases d1 : getB z.C k with
  | false =>
   rw [d1] at g1
   rw [if_neg (by rw [d1]; simp)] at ih'
   simp only [Int.natCast_add, Int.cast_ofNat_Int, rrV, rrO, iR, bR, wdV, List.map_nil] at ih'
   rw [l35_17]
   simp (maxSteps := 100000000) only [ivc, anf, vop, vlen, vbuiltin, nilR, salloc, eq_self, Nat.reduceEqDiff, Nat.reduceLT, Nat.reduceLeDiff, Nat.reduceAdd, Nat.reduceBEq, Int.reduceLE, Int.reduceToNat, reduceCtorEq, ↓reduceIte, tyb, rrV, rrO, iR, bR, wdV, clV, enV, hg2, q2, q3, q4, hi', hg, hw, g1, g2, ih']
   try exact some_true (by omega)
  | true =>
   rw [d1] at g1
   cases d2 : getB z.S e.s.toNat with
   | false =>
    rw [d2] at g2
    rw [if_neg (by rw [d2]; simp)] at ih'
    simp only [Int.natCast_add, Int.cast_ofNat_Int, rrV, rrO, iR, bR, wdV, List.map_nil] at ih'
    rw [l35_17]
    simp (maxSteps := 100000000) only [ivc, anf, vop, vlen, vbuiltin, nilR, salloc, eq_self, Nat.reduceEqDiff, Nat.reduceLT, Nat.reduceLeDiff, Nat.reduceAdd, Nat.reduceBEq, reduceCtorEq, ↓reduceIte, tyb, rrV, rrO, iR, bR, wdV, clV, enV, hg2, q2, q3, q4, hi', hg, hw, g1, g2, ih']
    try exact some_true (by omega)
   | true =>
    rw [d2] at g2
    rw [if_pos ⟨d1, d2⟩] at ih'
    simp only [Int.natCast_add, Int.cast_ofNat_Int, rrV, rrO, iR, bR, wdV, List.map_nil] at ih'
    rw [l35_17]
    simp (maxSteps := 100000000) only [ivc, anf, vop, vlen, vbuiltin, nilR, salloc, eq_self, Nat.reduceEqDiff, Nat.reduceLT, Nat.reduceLeDiff, Nat.reduceAdd, Nat.reduceBEq, reduceCtorEq, ↓reduceIte, tyb, rrV, rrO, iR, bR, wdV, clV, enV, hg2, q2, q3, q4, q5, hi', hg, hw, g1, g2, g3, s3, ih']
    try exact some_true (by omega)
theorem rr14_loop {w : Wd} {bf : Int} {nM nC nS : Nat} (hn : w.classes.length ≤ 1000) (hnC : nC = w.classes.length) (hM : nM ≤ 1000) (hS : nS ≤ 1000)
  (he : ∀ c ∈ w.classes, c.length ≤ 1000 /\ ∀ e ∈ c, (0 ≤ e.s /\ e.s < nS) /\ 0 ≤ e.m /\ e.m < nM) : ∀ (r m : List (List Et)) (z : Z3), w.classes = m ++ r -> Zok nM nC nS z ->
  E.L 35 14 (rrV nM nC nS [.int .i64 bf, .int .i64 m.length]) (rrO w z) = some ((.exit 4, rrV nM nC nS [.int .i64 bf, .int .i64 w.classes.length], rrO w (passE r m.length z)), True) := by
 intro r
 induction r with
 | nil =>
  intro m z h hz
  rw [List.append_nil] at h
  have q : ((w.classes.length : Int) < w.classes.length) = False := eq_false (by omega)
  rw [<- h, l35_14, show passE [] w.classes.length z = z from rfl]
  simp (maxSteps := 100000000) only [ivc, anf, vop, vlen, vbuiltin, nilR, eq_self, Nat.reduceEqDiff, Nat.reduceLT, Nat.reduceLeDiff, Nat.reduceAdd, Nat.reduceBEq, reduceCtorEq, ↓reduceIte, tyb, rrV, rrO, iR, bR, wdV, q]
 | cons c r ih =>
  intro m z h hz
  have hn' : m.length + (r.length + 1) = w.classes.length := by rw [h]; simp
  have hi' : (m.length : Int) < w.classes.length := by omega
  have hm : w.classes[m.length]? = some c := by rw [h]; simp
  have hw : IntKind.i64.wrap ((m.length : Int) + 1) = m.length + 1 := wrap_id (by omega) (by omega)
  obtain ⟨c1, c2⟩ := he c (List.mem_of_getElem? hm)
  have lp := rr17_loop (bf := bf) hm hn hnC c1 hM hS c2 c [] z rfl hz
  have ih' := ih (m ++ [c]) (c.foldl (stE m.length) z) (by simp [h]) (foldE_ok hz)
  rw [List.length_append, List.length_cons, List.length_nil, Nat.zero_add] at ih'
  rw [show passE (c :: r) m.length z = passE r (m.length + 1) (c.foldl (stE m.length) z) from rfl]
  generalize passE r (m.length + 1) (c.foldl (stE m.length) z) = Z at ih' ⊢
  generalize c.foldl (stE m.length) z = Y at ih' lp
  simp only [Int.natCast_add, List.length_nil, Int.cast_ofNat_Int, rrV, rrO, iR, bR, wdV, List.map_nil] at ih' lp
  rw [l35_14]
  simp (maxSteps := 100000000) only [ivc, anf, vop, vlen, vbuiltin, nilR, eq_self, Nat.reduceEqDiff, Nat.reduceLT, Nat.reduceLeDiff, Nat.reduceAdd, Nat.reduceBEq, reduceCtorEq, ↓reduceIte, tyb, rrV, rrO, iR, bR, wdV, hi', hw, lp, ih']
  try exact some_true (by omega)
end Go.Proofs.YtikppcfabnnhfaaDoor

/- Plain: what is reached is the least that is closed. -/
namespace Go.Proofs.YtikppcfabnnhfaaDoor
open Go Go.Aw
set_option linter.unusedVariables false
structure Cz where
 m : Int -> Prop
 c : Int -> Prop
 s : Int -> Prop
structure Clo (w : Wd) (R : List Int) (T : Cz) : Prop where
 root : ∀ x ∈ R, T.m x
 bm : ∀ q, T.m q -> 0 ≤ q -> q < w.bodies.length -> ∀ x ∈ (bdAt w q).ms, T.m x
 bc : ∀ q, T.m q -> 0 ≤ q -> q < w.bodies.length -> ∀ x ∈ (bdAt w q).cs, T.c x
 bs : ∀ q, T.m q -> 0 ≤ q -> q < w.bodies.length -> ∀ x ∈ (bdAt w q).ss, T.s x
 en : ∀ c s, T.c c -> T.s s -> 0 ≤ c -> c < w.classes.length -> 0 ≤ methM (clAt w c) s -> T.m (methM (clAt w c) s)
def inM (M : List Bool) (x : Int) : Prop := 0 ≤ x /\ x < M.length /\ getB M x.toNat = true
theorem inM_set {M : List Bool} {n : Nat} {x : Int} (hn : n < M.length) : inM (M.set n true) x ↔ inM M x \/ x = n := by
 unfold inM getB
 rw [List.length_set, List.getD_eq_getElem?_getD, List.getElem?_set]
 constructor
 ·rintro ⟨h1, h2, h3⟩
  by_cases e : n = x.toNat
  ·exact .inr (by omega)
  ·rw [if_neg e, <- List.getD_eq_getElem?_getD] at h3
   exact .inl ⟨h1, h2, h3⟩
 ·rintro (⟨h1, h2, h3⟩ | rfl)
  ·refine ⟨h1, h2, ?_⟩
   by_cases e : n = x.toNat
   ·rw [if_pos e, if_pos hn]; rfl
   ·rw [if_neg e, <- List.getD_eq_getElem?_getD]; exact h3
  ·refine ⟨by omega, by omega, ?_⟩
   rw [if_pos (by omega), if_pos hn]; rfl
theorem rch_in {z : Rs} {n x : Int} (hn : n < z.M.length) : inM (rch z n).M x ↔ inM z.M x \/ (x = n /\ 0 ≤ n) := by
 unfold rch
 by_cases h : 0 ≤ n /\ getB z.M n.toNat = false
 ·rw [if_pos h]
  show inM (z.M.set n.toNat true) x ↔ _
  rw [inM_set (by omega)]
  exact or_congr_right ⟨fun e => ⟨by omega, h.1⟩, fun e => by omega⟩
 ·rw [if_neg h]
  constructor
  ·exact .inl
  ·rintro (h1 | ⟨rfl, h0⟩)
   ·exact h1
   ·refine ⟨h0, hn, ?_⟩
    cases hb : getB z.M x.toNat with
    | true => rfl
    | false => exact absurd ⟨h0, hb⟩ h
theorem fold_in : ∀ {l : List Int} {z : Rs} {x : Int}, (∀ y ∈ l, y < z.M.length) -> (inM (l.foldl rch z).M x ↔ inM z.M x \/ (x ∈ l /\ 0 ≤ x))
 | [], z, x, _ => by simp
 | n :: l, z, x, h => by
  rw [List.foldl_cons, fold_in fun y hy => by rw [rch_len]; exact h y (by simp [hy]), rch_in (h n (by simp)), or_assoc]
  refine or_congr_right ?_
  rw [List.mem_cons]
  constructor
  ·rintro (⟨rfl, h0⟩ | ⟨h1, h0⟩)
   ·exact ⟨.inl rfl, h0⟩
   ·exact ⟨.inr h1, h0⟩
  ·rintro ⟨rfl | h1, h0⟩
   ·exact .inl ⟨rfl, h0⟩
   ·exact .inr ⟨h1, h0⟩
theorem rch_q {z : Rs} {n x : Int} : (x ∈ (rch z n).Q -> x ∈ z.Q \/ x = n) /\ (x ∈ z.Q -> x ∈ (rch z n).Q) /\ (n < z.M.length -> inM (rch z n).M x -> inM z.M x \/ x ∈ (rch z n).Q) := by
 unfold rch
 by_cases h : 0 ≤ n /\ getB z.M n.toNat = false
 ·rw [if_pos h]
  refine ⟨fun hx => by simpa using hx, fun hx => by simp [hx], fun hn hx => ?_⟩
  rcases (inM_set (by omega)).1 hx with hx | hx
  ·exact .inl hx
  ·right
   simp
   omega
 ·rw [if_neg h]
  exact ⟨.inl, id, fun _ => .inl⟩
structure Stp (z z' : Rs) : Prop where
 len : z'.M.length = z.M.length
 up : ∀ x, inM z.M x -> inM z'.M x
 q1 : ∀ x, x ∈ z.Q -> x ∈ z'.Q
 q2 : ∀ x, inM z'.M x -> inM z.M x \/ x ∈ z'.Q
 q3 : ∀ x, x ∈ z'.Q -> x ∈ z.Q \/ inM z'.M x
theorem Stp.refl (z : Rs) : Stp z z := ⟨rfl, fun _ h => h, fun _ h => h, fun _ h => .inl h, fun _ h => .inl h⟩
theorem Stp.trans {a b c : Rs} (h : Stp a b) (k : Stp b c) : Stp a c where
 len := k.len.trans h.len
 up x hx := k.up x (h.up x hx)
 q1 x hx := k.q1 x (h.q1 x hx)
 q2 x hx := (k.q2 x hx).elim (fun h1 => (h.q2 x h1).imp id (k.q1 x)) .inr
 q3 x hx := (k.q3 x hx).elim (fun h1 => (h.q3 x h1).imp id (k.up x)) .inr
theorem rch_stp {z : Rs} {n : Int} (hn : n < z.M.length) : Stp z (rch z n) where
 len := rch_len
 up x hx := (rch_in hn).2 (.inl hx)
 q1 x hx := rch_q.2.1 hx
 q2 x hx := rch_q.2.2 hn hx
 q3 x hx := by
  unfold rch at hx ⊢
  split at hx
  ·rename_i h
   rw [if_pos h]
   rcases List.mem_append.1 hx with hx | hx
   ·exact .inl hx
   ·rw [List.mem_singleton.1 hx]
    exact .inr ((inM_set (by omega)).2 (.inr (by omega)))
  ·exact .inl hx
theorem fold_stp : ∀ {l : List Int} {z : Rs}, (∀ y ∈ l, y < z.M.length) -> Stp z (l.foldl rch z)
 | [], z, _ => .refl z
 | n :: l, z, h => (rch_stp (h n (by simp))).trans (fold_stp fun y hy => by rw [rch_len]; exact h y (by simp [hy]))
def enOk (w : Wd) (M C S : List Bool) : Prop := ∀ c s, inM C c -> inM S s -> 0 ≤ methM (clAt w c) s -> inM M (methM (clAt w c) s)
def subT (T : Cz) (M C S : List Bool) : Prop := (∀ x, inM M x -> T.m x) /\ (∀ x, inM C x -> T.c x) /\ ∀ x, inM S x -> T.s x
theorem stC_in {w : Wd} (g : Good w) {R : List Int} {S : List Bool} (hS : S.length = 500) {z : Rs} {C : List Bool} {n : Int} (hM : z.M.length = w.bodies.length) (hC : C.length = w.classes.length) (h : 0 ≤ n /\ n < w.classes.length) :
  Stp z (stC w S (z, C) n).1 /\ (∀ x, inM (stC w S (z, C) n).2 x ↔ inM C x \/ x = n) /\ (enOk w z.M C S -> enOk w (stC w S (z, C) n).1.M (stC w S (z, C) n).2 S) /\ ∀ T, Clo w R T -> subT T z.M C S -> T.c n -> subT T (stC w S (z, C) n).1.M (stC w S (z, C) n).2 S := by
 have hc := List.mem_of_getElem? (clAt_some h.1 h.2)
 have hlt : ∀ y ∈ (lsM S 0).map (methM (clAt w n)), y < z.M.length := fun y hy => by
  obtain ⟨a, _, rfl⟩ := List.mem_map.1 hy
  rw [hM]; exact meth_lt g hc
 unfold stC
 by_cases hb : getB C n.toNat = false
 ·rw [if_pos hb]
  have st := fold_stp hlt
  have hin : ∀ x, inM (C.set n.toNat true) x ↔ inM C x \/ x = n := fun x => by
   rw [inM_set (by omega)]
   exact or_congr_right ⟨fun e => by omega, fun e => by omega⟩
  refine ⟨st, hin, fun he c s h1 h2 h3 => ?_, fun T hT hs hn => ⟨fun x hx => ?_, fun x hx => ?_, hs.2.2⟩⟩
  ·rcases (hin c).1 h1 with h1 | rfl
   ·exact st.up _ (he c s h1 h2 h3)
   ·exact (fold_in hlt).2 (.inr ⟨List.mem_map.2 ⟨s, ls_mem.2 h2, rfl⟩, h3⟩)
  ·rcases (fold_in hlt).1 hx with hx | ⟨hx, h0⟩
   ·exact hs.1 x hx
   ·obtain ⟨s, hs1, rfl⟩ := List.mem_map.1 hx
    exact hT.en n s hn (hs.2.2 s (ls_mem.1 hs1)) h.1 h.2 h0
  ·rcases (hin x).1 hx with hx | rfl
   ·exact hs.2.1 x hx
   ·exact hn
 ·rw [if_neg hb]
  refine ⟨.refl z, fun x => ⟨.inl, fun hx => hx.elim id fun e => ?_⟩, id, fun T _ hs _ => hs⟩
  subst e
  exact ⟨h.1, by dsimp only; omega, by simpa using hb⟩
theorem foldC_in {w : Wd} (g : Good w) {R : List Int} {S : List Bool} (hS : S.length = 500) : ∀ {l : List Int} {z : Rs} {C : List Bool}, z.M.length = w.bodies.length -> C.length = w.classes.length -> (∀ n ∈ l, 0 ≤ n /\ n < w.classes.length) ->
  Stp z (l.foldl (stC w S) (z, C)).1 /\ (∀ x, inM (l.foldl (stC w S) (z, C)).2 x ↔ inM C x \/ x ∈ l) /\ (enOk w z.M C S -> enOk w (l.foldl (stC w S) (z, C)).1.M (l.foldl (stC w S) (z, C)).2 S) /\ ∀ T, Clo w R T -> subT T z.M C S -> (∀ n ∈ l, T.c n) -> subT T (l.foldl (stC w S) (z, C)).1.M (l.foldl (stC w S) (z, C)).2 S
 | [], z, C, _, _, _ => ⟨.refl z, fun x => by simp, id, fun T _ h _ => h⟩
 | n :: l, z, C, hM, hC, h => by
  obtain ⟨a1, a2, a3, a4⟩ := stC_in g (R := R) hS hM hC (h n (by simp))
  obtain ⟨k1, k2⟩ := stC_len (w := w) (S := S) (y := (z, C)) (n := n)
  obtain ⟨b1, b2, b3, b4⟩ := foldC_in g (R := R) hS (l := l) (z := (stC w S (z, C) n).1) (C := (stC w S (z, C) n).2) (k1.trans hM) (k2.trans hC) (fun y hy => h y (by simp [hy]))
  rw [List.foldl_cons]
  refine ⟨a1.trans b1, fun x => ?_, fun he => b3 (a3 he), fun T hT hs hn => b4 T hT (a4 T hT hs (hn n (by simp))) fun y hy => hn y (by simp [hy])⟩
  rw [b2, a2, or_assoc, List.mem_cons]
theorem stS_in {w : Wd} (g : Good w) {R : List Int} {C : List Bool} (hC : C.length = w.classes.length) {z : Rs} {S : List Bool} {n : Int} (hM : z.M.length = w.bodies.length) (hS : S.length = 500) (h : selN n) :
  Stp z (stS w C (z, S) n).1 /\ (∀ x, inM (stS w C (z, S) n).2 x ↔ inM S x \/ x = n) /\ (enOk w z.M C S -> enOk w (stS w C (z, S) n).1.M C (stS w C (z, S) n).2) /\ ∀ T, Clo w R T -> subT T z.M C S -> T.s n -> subT T (stS w C (z, S) n).1.M C (stS w C (z, S) n).2 := by
 obtain ⟨n0, n1⟩ := h
 have hlt : ∀ y ∈ (lsM C 0).map (fun x => methM (clAt w x) n), y < z.M.length := fun y hy => by
  obtain ⟨a, ha, rfl⟩ := List.mem_map.1 hy
  obtain ⟨a0, a1, _⟩ := ls_mem.1 ha
  rw [hM]; exact meth_lt g (List.mem_of_getElem? (clAt_some a0 (by omega)))
 unfold stS
 by_cases hb : getB S n.toNat = false
 ·rw [if_pos hb]
  have st := fold_stp hlt
  have hin : ∀ x, inM (S.set n.toNat true) x ↔ inM S x \/ x = n := fun x => by
   rw [inM_set (by omega)]
   exact or_congr_right ⟨fun e => by omega, fun e => by omega⟩
  refine ⟨st, hin, fun he c s h1 h2 h3 => ?_, fun T hT hs hn => ⟨fun x hx => ?_, hs.2.1, fun x hx => ?_⟩⟩
  ·rcases (hin s).1 h2 with h2 | rfl
   ·exact st.up _ (he c s h1 h2 h3)
   ·exact (fold_in hlt).2 (.inr ⟨List.mem_map.2 ⟨c, ls_mem.2 h1, rfl⟩, h3⟩)
  ·rcases (fold_in hlt).1 hx with hx | ⟨hx, h0⟩
   ·exact hs.1 x hx
   ·obtain ⟨c, hc1, rfl⟩ := List.mem_map.1 hx
    obtain ⟨c0, c1, c2⟩ := ls_mem.1 hc1
    exact hT.en c n (hs.2.1 c ⟨c0, c1, c2⟩) hn c0 (by omega) h0
  ·rcases (hin x).1 hx with hx | rfl
   ·exact hs.2.2 x hx
   ·exact hn
 ·rw [if_neg hb]
  refine ⟨.refl z, fun x => ⟨.inl, fun hx => hx.elim id fun e => ?_⟩, id, fun T _ hs _ => hs⟩
  subst e
  exact ⟨n0, by dsimp only; omega, by simpa using hb⟩
theorem foldS_in {w : Wd} (g : Good w) {R : List Int} {C : List Bool} (hC : C.length = w.classes.length) : ∀ {l : List Int} {z : Rs} {S : List Bool}, z.M.length = w.bodies.length -> S.length = 500 -> (∀ n ∈ l, selN n) ->
  Stp z (l.foldl (stS w C) (z, S)).1 /\ (∀ x, inM (l.foldl (stS w C) (z, S)).2 x ↔ inM S x \/ x ∈ l) /\ (enOk w z.M C S -> enOk w (l.foldl (stS w C) (z, S)).1.M C (l.foldl (stS w C) (z, S)).2) /\ ∀ T, Clo w R T -> subT T z.M C S -> (∀ n ∈ l, T.s n) -> subT T (l.foldl (stS w C) (z, S)).1.M C (l.foldl (stS w C) (z, S)).2
 | [], z, S, _, _, _ => ⟨.refl z, fun x => by simp, id, fun T _ h _ => h⟩
 | n :: l, z, S, hM, hS, h => by
  obtain ⟨a1, a2, a3, a4⟩ := stS_in g (R := R) hC hM hS (h n (by simp))
  obtain ⟨k1, k2⟩ := stS_len (w := w) (C := C) (y := (z, S)) (n := n)
  obtain ⟨b1, b2, b3, b4⟩ := foldS_in g (R := R) hC (l := l) (z := (stS w C (z, S) n).1) (S := (stS w C (z, S) n).2) (k1.trans hM) (k2.trans hS) (fun y hy => h y (by simp [hy]))
  rw [List.foldl_cons]
  refine ⟨a1.trans b1, fun x => ?_, fun he => b3 (a3 he), fun T hT hs hn => b4 T hT (a4 T hT hs (hn n (by simp))) fun y hy => hn y (by simp [hy])⟩
  rw [b2, a2, or_assoc, List.mem_cons]
structure RyInv (w : Wd) (y : Ry) : Prop where
 ok : RyOk w y
 root : ∀ x ∈ w.roots, inM y.z.M x
 qm : ∀ q ∈ y.z.Q, inM y.z.M q
 done : ∀ q, inM y.z.M q -> q ∉ y.z.Q -> (∀ x ∈ (bdAt w q).ms, inM y.z.M x) /\ (∀ x ∈ (bdAt w q).cs, inM y.C x) /\ ∀ x ∈ (bdAt w q).ss, inM y.S x
 en : enOk w y.z.M y.C y.S
 least : ∀ T, Clo w w.roots T -> subT T y.z.M y.C y.S
theorem stB_inv {w : Wd} (g : Good w) {y : Ry} {q : Int} {Q : List Int} (I : RyInv w y) (hq : y.z.Q = q :: Q) : RyInv w (stB w y q Q) := by
 have hqm := I.qm q (by rw [hq]; simp)
 obtain ⟨q0, q1, _⟩ := hqm
 have okm := I.ok.m
 have okc := I.ok.c
 have oks := I.ok.s
 have hbd : w.bodies[q.toNat]? = some (bdAt w q) := by
  unfold bdAt
  rw [List.getD_eq_getElem?_getD, List.getElem?_eq_getElem (by omega)]; rfl
 obtain ⟨br1, br2, br3⟩ := g.br _ (List.mem_of_getElem? hbd)
 have h1 : ∀ x ∈ (bdAt w q).ms, x < (⟨y.z.M, Q⟩ : Rs).M.length := fun x hx => by dsimp only; rw [okm]; exact (br2 x hx).2
 have s1 := fold_stp h1
 have i1 := fun x => fold_in (x := x) h1
 unfold stB
 generalize (bdAt w q).ms.foldl rch ⟨y.z.M, Q⟩ = z1 at *
 have l1 : z1.M.length = w.bodies.length := s1.len.trans okm
 obtain ⟨s2, c2, e2, t2⟩ := foldC_in g (R := w.roots) oks (l := (bdAt w q).cs) (z := z1) (C := y.C) l1 okc br3
 obtain ⟨_, l2, k2⟩ := foldC g (S := y.S) (l := (bdAt w q).cs) (y := (z1, y.C)) l1 br3
 generalize (bdAt w q).cs.foldl (stC w y.S) (z1, y.C) = y2 at *
 dsimp only at l2 k2
 obtain ⟨s3, c3, e3, t3⟩ := foldS_in g (R := w.roots) (C := y2.2) (k2.trans okc) (l := (bdAt w q).ss) (z := y2.1) (S := y.S) (l2.trans l1) oks br1
 obtain ⟨_, l3, k3⟩ := foldS g (C := y2.2) (k2.trans okc) (l := (bdAt w q).ss) (y := (y2.1, y.S)) (l2.trans l1)
 generalize (bdAt w q).ss.foldl (stS w y2.2) (y2.1, y.S) = y3 at *
 dsimp only at l3 k3
 have st := s1.trans (s2.trans s3)
 refine ⟨⟨l3.trans (l2.trans l1), k2.trans okc, k3.trans oks⟩, fun x hx => st.up x (I.root x hx), fun x hx => ?_, fun p hp hpq => ?_, ?_, fun T hT => ?_⟩
 ·rcases st.q3 x hx with hx | hx
  ·exact st.up x (I.qm x (by rw [hq]; simp only [List.mem_cons]; exact .inr hx))
  ·exact hx
 ·rcases st.q2 p hp with hp1 | hp1
  ·by_cases e : p = q
   ·subst e
    exact ⟨fun x hx => (s2.trans s3).up x ((i1 x).2 (.inr ⟨hx, (br2 x hx).1⟩)), fun x hx => (c2 x).2 (.inr hx), fun x hx => (c3 x).2 (.inr hx)⟩
   ·obtain ⟨d1, d2, d3⟩ := I.done p hp1 (by
     rw [hq, List.mem_cons]
     rintro (h | h)
     ·exact e h
     ·exact hpq (st.q1 p h))
    exact ⟨fun x hx => st.up x (d1 x hx), fun x hx => (c2 x).2 (.inl (d2 x hx)), fun x hx => (c3 x).2 (.inl (d3 x hx))⟩
  ·exact absurd hp1 hpq
 ·exact e3 (e2 fun c s hc hs h0 => s1.up _ (I.en c s hc hs h0))
 ·have T0 := I.least T hT
  have hTq := T0.1 q (I.qm q (by rw [hq]; simp))
  have T1 : subT T z1.M y.C y.S := ⟨fun x hx => by
   rcases (i1 x).1 hx with hx | ⟨hx, _⟩
   ·exact T0.1 x hx
   ·exact hT.bm q hTq q0 (by omega) x hx, T0.2.1, T0.2.2⟩
  exact t3 T hT (t2 T hT T1 (hT.bc q hTq q0 (by omega))) (hT.bs q hTq q0 (by omega))
theorem runR_inv {w : Wd} (g : Good w) : ∀ {k : Nat} {y : Ry}, RyInv w y -> RyInv w (runR w k y)
 | 0, _, h => h
 | k + 1, y, h => by
  rw [runR]
  cases hq : y.z.Q with
  | nil => exact h
  | cons q Q => exact runR_inv g (stB_inv g h hq)
theorem inM_fls {n : Nat} {x : Int} : ¬ inM (fls n) x := fun ⟨h0, h1, h2⟩ => by
 unfold getB fls at h2
 rw [List.getD_eq_getElem?_getD, List.getElem?_replicate] at h2
 split at h2 <;> cases h2
theorem ry_start {w : Wd} (g : Good w) : RyInv w ⟨rz0 w, fls w.classes.length, fls 500⟩ := by
 have h1 : ∀ x ∈ w.roots, x < (⟨fls w.bodies.length, []⟩ : Rs).M.length := fun x hx => by dsimp only; rw [fls_len]; exact (g.rr x hx).2
 have s1 := fold_stp h1
 have i1 := fun x => fold_in (x := x) h1
 have e : w.roots.foldl rch ⟨fls w.bodies.length, []⟩ = rz0 w := rfl
 rw [e] at s1 i1
 refine ⟨⟨s1.len.trans fls_len, fls_len, fls_len⟩, fun x hx => (i1 x).2 (.inr ⟨hx, (g.rr x hx).1⟩), fun q hq => ?_, fun q hq hn => ?_, fun c s hc => absurd hc inM_fls, fun T hT => ⟨fun x hx => ?_, fun x hx => absurd hx inM_fls, fun x hx => absurd hx inM_fls⟩⟩
 ·rcases s1.q3 q hq with h | h
  ·cases h
  ·exact h
 ·rcases s1.q2 q hq with h | h
  ·exact absurd h inM_fls
  ·exact absurd h hn
 ·rcases (i1 x).1 hx with h | ⟨h, _⟩
  ·exact absurd h inM_fls
  ·exact hT.root x h
theorem rea_empty {w : Wd} (g : Good w) : (reaM w).z.Q = [] := by
 have gb := g.nb
 have gc := g.nc
 have gr := g.nr
 have hi0 : rin ⟨fls w.bodies.length, []⟩ 0 [] := ⟨rfl, by simp, by simp, by rw [fls_len]; exact gb, by simp⟩
 obtain ⟨lo1, R1, hi1, _⟩ := rc9_loop (w := w) (C := fls w.classes.length) (S := fls 500) (l := w.roots) (by omega) w.roots [] ⟨fls w.bodies.length, []⟩ 0 [] rfl hi0 (fun x hx => by dsimp only; rw [fls_len]; exact (g.rr x hx).2)
 obtain ⟨_, _, k1, _, _⟩ := rc13_loop g (mu (rz0 w)) ⟨rz0 w, fls w.classes.length, fls 500⟩ lo1 R1 (Nat.le_refl _) hi1 (ry_start g).ok
 exact k1
def rM (w : Wd) : List Int := lsM (reaM w).z.M 0
def rC (w : Wd) : List Int := lsM (reaM w).C 0
def rS (w : Wd) : List Int := lsM (reaM w).S 0
def reT (w : Wd) : Cz := ⟨(· ∈ rM w), (· ∈ rC w), (· ∈ rS w)⟩
theorem rea_inv {w : Wd} (g : Good w) : RyInv w (reaM w) := runR_inv g (ry_start g)
theorem rea_clo {w : Wd} (g : Good w) : Clo w w.roots (reT w) := by
 have I := rea_inv g
 have hq := rea_empty g
 have d := fun q hq' => I.done q hq' (by rw [hq]; simp)
 refine ⟨fun x hx => ls_mem.2 (I.root x hx), fun q h _ _ x hx => ls_mem.2 ((d q (ls_mem.1 h)).1 x hx), fun q h _ _ x hx => ls_mem.2 ((d q (ls_mem.1 h)).2.1 x hx), fun q h _ _ x hx => ls_mem.2 ((d q (ls_mem.1 h)).2.2 x hx), fun c s hc hs _ _ h0 => ls_mem.2 (I.en c s (ls_mem.1 hc) (ls_mem.1 hs) h0)⟩
theorem rea_least {w : Wd} (g : Good w) {T : Cz} (h : Clo w w.roots T) : (∀ x ∈ rM w, T.m x) /\ (∀ x ∈ rC w, T.c x) /\ ∀ x ∈ rS w, T.s x := by
 obtain ⟨a, b, c⟩ := (rea_inv g).least T h
 exact ⟨fun x hx => a x (ls_mem.1 hx), fun x hx => b x (ls_mem.1 hx), fun x hx => c x (ls_mem.1 hx)⟩
theorem nd_map_inj : ∀ {l : List Et} {a b : Et}, (l.map Et.s).Nodup -> a ∈ l -> b ∈ l -> a.s = b.s -> a = b
 | x :: l, a, b, h, ha, hb, e => by
  rw [List.map_cons, List.nodup_cons] at h
  obtain ⟨h1, h2⟩ := h
  by_cases ea : a = x
  ·by_cases eb : b = x
   ·rw [ea, eb]
   ·have hb' : b ∈ l := (List.mem_cons.1 hb).resolve_left eb
    exact absurd (List.mem_map.2 ⟨b, hb', by rw [<- e, ea]⟩) h1
  ·have ha' : a ∈ l := (List.mem_cons.1 ha).resolve_left ea
   by_cases eb : b = x
   ·exact absurd (List.mem_map.2 ⟨a, ha', by rw [e, eb]⟩) h1
   ·exact nd_map_inj h2 ha' ((List.mem_cons.1 hb).resolve_left eb) e
end Go.Proofs.YtikppcfabnnhfaaDoor

/- Plain: what the reference reaches is what the program reaches. -/
namespace Go.Proofs.YtikppcfabnnhfaaDoor
open Go Go.Aw
set_option linter.unusedSimpArgs false
set_option linter.unusedVariables false
set_option maxRecDepth 100000
def subB (A B : List Bool) : Prop := A.length = B.length /\ ∀ x, inM A x -> inM B x
theorem subB_refl (A : List Bool) : subB A A := ⟨rfl, fun _ h => h⟩
theorem subB_trans {A B C : List Bool} (h : subB A B) (k : subB B C) : subB A C := ⟨h.1.trans k.1, fun x hx => k.2 x (h.2 x hx)⟩
theorem inM_setL {x : Int} : ∀ {l : List Int} {M : List Bool}, (∀ y ∈ l, 0 ≤ y /\ y < M.length) -> (inM (setL M l) x ↔ inM M x \/ x ∈ l)
 | [], M, _ => by simp [setL]
 | y :: l, M, h => by
  have hy := h y (by simp)
  rw [show setL M (y :: l) = setL (M.set y.toNat true) l from rfl, inM_setL (fun z hz => by rw [List.length_set]; exact h z (by simp [hz])), inM_set (by omega)]
  rw [show ((y.toNat : Nat) : Int) = y by omega, List.mem_cons, or_assoc]
theorem subB_setL {l : List Int} {M : List Bool} (h : ∀ y ∈ l, 0 ≤ y /\ y < M.length) : subB M (setL M l) := ⟨setL_len.symm, fun x hx => (inM_setL h).2 (.inl hx)⟩
structure subZ (y z : Z3) : Prop where
 m : subB y.M z.M
 c : subB y.C z.C
 s : subB y.S z.S
theorem subZ_refl (z : Z3) : subZ z z := ⟨subB_refl _, subB_refl _, subB_refl _⟩
theorem subZ_trans {a b c : Z3} (h : subZ a b) (k : subZ b c) : subZ a c := ⟨subB_trans h.m k.m, subB_trans h.c k.c, subB_trans h.s k.s⟩
def inT (T : Cz) (z : Z3) : Prop := subT T z.M z.C z.S
def bdR (nM nC nS : Nat) (b : Bd) : Prop := (∀ x ∈ b.ms, 0 ≤ x /\ x < nM) /\ (∀ x ∈ b.cs, 0 ≤ x /\ x < nC) /\ ∀ x ∈ b.ss, 0 ≤ x /\ x < nS
theorem stBd_in {nM nC nS i : Nat} {z : Z3} {b : Bd} (hz : Zok nM nC nS z) (hb : bdR nM nC nS b) : subZ z (stBd i z b) /\
  (getB z.M i = true -> (∀ x ∈ b.ms, inM (stBd i z b).M x) /\ (∀ x ∈ b.cs, inM (stBd i z b).C x) /\ ∀ x ∈ b.ss, inM (stBd i z b).S x) /\
  ∀ T : Cz, inT T z -> (getB z.M i = true -> (∀ x ∈ b.ms, T.m x) /\ (∀ x ∈ b.cs, T.c x) /\ ∀ x ∈ b.ss, T.s x) -> inT T (stBd i z b) := by
 obtain ⟨b1, b2, b3⟩ := hb
 rw [<- hz.m] at b1
 rw [<- hz.c] at b2
 rw [<- hz.s] at b3
 unfold stBd
 split
 ·rename_i h
  refine ⟨⟨subB_setL b1, subB_setL b2, subB_setL b3⟩, fun _ => ⟨fun x hx => (inM_setL b1).2 (.inr hx), fun x hx => (inM_setL b2).2 (.inr hx), fun x hx => (inM_setL b3).2 (.inr hx)⟩, fun T hT ht => ?_⟩
  obtain ⟨t1, t2, t3⟩ := ht h
  exact ⟨fun x hx => ((inM_setL b1).1 hx).elim (hT.1 x) (t1 x), fun x hx => ((inM_setL b2).1 hx).elim (hT.2.1 x) (t2 x), fun x hx => ((inM_setL b3).1 hx).elim (hT.2.2 x) (t3 x)⟩
 ·rename_i h
  exact ⟨subZ_refl z, fun h' => absurd h' h, fun T hT _ => hT⟩
theorem passB_in {w : Wd} {nM nC nS : Nat} (hn : nM = w.bodies.length) (hb : ∀ b ∈ w.bodies, bdR nM nC nS b) : ∀ {r m : List Bd} {z : Z3}, w.bodies = m ++ r -> Zok nM nC nS z ->
  subZ z (passB r m.length z) /\
  (∀ (i : Nat) (b : Bd), r[i]? = some b -> inM z.M ((m.length + i : Nat) : Int) -> (∀ x ∈ b.ms, inM (passB r m.length z).M x) /\ (∀ x ∈ b.cs, inM (passB r m.length z).C x) /\ ∀ x ∈ b.ss, inM (passB r m.length z).S x) /\
  ∀ T : Cz, Clo w w.roots T -> inT T z -> inT T (passB r m.length z)
 | [], m, z, _, _ => ⟨subZ_refl z, fun i b h => by simp at h, fun _ _ h => h⟩
 | b :: r, m, z, h, hz => by
  have hm : w.bodies[m.length]? = some b := by rw [h]; simp
  have hbb := hb b (List.mem_of_getElem? hm)
  obtain ⟨s1, s2, s3⟩ := stBd_in (i := m.length) hz hbb
  have ih := passB_in hn hb (r := r) (m := m ++ [b]) (z := stBd m.length z b) (by simp [h]) (stBd_ok hz)
  rw [List.length_append, List.length_cons, List.length_nil, Nat.zero_add] at ih
  obtain ⟨i1, i2, i3⟩ := ih
  rw [show passB (b :: r) m.length z = passB r (m.length + 1) (stBd m.length z b) from rfl]
  have hml : m.length < nM := by
   have := (List.getElem?_eq_some_iff.1 hm).1
   omega
  refine ⟨subZ_trans s1 i1, fun i c hi hx => ?_, fun T hT hin => i3 T hT (s3 T hin fun hg => ?_)⟩
  ·cases i with
   | zero =>
    rw [List.getElem?_cons_zero] at hi
    cases hi
    obtain ⟨t1, t2, t3⟩ := s2 (by have := hx.2.2; rwa [Nat.add_zero] at this)
    exact ⟨fun x hx => i1.m.2 x (t1 x hx), fun x hx => i1.c.2 x (t2 x hx), fun x hx => i1.s.2 x (t3 x hx)⟩
   | succ i =>
    rw [List.getElem?_cons_succ] at hi
    refine i2 i c hi (s1.m.2 _ ?_)
    rw [show m.length + 1 + i = m.length + (i + 1) by omega]
    exact hx
  ·have hq : T.m ((m.length : Nat) : Int) := hin.1 _ ⟨by omega, by rw [hz.m]; omega, hg⟩
   have hbd : bdAt w (m.length : Nat) = b := by
    unfold bdAt
    rw [List.getD_eq_getElem?_getD, show (((m.length : Nat) : Int)).toNat = m.length from rfl, hm]
    rfl
   have k1 := hT.bm _ hq (by omega) (by omega)
   have k2 := hT.bc _ hq (by omega) (by omega)
   have k3 := hT.bs _ hq (by omega) (by omega)
   rw [hbd] at k1 k2 k3
   exact ⟨k1, k2, k3⟩
def enR (nM nS : Nat) (e : Et) : Prop := (0 ≤ e.s /\ e.s < nS) /\ 0 ≤ e.m /\ e.m < nM
theorem stE_in {nM nC nS c : Nat} {z : Z3} {e : Et} (hz : Zok nM nC nS z) (he : enR nM nS e) : subZ z (stE c z e) /\
  (getB z.C c = true -> getB z.S e.s.toNat = true -> inM (stE c z e).M e.m) /\ (stE c z e).C = z.C /\ (stE c z e).S = z.S /\
  ∀ T : Cz, inT T z -> (getB z.C c = true -> getB z.S e.s.toNat = true -> T.m e.m) -> inT T (stE c z e) := by
 have hl : e.m.toNat < z.M.length := by have := hz.m; have := he.2; omega
 have hm : ((e.m.toNat : Nat) : Int) = e.m := by have := he.2; omega
 unfold stE
 split
 ·rename_i h
  refine ⟨⟨⟨by rw [List.length_set], fun x hx => (inM_set hl).2 (.inl hx)⟩, subB_refl _, subB_refl _⟩, fun _ _ => (inM_set hl).2 (.inr hm.symm), rfl, rfl, fun T hT ht => ⟨fun x hx => ?_, hT.2.1, hT.2.2⟩⟩
  rcases (inM_set hl).1 hx with q | q
  ·exact hT.1 x q
  ·rw [q, hm]
   exact ht h.1 h.2
 ·rename_i h
  exact ⟨subZ_refl z, fun h1 h2 => absurd ⟨h1, h2⟩ h, rfl, rfl, fun T hT _ => hT⟩
theorem foldE_in {nM nC nS c : Nat} : ∀ {l : List Et} {z : Z3}, Zok nM nC nS z -> (∀ e ∈ l, enR nM nS e) -> subZ z (l.foldl (stE c) z) /\
  (∀ e ∈ l, getB z.C c = true -> getB z.S e.s.toNat = true -> inM (l.foldl (stE c) z).M e.m) /\ (l.foldl (stE c) z).C = z.C /\ (l.foldl (stE c) z).S = z.S /\
  ∀ T : Cz, inT T z -> (∀ e ∈ l, getB z.C c = true -> getB z.S e.s.toNat = true -> T.m e.m) -> inT T (l.foldl (stE c) z)
 | [], z, _, _ => ⟨subZ_refl z, fun e h => (by cases h), rfl, rfl, fun _ h _ => h⟩
 | e :: l, z, hz, he => by
  obtain ⟨s1, s2, s3, s4, s5⟩ := stE_in (c := c) hz (he e (by simp))
  obtain ⟨i1, i2, i3, i4, i5⟩ := foldE_in (c := c) (l := l) (z := stE c z e) (stE_ok hz) (fun x hx => he x (by simp [hx]))
  rw [List.foldl_cons]
  refine ⟨subZ_trans s1 i1, fun x hx h1 h2 => ?_, by rw [i3, s3], by rw [i4, s4], fun T hT ht => i5 T (s5 T hT (ht e (by simp))) (fun x hx h1 h2 => ht x (by simp [hx]) (by rw [<- s3]; exact h1) (by rw [<- s4]; exact h2))⟩
  rcases List.mem_cons.1 hx with q | hx
  ·rw [q] at h2 ⊢
   exact i1.m.2 _ (s2 h1 h2)
  ·exact i2 x hx (by rw [s3]; exact h1) (by rw [s4]; exact h2)
theorem passE_in {w : Wd} (g : Good w) {nM nC nS : Nat} (hn : nC = w.classes.length) (he : ∀ c ∈ w.classes, ∀ e ∈ c, enR nM nS e) : ∀ {r m : List (List Et)} {z : Z3}, w.classes = m ++ r -> Zok nM nC nS z ->
  subZ z (passE r m.length z) /\ (passE r m.length z).C = z.C /\ (passE r m.length z).S = z.S /\
  (∀ (i : Nat) (c : List Et), r[i]? = some c -> ∀ e ∈ c, inM z.C ((m.length + i : Nat) : Int) -> inM z.S e.s -> inM (passE r m.length z).M e.m) /\
  ∀ T : Cz, Clo w w.roots T -> inT T z -> inT T (passE r m.length z)
 | [], m, z, _, _ => ⟨subZ_refl z, rfl, rfl, fun i c h => by simp at h, fun _ _ h => h⟩
 | c :: r, m, z, h, hz => by
  have hm : w.classes[m.length]? = some c := by rw [h]; simp
  have hcm := List.mem_of_getElem? hm
  obtain ⟨s1, s2, s3, s4, s5⟩ := foldE_in (c := m.length) hz (he c hcm)
  have ih := passE_in g hn he (r := r) (m := m ++ [c]) (z := c.foldl (stE m.length) z) (by simp [h]) (foldE_ok hz)
  rw [List.length_append, List.length_cons, List.length_nil, Nat.zero_add] at ih
  obtain ⟨i1, i2, i3, i4, i5⟩ := ih
  rw [show passE (c :: r) m.length z = passE r (m.length + 1) (c.foldl (stE m.length) z) from rfl]
  have hml : m.length < nC := by
   have := (List.getElem?_eq_some_iff.1 hm).1
   omega
  refine ⟨subZ_trans s1 i1, by rw [i2, s3], by rw [i3, s4], fun i d hi e hd hc hs => ?_, fun T hT hin => i5 T hT (s5 T hin fun e hec h1 h2 => ?_)⟩
  ·cases i with
   | zero =>
    rw [List.getElem?_cons_zero] at hi
    cases hi
    have hc' := hc.2.2
    rw [Nat.add_zero] at hc'
    exact i1.m.2 _ (s2 e hd hc' hs.2.2)
   | succ i =>
    rw [List.getElem?_cons_succ] at hi
    refine i4 i d hi e hd ?_ (by rw [s4]; exact hs)
    rw [s3, show m.length + 1 + i = m.length + (i + 1) by omega]
    exact hc
  ·have er := he c hcm e hec
   have k1 : T.c ((m.length : Nat) : Int) := hin.2.1 _ ⟨by omega, by rw [hz.c]; omega, h1⟩
   have k2 : T.s e.s := hin.2.2 _ ⟨er.1.1, by rw [hz.s]; exact er.1.2, h2⟩
   have hcl : clAt w ((m.length : Nat) : Int) = c := by
    unfold clAt
    rw [List.getD_eq_getElem?_getD, show (((m.length : Nat) : Int)).toNat = m.length from rfl, hm]
    rfl
   have hme : methM c e.s = e.m := by
    have hnd := (clsok_of g _ hcm).2
    unfold methM
    cases hf : c.find? (·.s == e.s) with
    | none => exact absurd (beq_self_eq_true e.s) (List.find?_eq_none.1 hf e hec)
    | some x =>
     have hx := List.mem_of_find?_eq_some hf
     have hxs : x.s = e.s := by simpa using List.find?_some hf
     have := nd_map_inj hnd hx hec hxs
     rw [this]
   have := hT.en _ e.s k1 k2 (by omega) (by omega)
   rw [hcl, hme] at this
   exact this er.2.1
def rnd (w : Wd) (z : Z3) : Z3 := passE w.classes 0 (passB w.bodies 0 z)
theorem rnd_ok {w : Wd} {nM nC nS : Nat} {z : Z3} (h : Zok nM nC nS z) : Zok nM nC nS (rnd w z) := passE_ok (passB_ok h)
def cnt3 (z : Z3) : Nat := (lsM z.M 0).length + (lsM z.C 0).length + (lsM z.S 0).length
theorem bdR_of {w : Wd} (g : Good w) : ∀ b ∈ w.bodies, bdR w.bodies.length w.classes.length 500 b := fun b hb => by
 obtain ⟨a, b', c⟩ := g.br b hb
 exact ⟨b', c, a⟩
theorem enR_of {w : Wd} (g : Good w) : ∀ c ∈ w.classes, ∀ e ∈ c, enR w.bodies.length 500 e := fun c hc e he => g.ent c hc e he
theorem rnd_in {w : Wd} (g : Good w) {z : Z3} (hz : Zok w.bodies.length w.classes.length 500 z) : subZ z (rnd w z) /\ ∀ T : Cz, Clo w w.roots T -> inT T z -> inT T (rnd w z) := by
 obtain ⟨b1, _, b3⟩ := passB_in (w := w) (nC := w.classes.length) (nS := 500) rfl (bdR_of g) (r := w.bodies) (m := []) (z := z) rfl hz
 obtain ⟨e1, _, _, _, e5⟩ := passE_in g (nM := w.bodies.length) (nS := 500) rfl (enR_of g) (r := w.classes) (m := []) (z := passB w.bodies 0 z) rfl (passB_ok hz)
 exact ⟨subZ_trans b1 e1, fun T hT h => e5 T hT (b3 T hT h)⟩
theorem inM_cons {b : Bool} {A : List Bool} {x : Int} : inM (b :: A) (x + 1) ↔ inM A x \/ (x = -1 /\ b = true) := by
 unfold inM getB
 constructor
 ·rintro ⟨h0, h1, h2⟩
  by_cases hx : x = -1
  ·subst hx
   exact .inr ⟨rfl, h2⟩
  ·left
   rw [show (x + 1).toNat = x.toNat + 1 by omega, List.getD_cons_succ] at h2
   rw [List.length_cons] at h1
   exact ⟨by omega, by omega, h2⟩
 ·rintro (⟨h0, h1, h2⟩ | ⟨h0, h2⟩)
  ·rw [show (x + 1).toNat = x.toNat + 1 by omega, List.getD_cons_succ, List.length_cons]
   exact ⟨by omega, by omega, h2⟩
  ·subst h0
   exact ⟨by omega, by simp, h2⟩
theorem subB_cons {a b : Bool} {A B : List Bool} (h : subB (a :: A) (b :: B)) : subB A B /\ (a = true -> b = true) := by
 refine ⟨⟨by simpa using h.1, fun x hx => ?_⟩, fun ha => ?_⟩
 ·have := h.2 (x + 1) (inM_cons.2 (.inl hx))
  rcases inM_cons.1 this with q | q
  ·exact q
  ·have := hx.1
   omega
 ·have := h.2 (-1 + 1) (inM_cons.2 (.inr ⟨rfl, ha⟩))
  rcases inM_cons.1 this with q | q
  ·have := q.1
   omega
  ·exact q.2
theorem ls_sub : ∀ {A B : List Bool} {n : Int}, subB A B -> (lsM A n).length ≤ (lsM B n).length /\ ((lsM A n).length = (lsM B n).length -> A = B)
 | [], [], _, _ => ⟨Nat.le_refl _, fun _ => rfl⟩
 | [], _ :: _, _, h => by have := h.1; simp at this
 | _ :: _, [], _, h => by have := h.1; simp at this
 | a :: A, b :: B, n, h => by
  obtain ⟨h1, h2⟩ := subB_cons h
  obtain ⟨i1, i2⟩ := ls_sub (n := n + 1) h1
  simp only [lsM, List.length_append]
  cases a with
  | true =>
   rw [h2 rfl]
   simp only [if_true, List.length_cons, List.length_nil]
   exact ⟨by omega, fun e => by rw [i2 (by omega)]⟩
  | false =>
   cases b with
   | false =>
    simp only [Bool.false_eq_true, if_false, List.length_nil]
    exact ⟨by omega, fun e => by rw [i2 (by omega)]⟩
   | true =>
    simp only [Bool.false_eq_true, if_false, if_true, List.length_cons, List.length_nil]
    exact ⟨by omega, fun e => by omega⟩
theorem cnt_sub {y z : Z3} (h : subZ y z) : cnt3 y ≤ cnt3 z /\ (cnt3 y = cnt3 z -> y = z) := by
 obtain ⟨a1, a2⟩ := ls_sub (n := 0) h.m
 obtain ⟨b1, b2⟩ := ls_sub (n := 0) h.c
 obtain ⟨c1, c2⟩ := ls_sub (n := 0) h.s
 unfold cnt3
 refine ⟨by omega, fun e => ?_⟩
 have e1 := a2 (by omega)
 have e2 := b2 (by omega)
 have e3 := c2 (by omega)
 cases y
 cases z
 simp only at e1 e2 e3
 rw [e1, e2, e3]
def runZ (w : Wd) : Nat -> Z3 -> Z3
 | 0, z => rnd w z
 | k + 1, z => if cnt3 z = cnt3 (rnd w z) then rnd w z else runZ w k (rnd w z)
theorem cnt_le {nM nC nS : Nat} {z : Z3} (h : Zok nM nC nS z) : cnt3 z ≤ nM + nC + nS := by
 have a := lsM_len (l := z.M) (n := 0)
 have b := lsM_len (l := z.C) (n := 0)
 have c := lsM_len (l := z.S) (n := 0)
 have := h.m
 have := h.c
 have := h.s
 unfold cnt3
 omega
theorem run_fix {w : Wd} (g : Good w) : ∀ {k : Nat} {z : Z3}, Zok w.bodies.length w.classes.length 500 z -> w.bodies.length + w.classes.length + 500 ≤ cnt3 z + k ->
  Zok w.bodies.length w.classes.length 500 (runZ w k z) /\ rnd w (runZ w k z) = runZ w k z /\ subZ z (runZ w k z) /\ ∀ T : Cz, Clo w w.roots T -> inT T z -> inT T (runZ w k z)
 | 0, z, hz, h => by
  obtain ⟨s1, s2⟩ := rnd_in g hz
  obtain ⟨c1, c2⟩ := cnt_sub s1
  have l1 := cnt_le (rnd_ok (w := w) hz)
  have e : z = rnd w z := c2 (by omega)
  show Zok _ _ _ (rnd w z) /\ rnd w (rnd w z) = rnd w z /\ subZ z (rnd w z) /\ _
  exact ⟨rnd_ok hz, by rw [<- e, <- e], s1, s2⟩
 | k + 1, z, hz, h => by
  obtain ⟨s1, s2⟩ := rnd_in g hz
  obtain ⟨c1, c2⟩ := cnt_sub s1
  rw [runZ]
  split
  ·rename_i he
   have e : z = rnd w z := c2 he
   exact ⟨rnd_ok hz, by rw [<- e, <- e], s1, s2⟩
  ·rename_i he
   obtain ⟨i1, i2, i3, i4⟩ := run_fix g (k := k) (z := rnd w z) (rnd_ok hz) (by omega)
   exact ⟨i1, i2, subZ_trans s1 i3, fun T hT h => i4 T hT (s2 T hT h)⟩
def zst (w : Wd) : Z3 := ⟨setL (fls w.bodies.length) w.roots, fls w.classes.length, fls 500⟩
theorem zst_ok {w : Wd} : Zok w.bodies.length w.classes.length 500 (zst w) := ⟨by show (setL _ _).length = _; rw [setL_len, fls_len], fls_len, fls_len⟩
def reaZ (w : Wd) : Z3 := runZ w (w.bodies.length + w.classes.length + 500) (zst w)
theorem bools_eq {A B : List Bool} (h : A.length = B.length) (e : ∀ x, inM A x ↔ inM B x) : A = B := by
 obtain ⟨a1, a2⟩ := ls_sub (n := 0) ⟨h, fun x => (e x).1⟩
 obtain ⟨b1, b2⟩ := ls_sub (n := 0) ⟨h.symm, fun x => (e x).2⟩
 exact a2 (by omega)
theorem rea_same {w : Wd} (g : Good w) : (reaZ w).M = (reaM w).z.M /\ (reaZ w).C = (reaM w).C /\ (reaZ w).S = (reaM w).S := by
 obtain ⟨z1, z2, z3, z4⟩ := run_fix g (k := w.bodies.length + w.classes.length + 500) zst_ok (by omega)
 change Zok _ _ _ (reaZ w) at z1
 change rnd w (reaZ w) = reaZ w at z2
 change subZ _ (reaZ w) at z3
 change ∀ T : Cz, Clo w w.roots T -> inT T (zst w) -> inT T (reaZ w) at z4
 have I := (rea_inv g).ok
 have rr : ∀ y ∈ w.roots, 0 ≤ y /\ y < (fls w.bodies.length).length := by rw [fls_len]; exact g.rr
 have start : ∀ T : Cz, Clo w w.roots T -> inT T (zst w) := fun T hT => ⟨fun x hx => by
  rcases (inM_setL rr).1 hx with q | q
  ·exact absurd q inM_fls
  ·exact hT.root x q, fun x hx => absurd hx inM_fls, fun x hx => absurd hx inM_fls⟩
 have up := z4 (reT w) (rea_clo g) (start _ (rea_clo g))
 obtain ⟨b1, b2, b3⟩ := passB_in (w := w) (nC := w.classes.length) (nS := 500) rfl (bdR_of g) (r := w.bodies) (m := []) (z := reaZ w) rfl z1
 obtain ⟨e1, e2, e3, e4, e5⟩ := passE_in g (nM := w.bodies.length) (nS := 500) rfl (enR_of g) (r := w.classes) (m := []) (z := passB w.bodies 0 (reaZ w)) rfl (passB_ok z1)
 change subZ _ (rnd w (reaZ w)) at e1
 change (rnd w (reaZ w)).C = _ at e2
 change (rnd w (reaZ w)).S = _ at e3
 rw [z2] at e1 e2 e3
 have e4 : ∀ (i : Nat) (c : List Et), w.classes[i]? = some c -> ∀ e ∈ c, inM (passB w.bodies 0 (reaZ w)).C (((0 : Nat) + i : Nat) : Int) -> inM (passB w.bodies 0 (reaZ w)).S e.s -> inM (rnd w (reaZ w)).M e.m := e4
 rw [z2, <- e2, <- e3] at e4
 have clo : Clo w w.roots ⟨inM (reaZ w).M, inM (reaZ w).C, inM (reaZ w).S⟩ := by
  have bod : ∀ q, inM (reaZ w).M q -> 0 ≤ q -> q < w.bodies.length -> (∀ x ∈ (bdAt w q).ms, inM (passB w.bodies 0 (reaZ w)).M x) /\ (∀ x ∈ (bdAt w q).cs, inM (passB w.bodies 0 (reaZ w)).C x) /\ ∀ x ∈ (bdAt w q).ss, inM (passB w.bodies 0 (reaZ w)).S x := fun q hq q0 q1 => by
   refine b2 q.toNat (bdAt w q) ?_ ?_
   ·unfold bdAt
    rw [List.getD_eq_getElem?_getD, List.getElem?_eq_getElem (by omega)]
    rfl
   ·rw [show (([] : List Bd).length + q.toNat : Nat) = q.toNat from Nat.zero_add _, show ((q.toNat : Nat) : Int) = q by omega]
    exact hq
  refine ⟨fun x hx => z3.m.2 x ((inM_setL rr).2 (.inr hx)), fun q hq q0 q1 x hx => e1.m.2 x ((bod q hq q0 q1).1 x hx), fun q hq q0 q1 x hx => e1.c.2 x ((bod q hq q0 q1).2.1 x hx), fun q hq q0 q1 x hx => e1.s.2 x ((bod q hq q0 q1).2.2 x hx), fun c s hc hs c0 c1 h0 => ?_⟩
  have hcl := clAt_some c0 c1
  unfold methM at h0 ⊢
  cases hf : (clAt w c).find? (·.s == s) with
  | none => rw [hf] at h0; simp at h0
  | some e =>
   have he := List.mem_of_find?_eq_some hf
   have hes : e.s = s := by simpa using List.find?_some hf
   refine e4 c.toNat (clAt w c) hcl e he ?_ (by rw [hes]; exact hs)
   rw [Nat.zero_add, show ((c.toNat : Nat) : Int) = c by omega]
   exact hc
 obtain ⟨d1, d2, d3⟩ := rea_least g clo
 exact ⟨bools_eq (by rw [z1.m, I.m]) fun x => ⟨fun h => ls_mem.1 (up.1 x h), fun h => d1 x (ls_mem.2 h)⟩,
  bools_eq (by rw [z1.c, I.c]) fun x => ⟨fun h => ls_mem.1 (up.2.1 x h), fun h => d2 x (ls_mem.2 h)⟩,
  bools_eq (by rw [z1.s, I.s]) fun x => ⟨fun h => ls_mem.1 (up.2.2 x h), fun h => d3 x (ls_mem.2 h)⟩⟩
end Go.Proofs.YtikppcfabnnhfaaDoor

/- The reference's Reach: its value. -/
namespace Go.Proofs.YtikppcfabnnhfaaDoor
open Go Go.Aw
set_option linter.unusedSimpArgs false
set_option linter.unusedVariables false
set_option maxRecDepth 100000
set_option maxHeartbeats 40000000
def rzV (nM nC nS : Nat) (Z : Z3) : List AV := [.ptr 60000 0 0, .ro 1 ((lsM Z.M 0).map (AV.int .i64)), .ro 1 ((lsM Z.C 0).map (AV.int .i64)), .ro 1 ((lsM Z.S 0).map (AV.int .i64)), .int .i64 0, .sl 60001 0 nM, .sl 60002 0 nC, .sl 60003 0 nS]
def rzO (w : Wd) (Z : Z3) : HL := [(60000, ⟨true, 3, [wdV w]⟩), (60001, bR Z.M), (60002, bR Z.C), (60003, bR Z.S)]
theorem rr7_loop {w : Wd} (g : Good w) : ∀ (k : Nat) (z : Z3), Zok w.bodies.length w.classes.length 500 z -> w.bodies.length + w.classes.length + 500 ≤ cnt3 z + k ->
  E.L 35 7 (rrV w.bodies.length w.classes.length 500 []) (rrO w z) = some ((.ret, rzV w.bodies.length w.classes.length 500 (runZ w k z), rzO w (runZ w k z)), True) := by
 have gn := g.nc
 have gb := g.nb
 have step : ∀ (z : Z3), Zok w.bodies.length w.classes.length 500 z -> ∀ (R : Option ((Exit × List AV × HL) × Prop)),
   (cnt3 z = cnt3 (rnd w z) -> R = some ((.ret, rzV w.bodies.length w.classes.length 500 (rnd w z), rzO w (rnd w z)), True)) ->
   (cnt3 z ≠ cnt3 (rnd w z) -> R = E.L 35 7 (rrV w.bodies.length w.classes.length 500 []) (rrO w (rnd w z))) -> 
   (∃ Y, cnt3 z = cnt3 (rnd w z) \/ E.L 35 7 (rrV w.bodies.length w.classes.length 500 []) (rrO w (rnd w z)) = some (Y, True)) ->
   E.L 35 7 (rrV w.bodies.length w.classes.length 500 []) (rrO w z) = R := by
  intro z hz R hR1 hR2 hY
  have hz2 := rnd_ok (w := w) hz
  have v1 := numbersr_ev (l := z.M) (by rw [hz.m]; omega)
  have v2 := numbersr_ev (l := z.C) (by rw [hz.c]; omega)
  have v3 := numbersr_ev (l := z.S) (by rw [hz.s]; omega)
  have u1 := numbersr_ev (l := (rnd w z).M) (by rw [hz2.m]; omega)
  have u2 := numbersr_ev (l := (rnd w z).C) (by rw [hz2.c]; omega)
  have u3 := numbersr_ev (l := (rnd w z).S) (by rw [hz2.s]; omega)
  rw [hz.m] at v1
  rw [hz.c] at v2
  rw [hz.s] at v3
  rw [hz2.m] at u1
  rw [hz2.c] at u2
  rw [hz2.s] at u3
  have n1 := lsM_len (l := z.M) (n := 0)
  have n2 := lsM_len (l := z.C) (n := 0)
  have n3 := lsM_len (l := z.S) (n := 0)
  have n4 := lsM_len (l := (rnd w z).M) (n := 0)
  have n5 := lsM_len (l := (rnd w z).C) (n := 0)
  have n6 := lsM_len (l := (rnd w z).S) (n := 0)
  rw [hz.m] at n1
  rw [hz.c] at n2
  rw [hz.s] at n3
  rw [hz2.m] at n4
  rw [hz2.c] at n5
  rw [hz2.s] at n6
  have b9 := fun bf => rr9_loop (w := w) (bf := bf) (nM := w.bodies.length) (nC := w.classes.length) (nS := 500) (by omega) rfl (by omega) (by omega) (fun b hb => by
   obtain ⟨l1, l2, l3⟩ := g.bl b hb
   exact ⟨⟨by omega, by omega, by omega⟩, bdR_of g b hb⟩) w.bodies [] z rfl hz
  have b14 := fun bf => rr14_loop (w := w) (bf := bf) (nM := w.bodies.length) (nC := w.classes.length) (nS := 500) (by omega) rfl (by omega) (by omega) (fun c hc => ⟨by have := g.len c hc; omega, enR_of g c hc⟩) w.classes [] (passB w.bodies 0 z) rfl (passB_ok hz)
  have b9 : ∀ bf, E.L 35 9 (rrV w.bodies.length w.classes.length 500 [.int .i64 bf, .int .i64 0]) (rrO w z) = some ((.exit 2, rrV w.bodies.length w.classes.length 500 [.int .i64 bf, .int .i64 w.bodies.length], rrO w (passB w.bodies 0 z)), True) := b9
  have b14 : ∀ bf, E.L 35 14 (rrV w.bodies.length w.classes.length 500 [.int .i64 bf, .int .i64 0]) (rrO w (passB w.bodies 0 z)) = some ((.exit 4, rrV w.bodies.length w.classes.length 500 [.int .i64 bf, .int .i64 w.classes.length], rrO w (rnd w z)), True) := b14
  have ce : cnt3 z = (lsM z.M 0).length + (lsM z.C 0).length + (lsM z.S 0).length := rfl
  have ce2 : cnt3 (rnd w z) = (lsM (rnd w z).M 0).length + (lsM (rnd w z).C 0).length + (lsM (rnd w z).S 0).length := rfl
  generalize passB w.bodies 0 z = y at b9 b14
  generalize rnd w z = Z at *
  have w1 : IntKind.i64.wrap (((lsM z.M 0).length : Int) + (lsM z.C 0).length) = (lsM z.M 0).length + (lsM z.C 0).length := wrap_id (by omega) (by omega)
  have w2 : IntKind.i64.wrap (((lsM z.M 0).length : Int) + (lsM z.C 0).length + (lsM z.S 0).length) = (lsM z.M 0).length + (lsM z.C 0).length + (lsM z.S 0).length := wrap_id (by omega) (by omega)
  have w3 : IntKind.i64.wrap (((lsM Z.M 0).length : Int) + (lsM Z.C 0).length) = (lsM Z.M 0).length + (lsM Z.C 0).length := wrap_id (by omega) (by omega)
  have w4 : IntKind.i64.wrap (((lsM Z.M 0).length : Int) + (lsM Z.C 0).length + (lsM Z.S 0).length) = (lsM Z.M 0).length + (lsM Z.C 0).length + (lsM Z.S 0).length := wrap_id (by omega) (by omega)
  by_cases he : cnt3 z = cnt3 Z
  ·have hb : ((((lsM z.M 0).length : Int) + (lsM z.C 0).length + (lsM z.S 0).length) == ((lsM Z.M 0).length + (lsM Z.C 0).length + (lsM Z.S 0).length)) = true := beq_iff_eq.2 (by omega)
   rw [hR1 he]
   simp only [rzV, rzO]
   generalize lsM Z.M 0 = A1 at *
   generalize lsM Z.C 0 = A2 at *
   generalize lsM Z.S 0 = A3 at *
   generalize lsM z.M 0 = A4 at *
   generalize lsM z.C 0 = A5 at *
   generalize lsM z.S 0 = A6 at *
   simp only [rrV, rrO, iR, bR, wdV, List.map_nil] at v1 v2 v3 u1 u2 u3 b9 b14
   rw [l35_7]
   simp (maxSteps := 100000000) only [ivc, anf, vlen, vbuiltin, nilR, eq_self, Nat.reduceEqDiff, Nat.reduceLT, Nat.reduceLeDiff, Nat.reduceAdd, Nat.reduceMul, Nat.reduceBEq, reduceCtorEq, ↓reduceIte, tyb, rrV, rrO, iR, bR, wdV, v1, v2, v3, u1, u2, u3, b9, b14, w1, w2, w3, w4, hb]
   try exact some_true (by omega)
  ·have hb : ((((lsM z.M 0).length : Int) + (lsM z.C 0).length + (lsM z.S 0).length) == ((lsM Z.M 0).length + (lsM Z.C 0).length + (lsM Z.S 0).length)) = false := beq_eq_false_iff_ne.2 (by omega)
   obtain ⟨Y, hY⟩ := hY
   have hY := hY.resolve_left he
   rw [hR2 he, hY]
   generalize lsM Z.M 0 = A1 at *
   generalize lsM Z.C 0 = A2 at *
   generalize lsM Z.S 0 = A3 at *
   generalize lsM z.M 0 = A4 at *
   generalize lsM z.C 0 = A5 at *
   generalize lsM z.S 0 = A6 at *
   simp only [rrV, rrO, iR, bR, wdV, List.map_nil] at v1 v2 v3 u1 u2 u3 b9 b14 hY
   rw [l35_7]
   simp (maxSteps := 100000000) only [ivc, anf, vlen, vbuiltin, nilR, eq_self, Nat.reduceEqDiff, Nat.reduceLT, Nat.reduceLeDiff, Nat.reduceAdd, Nat.reduceMul, Nat.reduceBEq, reduceCtorEq, ↓reduceIte, tyb, rrV, rrO, iR, bR, wdV, v1, v2, v3, u1, u2, u3, b9, b14, w1, w2, w3, w4, hb, hY]
   try exact some_true (by omega)
 intro k
 induction k with
 | zero =>
  intro z hz h
  obtain ⟨s1, s2⟩ := rnd_in g hz
  obtain ⟨c1, c2⟩ := cnt_sub s1
  have l1 := cnt_le (rnd_ok (w := w) hz)
  exact step z hz _ (fun _ => rfl) (fun he => absurd (by omega) he) ⟨(.ret, [], []), .inl (by omega)⟩
 | succ k ih =>
  intro z hz h
  obtain ⟨s1, s2⟩ := rnd_in g hz
  obtain ⟨c1, c2⟩ := cnt_sub s1
  rw [runZ]
  by_cases he : cnt3 z = cnt3 (rnd w z)
  ·rw [if_pos he]
   exact step z hz _ (fun _ => rfl) (fun he' => absurd he he') ⟨(.ret, [], []), .inl he⟩
  ·rw [if_neg he]
   have ih' := ih (rnd w z) (rnd_ok hz) (by omega)
   exact step z hz _ (fun he' => absurd he' he) (fun _ => ih'.symm) ⟨_, .inr ih'⟩
theorem rreach_ev {w : Wd} : E.F 35 [wdV w] [] = some ((if ckM w = 0 then .tup [.ro 1 ((lsM (reaM w).z.M 0).map (AV.int .i64)), .ro 1 ((lsM (reaM w).C 0).map (AV.int .i64)), .ro 1 ((lsM (reaM w).S 0).map (AV.int .i64)), .int .i64 0] else .tup [.ro 1 [], .ro 1 [], .ro 1 [], .int .i64 (ckM w)], []), True) := by
 have h1 := rcheck_ev (w := w)
 rw [e35]
 by_cases h : ckM w = 0
 case neg =>
  rw [if_neg h]
  have h' : (ckM w != 0) = true := bne_iff_ne.2 h
  generalize ckM w = v at h1 h' ⊢
  simp only [wdV] at h1
  simp (maxSteps := 100000000) only [ivc, anf, nilR, salloc, eq_self, Nat.reduceEqDiff, Nat.reduceLT, Nat.reduceLeDiff, Nat.reduceAdd, Nat.reduceBEq, ↓reduceIte, tyb, wdV, h1, h']
 rw [if_pos h]
 rw [h] at h1
 have g := good_of h
 have gn := g.nc
 have gb := g.nb
 obtain ⟨r1, r2, r3⟩ := rea_same g
 rw [<- r1, <- r2, <- r3]
 have lp := rr7_loop g (w.bodies.length + w.classes.length + 500) (zst w) zst_ok (by omega)
 rw [show runZ w (w.bodies.length + w.classes.length + 500) (zst w) = reaZ w from rfl] at lp
 have z1 := (run_fix g (k := w.bodies.length + w.classes.length + 500) (zst_ok (w := w)) (by omega)).1
 change Zok _ _ _ (reaZ w) at z1
 have n1 := lsM_len (l := (reaZ w).M) (n := 0)
 have n2 := lsM_len (l := (reaZ w).C) (n := 0)
 have n3 := lsM_len (l := (reaZ w).S) (n := 0)
 have v1 := set_ev (M := fls w.bodies.length) (l := w.roots) (by rw [fls_len]; omega) (by have := g.nr; omega) (by rw [fls_len]; exact g.rr)
 rw [fls_len] at v1
 unfold zst at lp
 generalize setL (fls w.bodies.length) w.roots = M0 at lp v1
 generalize reaZ w = Z at lp n1 n2 n3 ⊢
 simp only [rrV, rrO, rzV, rzO, iR, bR, wdV, List.map_nil] at h1 lp v1
 simp (maxSteps := 100000000) only [ivc, anf, vop, vlen, vbuiltin, nilR, salloc, eq_self, Nat.reduceEqDiff, Nat.reduceLT, Nat.reduceLeDiff, Nat.reduceAdd, Nat.reduceMul, Nat.reduceSub, Nat.reduceBEq, Int.reduceLE, Int.reduceToNat, Int.reduceMul, reduceCtorEq, ↓reduceIte, tyb, ↓rep_fls, rep_fls, fls500, wdV, h1, v1, lp]
 try exact some_true (by omega)
end Go.Proofs.YtikppcfabnnhfaaDoor

