/- A part of the proof of ColourTablesCardSaid. -/
import Derived.Test.YtikppcfabnnhfaaDoorC4
/- has, within; Grow with its errors. -/
namespace Go.Proofs.YtikppcfabnnhfaaDoor
open Go Go.Aw
set_option linter.unusedSimpArgs false
set_option linter.unusedVariables false
set_option maxRecDepth 100000
set_option maxHeartbeats 40000000
/-- What CheckColours says. -/
def ccM (w : Wd) (cs : List Int) : Int := if ckM w = 0 then ccW (graphW w) cs else ckM w
theorem grow_bad1 {w : Wd} {cs : List Int} {cl : List Et} (h : ccM w cs ≠ 0) :
  E.F 17 [wdV w, .ro 1 (cs.map (AV.int .i64)), .ro 2 (cl.map enV)] [] = some ((.tup [.ro 1 [], .ro 1 [], .int .i64 (ccM w cs)], []), True) := by
 have a1 := cc_ev (w := w) (cs := cs) okW_of
 rw [show (if ckM w = 0 then ccW (graphW w) cs else ckM w) = ccM w cs from rfl] at a1
 have h' : (ccM w cs != 0) = true := bne_iff_ne.2 h
 generalize ccM w cs = e at a1 h'
 simp only [wdV] at a1
 rw [e17]
 simp (maxSteps := 100000000) only [ivc, anf, nilR, salloc, eq_self, Nat.reduceEqDiff, Nat.reduceLT, Nat.reduceLeDiff, Nat.reduceAdd, Nat.reduceBEq, Int.reduceNeg, ↓reduceIte, tyb, wdV, a1, h']
theorem grow_bad2 {w : Wd} {cs : List Int} {cl : List Et} (hwl : w.classes.length ≤ 1000) (h : ccM w cs = 0) (h3 : ckM (moreW w cl) ≠ 0) :
  E.F 17 [wdV w, .ro 1 (cs.map (AV.int .i64)), .ro 2 (cl.map enV)] [] = some ((.tup [.ro 1 [], .ro 1 [], .int .i64 (ckM (moreW w cl))], []), True) := by
 have a1 := cc_ev (w := w) (cs := cs) okW_of
 rw [show (if ckM w = 0 then ccW (graphW w) cs else ckM w) = ccM w cs from rfl, h] at a1
 have a2 := clone45_ev (l := w.classes) (by omega)
 have a3 := check_ev (w := moreW w cl)
 have h' : (ckM (moreW w cl) != 0) = true := bne_iff_ne.2 h3
 generalize ckM (moreW w cl) = e at a3 h'
 simp only [wdV] at a1
 simp only [wdV, moreW, clV, List.map_append, List.map_cons, List.map_nil] at a3
 rw [e17]
 simp (maxSteps := 100000000) only [ivc, anf, vop, nilR, salloc, sappend, eq_self, Nat.reduceEqDiff, Nat.reduceLT, Nat.reduceLeDiff, Nat.reduceAdd, Nat.reduceMul, Nat.reduceBEq, Int.reduceNeg, ↓reduceIte, tyb, wdV, a1, a2, a3, h']
 exact some_true (by omega)
/-- Grow, where all is right. -/
theorem grow_good {w : Wd} {cs : List Int} {cl : List Et} (g : Good w) (gx : Good (moreW w cl)) (h : ColsOk (graphW w) cs) {o' c' : List Int} (hr : gwM (graphW (moreW w cl)) cl [] (ms0 w cl cs) [] = some (o', c')) :
  E.F 17 [wdV w, .ro 1 (cs.map (AV.int .i64)), .ro 2 (cl.map enV)] [] = some ((.tup [.ro 1 (o'.map (AV.int .i64)), .ro 1 (c'.map (AV.int .i64)), .int .i64 0], []), True) := by
 have gc := g.nc
 have hk := clsok_of gx
 have hz := sz_up g gx
 have hl := h.len
 refine grow_ev (by omega) (ck_of_good g) (okW_of (ck_of_good g)) (cc_iff.2 h) (ck_of_good gx) (okW_of (ck_of_good gx)) (by omega) (fun c hc => (h.bd c hc).2) (fun e he => ?_) hr
 have hcl : cl ∈ (moreW w cl).classes := moreW_cls.2 (.inr rfl)
 have h1 := (hk cl hcl).1 e he
 have kn := (knownW h1 hk).2 ⟨cl, hcl, List.mem_map.2 ⟨e, he, rfl⟩⟩
 have h2 := h1.1
 have h3 := h1.2
 have := szM_lt (n := 500) (m := e.s.toNat) (by rw [show ((e.s.toNat : Nat) : Int) = e.s by omega]; exact kn) (by omega)
 omega
end Go.Proofs.YtikppcfabnnhfaaDoor

/- list, method. -/
namespace Go.Proofs.YtikppcfabnnhfaaDoor
open Go Go.Aw
set_option linter.unusedSimpArgs false
set_option linter.unusedVariables false
set_option maxRecDepth 100000
set_option maxHeartbeats 40000000
def bR (l : List Bool) : Ob := ⟨false, 1, l.map AV.bool⟩
instance rf_bool : RowF AV.bool := ⟨fun _ => rfl, fun _ => rfl⟩
end Go.Proofs.YtikppcfabnnhfaaDoor

/- The reference's understood. -/
namespace Go.Proofs.YtikppcfabnnhfaaDoor
open Go Go.Aw
set_option linter.unusedSimpArgs false
set_option linter.unusedVariables false
set_option maxRecDepth 100000
set_option maxHeartbeats 40000000
theorem moL_rng : ∀ {c : List Et} {n : Int}, (∀ e ∈ c, 0 ≤ e.s /\ e.s < 500) -> 0 ≤ n -> n ≤ 500 -> n ≤ moL c n /\ moL c n ≤ 500 /\ ∀ e ∈ c, e.s < moL c n
 | [], n, _, h0, h1 => ⟨Int.le_refl _, h1, fun e he => by cases he⟩
 | x :: c, n, h, h0, h1 => by
  have hx := h x (by simp)
  have hm : n ≤ maxI n (x.s + 1) /\ maxI n (x.s + 1) ≤ 500 /\ x.s < maxI n (x.s + 1) := by
   unfold maxI
   split <;> omega
  obtain ⟨a1, a2, a3⟩ := moL_rng (c := c) (n := maxI n (x.s + 1)) (fun e he => h e (by simp [he])) (by omega) hm.2.1
  rw [show moL (x :: c) n = moL c (maxI n (x.s + 1)) from rfl]
  refine ⟨by omega, a2, fun e he => ?_⟩
  rcases List.mem_cons.1 he with rfl | he
  ·omega
  ·exact a3 e he
theorem moM_rng : ∀ {cs : List (List Et)} {n : Int}, (∀ c ∈ cs, ∀ e ∈ c, 0 ≤ e.s /\ e.s < 500) -> 0 ≤ n -> n ≤ 500 -> n ≤ moM cs n /\ moM cs n ≤ 500 /\ ∀ c ∈ cs, ∀ e ∈ c, e.s < moM cs n
 | [], n, _, h0, h1 => ⟨Int.le_refl _, h1, fun e he => by cases he⟩
 | x :: c, n, h, h0, h1 => by
  obtain ⟨b1, b2, b3⟩ := moL_rng (c := x) (n := n) (h x (by simp)) h0 h1
  obtain ⟨a1, a2, a3⟩ := moM_rng (cs := c) (n := moL x n) (fun e he => h e (by simp [he])) (by omega) b2
  rw [show moM (x :: c) n = moM c (moL x n) from rfl]
  refine ⟨by omega, a2, fun k hk e he => ?_⟩
  rcases List.mem_cons.1 hk with rfl | hk
  ·have := b3 e he
   omega
  ·exact a3 k hk e he
def unL (c : List Et) (u : List Bool) : List Bool := c.foldl (fun u e => u.set e.s.toNat true) u
def unM (cs : List (List Et)) (u : List Bool) : List Bool := cs.foldl (fun u c => unL c u) u
theorem unL_len : ∀ {c : List Et} {u : List Bool}, (unL c u).length = u.length
 | [], _ => rfl
 | x :: c, u => by
  rw [show unL (x :: c) u = unL c (u.set x.s.toNat true) from rfl, unL_len, List.length_set]
theorem unM_len : ∀ {cs : List (List Et)} {u : List Bool}, (unM cs u).length = u.length
 | [], _ => rfl
 | x :: c, u => by
  rw [show unM (x :: c) u = unM c (unL x u) from rfl, unM_len, unL_len]
def uH (w : Wd) (u : List Bool) : HL := [(60000, ⟨true, 3, [wdV w]⟩), (60001, bR u)]
theorem getB {l : List Bool} {i : Nat} (h : i < l.length) : (l.map AV.bool).getD i .junk = .bool (l.getD i false) := by
 simp [List.getD_eq_getElem?_getD, List.getElem?_eq_getElem h]
theorem un7_loop {w : Wd} {k n : Nat} {c : List Et} (hk : w.classes[k]? = some c) (hn : w.classes.length ≤ 1000) (hl : c.length ≤ 1000) (hs : ∀ e ∈ c, 0 ≤ e.s /\ e.s < n) : ∀ (r m : List Et) (u : List Bool), c = m ++ r -> u.length = n ->
  E.L 63 7 [.ptr 60000 0 0, .sl 60001 0 n, .int .i64 k, .int .i64 m.length] (uH w u) = some ((.exit 2, [.ptr 60000 0 0, .sl 60001 0 n, .int .i64 k, .int .i64 c.length], uH w (unL r u)), True) := by
 have hkl := (List.getElem?_eq_some_iff.1 hk).1
 have hg2 := getD_map (f := clV) hk
 have q2 : (0 ≤ (k : Int) /\ (k : Int) < w.classes.length) = True := eq_true (by omega)
 intro r
 induction r with
 | nil =>
  intro m u h hu
  rw [List.append_nil] at h
  subst h
  have q : ((c.length : Int) < c.length) = False := eq_false (by omega)
  rw [l63_7]
  simp (maxSteps := 100000000) only [ivc, anf, vop, vlen, vbuiltin, nilR, eq_self, Nat.reduceEqDiff, Nat.reduceLT, Nat.reduceLeDiff, Nat.reduceAdd, Nat.reduceBEq, reduceCtorEq, ↓reduceIte, tyb, uH, bR, wdV, clV, hg2, q2, q, unL, List.foldl_nil]
 | cons x r ih =>
  intro m u h hu
  have hn : m.length + (r.length + 1) = c.length := by rw [h]; simp
  have hi' : (m.length : Int) < c.length := by omega
  have hg := getD_map (f := enV) (show c[m.length]? = some x by rw [h]; simp)
  have hx := hs x (by rw [h]; simp)
  have q3 : (0 ≤ x.s /\ x.s < n) = True := eq_true hx
  have g3 := getB (l := u) (i := x.s.toNat) (by omega)
  have s3 : (u.map AV.bool).set x.s.toNat (.bool true) = (u.set x.s.toNat true).map AV.bool := List.map_set.symm
  have hw : IntKind.i64.wrap ((m.length : Int) + 1) = m.length + 1 := wrap_id (by omega) (by omega)
  have hc : (0 ≤ (m.length : Int) /\ (m.length : Int) < c.length) = True := eq_true (by omega)
  have ih' := ih (m ++ [x]) (u.set x.s.toNat true) (by simp [h]) (by rw [List.length_set, hu])
  rw [show unL (x :: r) u = unL r (u.set x.s.toNat true) from rfl]
  simp only [List.length_append, List.length_cons, List.length_nil, Nat.zero_add, Int.natCast_add, Int.cast_ofNat_Int, uH, bR, wdV] at ih'
  rw [l63_7]
  simp (maxSteps := 100000000) only [ivc, anf, vop, vlen, vbuiltin, nilR, eq_self, Nat.reduceEqDiff, Nat.reduceLT, Nat.reduceLeDiff, Nat.reduceAdd, Nat.reduceBEq, reduceCtorEq, ↓reduceIte, tyb, uH, bR, wdV, clV, enV, hg2, q2, hi', hg, hw, q3, g3, s3, ih']
  try exact some_true (by omega)
theorem un4_loop {w : Wd} {n : Nat} (hl : w.classes.length ≤ 1000) (hs : ∀ c ∈ w.classes, c.length ≤ 1000 /\ ∀ e ∈ c, 0 ≤ e.s /\ e.s < n) : ∀ (r m : List (List Et)) (u : List Bool), w.classes = m ++ r -> u.length = n ->
  E.L 63 4 [.ptr 60000 0 0, .sl 60001 0 n, .int .i64 m.length] (uH w u) = some ((.exit 0, [.ptr 60000 0 0, .sl 60001 0 n, .int .i64 w.classes.length], uH w (unM r u)), True) := by
 intro r
 induction r with
 | nil =>
  intro m u h hu
  rw [List.append_nil] at h
  rw [<- h, l63_4]
  simp (maxSteps := 100000000) only [ivc, anf, vop, vlen, vbuiltin, nilR, eq_self, Nat.reduceEqDiff, Nat.reduceLT, Nat.reduceLeDiff, Nat.reduceAdd, Nat.reduceBEq, reduceCtorEq, ↓reduceIte, tyb, uH, bR, wdV, Int.lt_irrefl, unM, List.foldl_nil]
 | cons x r ih =>
  intro m u h hu
  have hn : m.length + (r.length + 1) = w.classes.length := by rw [h]; simp
  have hi' : (m.length : Int) < w.classes.length := by omega
  have hm : w.classes[m.length]? = some x := by rw [h]; simp
  have hw : IntKind.i64.wrap ((m.length : Int) + 1) = m.length + 1 := wrap_id (by omega) (by omega)
  obtain ⟨x1, x2⟩ := hs x (List.mem_of_getElem? hm)
  have lp := un7_loop hm hl x1 x2 x [] u rfl hu
  have ih' := ih (m ++ [x]) (unL x u) (by simp [h]) (by rw [unL_len, hu])
  simp only [List.length_append, List.length_cons, List.length_nil, Nat.zero_add, Int.natCast_add, Int.cast_ofNat_Int, uH, bR, wdV] at ih' lp
  rw [show unM (x :: r) u = unM r (unL x u) from rfl, l63_4]
  simp (maxSteps := 100000000) only [ivc, anf, vop, vlen, vbuiltin, nilR, eq_self, Nat.reduceEqDiff, Nat.reduceLT, Nat.reduceLeDiff, Nat.reduceAdd, Nat.reduceBEq, reduceCtorEq, ↓reduceIte, tyb, uH, bR, wdV, hi', hw, lp, ih']
  try exact some_true (by omega)
def fals (n : Nat) : List Bool := List.replicate n false
theorem fals_map {n : Nat} : List.replicate n (AV.bool false) = (fals n).map AV.bool := by simp [fals]
def unW (w : Wd) : List Bool := unM w.classes (fals (moM w.classes 0).toNat)
theorem unW_len {w : Wd} : (unW w).length = (moM w.classes 0).toNat := by rw [unW, unM_len, fals, List.length_replicate]
theorem und_ev {w : Wd} (hl : w.classes.length ≤ 1000) (hs : ∀ c ∈ w.classes, c.length ≤ 1000 /\ ∀ e ∈ c, 0 ≤ e.s /\ e.s < 500) : E.F 63 [wdV w] [] = some ((.ro 1 ((unW w).map AV.bool), []), True) := by
 obtain ⟨a1, a2, a3⟩ := moM_rng (n := 0) (fun c hc => (hs c hc).2) (by omega) (by omega)
 have mo := most_ev hl hs
 have lp := un4_loop (n := (moM w.classes 0).toNat) hl (fun c hc => ⟨(hs c hc).1, fun e he => ⟨((hs c hc).2 e he).1, by have := a3 c hc e he; omega⟩⟩) w.classes [] (fals (moM w.classes 0).toNat) rfl (by rw [fals, List.length_replicate])
 have hlen := unW_len (w := w)
 unfold unW at hlen ⊢
 have e1 : moM w.classes 0 = ((moM w.classes 0).toNat : Nat) := by omega
 have e2 : (moM w.classes 0).toNat ≤ 500 := by omega
 rw [e1] at mo
 generalize (moM w.classes 0).toNat = N at mo lp hlen e2 ⊢
 generalize unM w.classes (fals N) = U at lp hlen ⊢
 have tk : (U.map AV.bool).take N = U.map AV.bool := List.take_of_length_le (by simp [hlen])
 simp only [List.length_nil, Int.natCast_zero, uH, bR, wdV] at lp
 simp only [wdV] at mo
 rw [e63]
 simp (maxSteps := 100000000) only [ivc, anf, salloc, eq_self, Nat.reduceEqDiff, Nat.reduceLT, Nat.reduceLeDiff, Nat.reduceAdd, Nat.reduceBEq, reduceCtorEq, ↓reduceIte, tyb, wdV, mo, fals_map, lp, tk]
 try exact some_true (by omega)
end Go.Proofs.YtikppcfabnnhfaaDoor

/- The reference's CheckColours: loops. -/
namespace Go.Proofs.YtikppcfabnnhfaaDoor
open Go Go.Aw
set_option linter.unusedSimpArgs false
set_option linter.unusedVariables false
set_option maxRecDepth 100000
set_option maxHeartbeats 40000000
def anyF (p : Nat -> Bool) : Nat -> Nat -> Bool
 | 0, _ => false
 | k + 1, j => p j || anyF p k (j + 1)
def rb1 (U : List Bool) (cs : List Int) (j : Nat) : Bool := (U.getD j false && (decide (cs.getD j 0 < 0) || decide (499 < cs.getD j 0))) || (!(U.getD j false) && (cs.getD j 0 != -1))
def bV (l : List Bool) : AV := .ro 1 (l.map AV.bool)
theorem rc9_loop {w : Wd} {U : List Bool} {cs : List Int} {N : Nat} (hN : N ≤ 1000) (hU : U.length = N) (hc : cs.length = N) : ∀ (k j : Nat), j + k = N ->
  ∃ e : Int, E.L 27 9 [.ro 1 (cs.map (AV.int .i64)), .ptr 60000 0 0, .int .i64 0, bV U, .int .i64 j] (wO w) = some ((if anyF (rb1 U cs) k j then .ret else .exit 0, [.ro 1 (cs.map (AV.int .i64)), .ptr 60000 0 0, .int .i64 (if anyF (rb1 U cs) k j then 3 else 0), bV U, .int .i64 e], wO w), True) := by
 intro k
 induction k with
 | zero =>
  intro j h
  have q : ((j : Int) < N) = False := eq_false (by omega)
  refine ⟨j, ?_⟩
  rw [l27_9]
  simp (maxSteps := 100000000) only [ivc, anf, vlen, vbuiltin, nilR, eq_self, Nat.reduceEqDiff, Nat.reduceLT, Nat.reduceLeDiff, Nat.reduceAdd, Nat.reduceBEq, Int.reduceNeg, reduceCtorEq, ↓reduceIte, tyb, wO, wdV, bV, hU, q, anyF]
 | succ k ih =>
  intro j h
  have q : ((j : Int) < N) = True := eq_true (by omega)
  have q2 : (0 ≤ (j : Int)) = True := eq_true (by omega)
  have gU := getB (l := U) (i := j) (by omega)
  have gc := getI (l := cs) (i := j) (by omega)
  have hw : IntKind.i64.wrap ((j : Int) + 1) = j + 1 := wrap_id (by omega) (by omega)
  obtain ⟨e, ih'⟩ := ih (j + 1) (by omega)
  simp only [Int.natCast_add, Int.cast_ofNat_Int, wO, wdV, bV] at ih'
  have re : rb1 U cs j = ((U.getD j false && (decide (cs.getD j 0 < 0) || decide (499 < cs.getD j 0))) || (!(U.getD j false) && (cs.getD j 0 != -1))) := rfl
  generalize U.getD j false = u at gU re
  generalize cs.getD j 0 = c at gc re
  cases u with
  | true =>
   by_cases b1 : c < 0
   ·refine ⟨j, ?_⟩
    rw [l27_9]
    simp (maxSteps := 100000000) only [ivc, anf, vop, vlen, vbuiltin, nilR, eq_self, Nat.reduceEqDiff, Nat.reduceLT, Nat.reduceLeDiff, Nat.reduceAdd, Nat.reduceBEq, Int.reduceLT, Int.reduceNeg, Int.reduceBNe, reduceCtorEq, ↓reduceIte, tyb, wO, wdV, bV, hU, hc, q, q2, gU, gc, b1, anyF, re]
    try exact some_true (by omega)
   ·by_cases b2 : 499 < c
    ·refine ⟨j, ?_⟩
     rw [l27_9]
     simp (maxSteps := 100000000) only [ivc, anf, vop, vlen, vbuiltin, nilR, eq_self, Nat.reduceEqDiff, Nat.reduceLT, Nat.reduceLeDiff, Nat.reduceAdd, Nat.reduceBEq, Int.reduceNeg, Int.reduceBNe, reduceCtorEq, ↓reduceIte, tyb, wO, wdV, bV, hU, hc, q, q2, gU, gc, b1, b2, anyF, re]
     try exact some_true (by omega)
    ·refine ⟨e, ?_⟩
     rw [l27_9]
     simp (maxSteps := 100000000) only [ivc, anf, vop, vlen, vbuiltin, nilR, eq_self, Nat.reduceEqDiff, Nat.reduceLT, Nat.reduceLeDiff, Nat.reduceAdd, Nat.reduceBEq, Int.reduceNeg, Int.reduceBNe, reduceCtorEq, ↓reduceIte, tyb, wO, wdV, bV, hU, hc, q, q2, gU, gc, hw, b1, b2, anyF, re, ih']
     try exact some_true (by omega)
  | false =>
   cases b1 : (c != -1) with
   | true =>
    refine ⟨j, ?_⟩
    rw [l27_9]
    simp (maxSteps := 100000000) only [ivc, anf, vop, vlen, vbuiltin, nilR, eq_self, Nat.reduceEqDiff, Nat.reduceLT, Nat.reduceLeDiff, Nat.reduceAdd, Nat.reduceBEq, Int.reduceLT, Int.reduceNeg, reduceCtorEq, ↓reduceIte, tyb, wO, wdV, bV, hU, hc, q, q2, gU, gc, b1, anyF, re]
    try exact some_true (by omega)
   | false =>
    refine ⟨e, ?_⟩
    rw [l27_9]
    simp (maxSteps := 100000000) only [ivc, anf, vop, vlen, vbuiltin, nilR, eq_self, Nat.reduceEqDiff, Nat.reduceLT, Nat.reduceLeDiff, Nat.reduceAdd, Nat.reduceBEq, Int.reduceLT, Int.reduceNeg, reduceCtorEq, ↓reduceIte, tyb, wO, wdV, bV, hU, hc, q, q2, gU, gc, hw, b1, anyF, re, ih']
    try exact some_true (by omega)
def rcl (w : Wd) (U : List Bool) (cs : List Int) (a b : Nat) : Bool := U.getD a false && (U.getD b false && ((cs.getD a 0 == cs.getD b 0) && cfB w a b))
theorem rc17_loop {w : Wd} {U : List Bool} {cs : List Int} {N : Nat} (hN : N ≤ 1000) (hU : U.length = N) (hc : cs.length = N) (hl : w.classes.length ≤ 1000) (hs : ∀ c ∈ w.classes, c.length ≤ 1000) {a : Nat} (ha : a < N) : ∀ (k j : Nat), j + k = N ->
  ∃ e : Int, E.L 27 17 [.ro 1 (cs.map (AV.int .i64)), .ptr 60000 0 0, .int .i64 0, bV U, .int .i64 a, .int .i64 j] (wO w) = some ((if anyF (rcl w U cs a) k j then .ret else .exit 4, [.ro 1 (cs.map (AV.int .i64)), .ptr 60000 0 0, .int .i64 (if anyF (rcl w U cs a) k j then 250 else 0), bV U, .int .i64 a, .int .i64 e], wO w), True) := by
 have r2 : ((a : Int) < N) = True := eq_true (by omega)
 have r3 : (0 ≤ (a : Int)) = True := eq_true (by omega)
 have gUa := getB (l := U) (i := a) (by omega)
 have gca := getI (l := cs) (i := a) (by omega)
 intro k
 induction k with
 | zero =>
  intro j h
  have q : ((j : Int) < N) = False := eq_false (by omega)
  refine ⟨j, ?_⟩
  rw [l27_17]
  simp (maxSteps := 100000000) only [ivc, anf, vlen, vbuiltin, nilR, eq_self, Nat.reduceEqDiff, Nat.reduceLT, Nat.reduceLeDiff, Nat.reduceAdd, Nat.reduceBEq, reduceCtorEq, ↓reduceIte, tyb, wO, wdV, bV, hU, q, anyF]
 | succ k ih =>
  intro j h
  have q : ((j : Int) < N) = True := eq_true (by omega)
  have q2 : (0 ≤ (j : Int)) = True := eq_true (by omega)
  have gU := getB (l := U) (i := j) (by omega)
  have gc := getI (l := cs) (i := j) (by omega)
  have hw : IntKind.i64.wrap ((j : Int) + 1) = j + 1 := wrap_id (by omega) (by omega)
  have cv := conflict_ev (w := w) (a := a) (b := j) hl hs
  obtain ⟨e, ih'⟩ := ih (j + 1) (by omega)
  simp only [Int.natCast_add, Int.cast_ofNat_Int, wO, wdV, bV] at ih' cv
  have re : rcl w U cs a j = (U.getD a false && (U.getD j false && ((cs.getD a 0 == cs.getD j 0) && cfB w a j))) := rfl
  cases b1 : U.getD a false with
  | false =>
   rw [b1] at gUa re
   refine ⟨e, ?_⟩
   rw [l27_17]
   simp (maxSteps := 100000000) only [ivc, anf, vlen, vbuiltin, nilR, eq_self, Nat.reduceEqDiff, Nat.reduceLT, Nat.reduceLeDiff, Nat.reduceAdd, Nat.reduceBEq, reduceCtorEq, ↓reduceIte, tyb, wO, wdV, bV, hU, hc, q, q2, r2, r3, gUa, gU, gca, gc, hw, anyF, re, ih']
   try exact some_true (by omega)
  | true =>
   rw [b1] at gUa re
   cases b2 : U.getD j false with
   | false =>
    rw [b2] at gU re
    refine ⟨e, ?_⟩
    rw [l27_17]
    simp (maxSteps := 100000000) only [ivc, anf, vlen, vbuiltin, nilR, eq_self, Nat.reduceEqDiff, Nat.reduceLT, Nat.reduceLeDiff, Nat.reduceAdd, Nat.reduceBEq, reduceCtorEq, ↓reduceIte, tyb, wO, wdV, bV, hU, hc, q, q2, r2, r3, gUa, gU, gca, gc, hw, anyF, re, ih']
    try exact some_true (by omega)
   | true =>
    rw [b2] at gU re
    cases b3 : (cs.getD a 0 == cs.getD j 0) with
    | false =>
     rw [b3] at re
     refine ⟨e, ?_⟩
     rw [l27_17]
     simp (maxSteps := 100000000) only [ivc, anf, vlen, vbuiltin, nilR, eq_self, Nat.reduceEqDiff, Nat.reduceLT, Nat.reduceLeDiff, Nat.reduceAdd, Nat.reduceBEq, reduceCtorEq, ↓reduceIte, tyb, wO, wdV, bV, hU, hc, q, q2, r2, r3, gUa, gU, gca, gc, b3, hw, anyF, re, ih']
     try exact some_true (by omega)
    | true =>
     rw [b3] at re
     cases b4 : cfB w a j with
     | false =>
      rw [b4] at re cv
      refine ⟨e, ?_⟩
      rw [l27_17]
      simp (maxSteps := 100000000) only [ivc, anf, vlen, vbuiltin, nilR, eq_self, Nat.reduceEqDiff, Nat.reduceLT, Nat.reduceLeDiff, Nat.reduceAdd, Nat.reduceBEq, reduceCtorEq, ↓reduceIte, tyb, wO, wdV, bV, hU, hc, q, q2, r2, r3, gUa, gU, gca, gc, b3, cv, hw, anyF, re, ih']
      try exact some_true (by omega)
     | true =>
      rw [b4] at re cv
      refine ⟨j, ?_⟩
      rw [l27_17]
      simp (maxSteps := 100000000) only [ivc, anf, vlen, vbuiltin, nilR, eq_self, Nat.reduceEqDiff, Nat.reduceLT, Nat.reduceLeDiff, Nat.reduceAdd, Nat.reduceBEq, reduceCtorEq, ↓reduceIte, tyb, wO, wdV, bV, hU, hc, q, q2, r2, r3, gUa, gU, gca, gc, b3, cv, anyF, re]
      try exact some_true (by omega)
def rclA (w : Wd) (U : List Bool) (cs : List Int) (N a : Nat) : Bool := anyF (rcl w U cs a) (N - (a + 1)) (a + 1)
theorem rc14_loop {w : Wd} {U : List Bool} {cs : List Int} {N : Nat} (hN : N ≤ 1000) (hU : U.length = N) (hc : cs.length = N) (hl : w.classes.length ≤ 1000) (hs : ∀ c ∈ w.classes, c.length ≤ 1000) : ∀ (k j : Nat), j + k = N ->
  ∃ e : Int, E.L 27 14 [.ro 1 (cs.map (AV.int .i64)), .ptr 60000 0 0, .int .i64 0, bV U, .int .i64 j] (wO w) = some ((if anyF (rclA w U cs N) k j then .ret else .exit 2, [.ro 1 (cs.map (AV.int .i64)), .ptr 60000 0 0, .int .i64 (if anyF (rclA w U cs N) k j then 250 else 0), bV U, .int .i64 e], wO w), True) := by
 intro k
 induction k with
 | zero =>
  intro j h
  have q : ((j : Int) < N) = False := eq_false (by omega)
  refine ⟨j, ?_⟩
  rw [l27_14]
  simp (maxSteps := 100000000) only [ivc, anf, vlen, vbuiltin, nilR, eq_self, Nat.reduceEqDiff, Nat.reduceLT, Nat.reduceLeDiff, Nat.reduceAdd, Nat.reduceBEq, reduceCtorEq, ↓reduceIte, tyb, wO, wdV, bV, hU, q, anyF]
 | succ k ih =>
  intro j h
  have q : ((j : Int) < N) = True := eq_true (by omega)
  have hw : IntKind.i64.wrap ((j : Int) + 1) = j + 1 := wrap_id (by omega) (by omega)
  obtain ⟨e1, lp⟩ := rc17_loop (w := w) hN hU hc hl hs (a := j) (by omega) (N - (j + 1)) (j + 1) (by omega)
  obtain ⟨e, ih'⟩ := ih (j + 1) (by omega)
  have re : anyF (rcl w U cs j) (N - (j + 1)) (j + 1) = rclA w U cs N j := rfl
  rw [re] at lp
  simp only [Int.natCast_add, Int.cast_ofNat_Int, wO, wdV, bV] at ih' lp
  cases b : rclA w U cs N j with
  | true =>
   simp only [b, if_true] at lp
   refine ⟨j, ?_⟩
   rw [l27_14]
   simp (maxSteps := 100000000) only [ivc, anf, vlen, vbuiltin, nilR, eq_self, Nat.reduceEqDiff, Nat.reduceLT, Nat.reduceLeDiff, Nat.reduceAdd, Nat.reduceBEq, reduceCtorEq, ↓reduceIte, tyb, wO, wdV, bV, hU, q, hw, lp, anyF, b]
   try exact some_true (by omega)
  | false =>
   simp only [b, Bool.false_eq_true, if_false] at lp
   refine ⟨e, ?_⟩
   rw [l27_14]
   simp (maxSteps := 100000000) only [ivc, anf, vlen, vbuiltin, nilR, eq_self, Nat.reduceEqDiff, Nat.reduceLT, Nat.reduceLeDiff, Nat.reduceAdd, Nat.reduceBEq, reduceCtorEq, ↓reduceIte, tyb, wO, wdV, bV, hU, q, hw, lp, anyF, b, ih']
   try exact some_true (by omega)
/-- What the reference's CheckColours says. -/
def rccM (w : Wd) (cs : List Int) : Int := if ckM w = 0 then if cs.length = (unW w).length then if anyF (rb1 (unW w) cs) cs.length 0 then 3 else if anyF (rclA w (unW w) cs cs.length) cs.length 0 then 250 else 0 else 4 else ckM w
theorem rcc_ev {w : Wd} {cs : List Int} : E.F 27 [wdV w, .ro 1 (cs.map (AV.int .i64))] [] = some ((.int .i64 (rccM w cs), []), True) := by
 have h1 := rcheck_ev (w := w)
 unfold rccM
 rw [e27]
 by_cases h : ckM w = 0
 ·rw [if_pos h]
  rw [h] at h1
  have g := good_of h
  have gn := g.nc
  have gs : ∀ c ∈ w.classes, c.length ≤ 1000 /\ ∀ e ∈ c, 0 ≤ e.s /\ e.s < 500 := fun c hc => ⟨by have := g.len c hc; omega, fun e he => (g.ent c hc e he).1⟩
  have h2 := und_ev (w := w) (by omega) gs
  have hul : (unW w).length ≤ 500 := by
   rw [unW_len]
   have := (moM_rng (cs := w.classes) (n := 0) (fun c hc => (gs c hc).2) (by omega) (by omega)).2.1
   omega
  simp only [wdV] at h1 h2
  generalize unW w = U at h2 hul ⊢
  by_cases hl : cs.length = U.length
  ·rw [if_pos hl]
   obtain ⟨x9, l9⟩ := rc9_loop (w := w) (U := U) (cs := cs) (N := cs.length) (by omega) hl.symm rfl cs.length 0 (by omega)
   obtain ⟨x14, l14⟩ := rc14_loop (w := w) (U := U) (cs := cs) (N := cs.length) (by omega) hl.symm rfl (by omega) (fun c hc => (gs c hc).1) cs.length 0 (by omega)
   have hb : ((cs.length : Int) != U.length) = false := by rw [hl]; simp
   simp only [wdV, wO, bV, Int.natCast_zero] at l9 l14
   cases b1 : anyF (rb1 U cs) cs.length 0 with
   | true =>
    simp only [b1, if_true] at l9
    simp (maxSteps := 100000000) only [ivc, anf, vlen, vbuiltin, nilR, salloc, eq_self, Nat.reduceEqDiff, Nat.reduceLT, Nat.reduceLeDiff, Nat.reduceAdd, Nat.reduceBEq, Int.reduceNeg, reduceCtorEq, ↓reduceIte, tyb, wdV, h1, h2, hb, l9]
   | false =>
    simp only [b1, Bool.false_eq_true, if_false] at l9
    cases b2 : anyF (rclA w U cs cs.length) cs.length 0 with
    | true =>
     simp only [b2, if_true] at l14
     simp (maxSteps := 100000000) only [ivc, anf, vlen, vbuiltin, nilR, salloc, eq_self, Nat.reduceEqDiff, Nat.reduceLT, Nat.reduceLeDiff, Nat.reduceAdd, Nat.reduceBEq, Int.reduceNeg, reduceCtorEq, ↓reduceIte, tyb, wdV, h1, h2, hb, l9, l14]
    | false =>
     simp only [b2, Bool.false_eq_true, if_false] at l14
     simp (maxSteps := 100000000) only [ivc, anf, vlen, vbuiltin, nilR, salloc, eq_self, Nat.reduceEqDiff, Nat.reduceLT, Nat.reduceLeDiff, Nat.reduceAdd, Nat.reduceBEq, Int.reduceNeg, reduceCtorEq, ↓reduceIte, tyb, wdV, h1, h2, hb, l9, l14]
  ·rw [if_neg hl]
   have hb : ((cs.length : Int) != U.length) = true := bne_iff_ne.2 (by omega)
   simp (maxSteps := 100000000) only [ivc, anf, vlen, vbuiltin, nilR, salloc, eq_self, Nat.reduceEqDiff, Nat.reduceLT, Nat.reduceLeDiff, Nat.reduceAdd, Nat.reduceBEq, Int.reduceNeg, reduceCtorEq, ↓reduceIte, tyb, wdV, h1, h2, hb]
 ·rw [if_neg h]
  have h' : (ckM w != 0) = true := bne_iff_ne.2 h
  simp only [wdV] at h1
  simp (maxSteps := 100000000) only [ivc, anf, nilR, salloc, eq_self, Nat.reduceEqDiff, Nat.reduceLT, Nat.reduceLeDiff, Nat.reduceAdd, Nat.reduceBEq, Int.reduceNeg, reduceCtorEq, ↓reduceIte, tyb, wdV, h1, h']
end Go.Proofs.YtikppcfabnnhfaaDoor

/- Plain: the reference's CheckColours is the program's. -/
namespace Go.Proofs.YtikppcfabnnhfaaDoor
open Go Go.Aw
set_option linter.unusedSimpArgs false
set_option linter.unusedVariables false
set_option maxRecDepth 100000
theorem mth_pos {s : Int} : ∀ {c : List Et}, (∀ e ∈ c, 0 ≤ e.m) -> (0 ≤ mthL c s ↔ s ∈ c.map Et.s)
 | [], _ => by simp [mthL]
 | e :: r, h => by
  have ih := mth_pos (s := s) (c := r) (fun x hx => h x (by simp [hx]))
  have he := h e (by simp)
  rw [mthL, List.map_cons, List.mem_cons]
  by_cases b : e.s = s
  ·rw [if_pos (beq_iff_eq.2 b)]
   exact ⟨fun _ => .inl b.symm, fun _ => he⟩
  ·rw [if_neg (fun q => b (beq_iff_eq.1 q)), ih]
   exact ⟨.inr, fun q => q.elim (fun q => absurd q.symm b) id⟩
theorem cfB_iff {w : Wd} (g : Good w) {a b : Int} : cfB w a b = true ↔ a ≠ b /\ ∃ c ∈ w.classes, a ∈ c.map Et.s /\ b ∈ c.map Et.s := by
 unfold cfB
 rw [List.any_eq_true]
 constructor
 ·rintro ⟨c, hc, h⟩
  simp only [cf1, Bool.and_eq_true, decide_eq_true_eq, bne_iff_ne] at h
  have hm : ∀ e ∈ c, 0 ≤ e.m := fun e he => (g.ent c hc e he).2.1
  exact ⟨h.1, c, hc, (mth_pos hm).1 h.2.1, (mth_pos hm).1 h.2.2⟩
 ·rintro ⟨hne, c, hc, h1, h2⟩
  have hm : ∀ e ∈ c, 0 ≤ e.m := fun e he => (g.ent c hc e he).2.1
  refine ⟨c, hc, ?_⟩
  simp only [cf1, Bool.and_eq_true, decide_eq_true_eq, bne_iff_ne]
  exact ⟨hne, (mth_pos hm).2 h1, (mth_pos hm).2 h2⟩
theorem cfB_near {w : Wd} (g : Good w) {a b : Int} (ha : selN a) (hb : selN b) : cfB w a b = hasW (graphW w) (nb a) b :=
 Bool.eq_iff_iff.2 ((cfB_iff g).trans (nearW ha hb (clsok_of g)).symm)
theorem setB {l : List Bool} {n i : Nat} (h : n < l.length) : (l.set n true).getD i false = (decide (i = n) || l.getD i false) := by
 rw [List.getD_eq_getElem?_getD, List.getD_eq_getElem?_getD, List.getElem?_set]
 by_cases hi : n = i
 ·subst hi
  simp [h]
 ·simp [hi]
  exact fun q => absurd q.symm hi
theorem unL_get {i : Nat} : ∀ {c : List Et} {u : List Bool}, (∀ e ∈ c, e.s.toNat < u.length) -> ((unL c u).getD i false = true ↔ u.getD i false = true \/ ∃ e ∈ c, e.s.toNat = i)
 | [], u, _ => by simp [unL]
 | x :: c, u, h => by
  rw [show unL (x :: c) u = unL c (u.set x.s.toNat true) from rfl, unL_get (fun e he => by rw [List.length_set]; exact h e (by simp [he])), setB (h x (by simp)), Bool.or_eq_true, decide_eq_true_eq]
  constructor
  ·rintro ((h | h) | ⟨e, he, h⟩)
   ·exact .inr ⟨x, by simp, Eq.symm h⟩
   ·exact .inl h
   ·exact .inr ⟨e, by simp [he], h⟩
  ·rintro (h | ⟨e, he, h⟩)
   ·exact .inl (.inr h)
   ·rcases List.mem_cons.1 he with q | he
    ·exact .inl (.inl (q ▸ Eq.symm h))
    ·exact .inr ⟨e, he, h⟩
theorem unM_get {i : Nat} : ∀ {cs : List (List Et)} {u : List Bool}, (∀ c ∈ cs, ∀ e ∈ c, e.s.toNat < u.length) -> ((unM cs u).getD i false = true ↔ u.getD i false = true \/ ∃ c ∈ cs, ∃ e ∈ c, e.s.toNat = i)
 | [], u, _ => by simp [unM]
 | x :: c, u, h => by
  rw [show unM (x :: c) u = unM c (unL x u) from rfl, unM_get (fun k hk e he => by rw [unL_len]; exact h k (by simp [hk]) e he), unL_get (h x (by simp))]
  constructor
  ·rintro ((h | h) | ⟨k, hk, h⟩)
   ·exact .inl h
   ·exact .inr ⟨x, by simp, h⟩
   ·exact .inr ⟨k, by simp [hk], h⟩
  ·rintro (h | ⟨k, hk, h⟩)
   ·exact .inl (.inl h)
   ·rcases List.mem_cons.1 hk with q | hk
    ·exact .inl (.inr (q ▸ h))
    ·exact .inr ⟨k, hk, h⟩
theorem moL_at : ∀ {c : List Et} {n : Int}, moL c n = n \/ ∃ e ∈ c, moL c n = e.s + 1
 | [], n => .inl rfl
 | x :: c, n => by
  rw [show moL (x :: c) n = moL c (maxI n (x.s + 1)) from rfl]
  rcases moL_at (c := c) (n := maxI n (x.s + 1)) with h | ⟨e, he, h⟩
  ·rw [h]
   unfold maxI
   split
   ·exact .inr ⟨x, by simp, rfl⟩
   ·exact .inl rfl
  ·exact .inr ⟨e, by simp [he], h⟩
theorem moM_at : ∀ {cs : List (List Et)} {n : Int}, moM cs n = n \/ ∃ c ∈ cs, ∃ e ∈ c, moM cs n = e.s + 1
 | [], n => .inl rfl
 | x :: c, n => by
  rw [show moM (x :: c) n = moM c (moL x n) from rfl]
  rcases moM_at (cs := c) (n := moL x n) with h | ⟨k, hk, e, he, h⟩
  ·rw [h]
   rcases moL_at (c := x) (n := n) with h | ⟨e, he, h⟩
   ·exact .inl h
   ·exact .inr ⟨x, by simp, e, he, h⟩
  ·exact .inr ⟨k, by simp [hk], e, he, h⟩
theorem moM_sz {w : Wd} (g : Good w) : moM w.classes 0 = szM (graphW w) 500 := by
 have hs : ∀ c ∈ w.classes, ∀ e ∈ c, 0 ≤ e.s /\ e.s < 500 := fun c hc e he => (g.ent c hc e he).1
 obtain ⟨a1, a2, a3⟩ := moM_rng (n := 0) hs (by omega) (by omega)
 have z := szM_spec (g := graphW w) (n := 500)
 have hz := szM_le (graphW w) 500
 have h1 : (szM (graphW w) 500 : Int) ≤ moM w.classes 0 := by
  rcases Nat.eq_zero_or_pos (szM (graphW w) 500) with h | h
  ·omega
  ·have := z.2 (szM (graphW w) 500 - 1) (by omega)
   rw [knownW ⟨by omega, by omega⟩ (clsok_of g)] at this
   obtain ⟨c, hc, hm⟩ := this
   obtain ⟨e, he, h2⟩ := List.mem_map.1 hm
   have := a3 c hc e he
   omega
 rcases moM_at (cs := w.classes) (n := 0) with h | ⟨c, hc, e, he, h⟩
 ·omega
 ·have h5 := hs c hc e he
  have hk := (knownW (m := e.s) h5 (clsok_of g)).2 ⟨c, hc, List.mem_map.2 ⟨e, he, rfl⟩⟩
  rw [show e.s = ((e.s.toNat : Nat) : Int) by omega] at hk
  have := szM_lt hk (n := 500) (by omega)
  omega
theorem unW_sz {w : Wd} (g : Good w) : (unW w).length = szM (graphW w) 500 := by
 have := moM_sz g
 rw [unW_len]
 omega
theorem unW_get {w : Wd} (g : Good w) {i : Nat} (hi : i < (unW w).length) : (unW w).getD i false = hasW (graphW w) 0 i := by
 have hs : ∀ c ∈ w.classes, ∀ e ∈ c, 0 ≤ e.s /\ e.s < 500 := fun c hc e he => (g.ent c hc e he).1
 obtain ⟨a1, a2, a3⟩ := moM_rng (n := 0) hs (by omega) (by omega)
 rw [unW_len] at hi
 refine Bool.eq_iff_iff.2 ?_
 rw [knownW ⟨by omega, by omega⟩ (clsok_of g)]
 unfold unW
 rw [unM_get (fun c hc e he => by have := a3 c hc e he; have := hs c hc e he; rw [fals, List.length_replicate]; omega)]
 have : (fals (moM w.classes 0).toNat).getD i false = false := by
  rw [List.getD_eq_getElem?_getD, fals, List.getElem?_replicate]
  split <;> rfl
 rw [this]
 constructor
 ·rintro (h | ⟨c, hc, e, he, h⟩)
  ·cases h
  ·exact ⟨c, hc, List.mem_map.2 ⟨e, he, by have := hs c hc e he; omega⟩⟩
 ·rintro ⟨c, hc, hm⟩
  obtain ⟨e, he, h⟩ := List.mem_map.1 hm
  exact .inr ⟨c, hc, e, he, by omega⟩
theorem anyF_iff {p : Nat -> Bool} : ∀ {k j : Nat}, anyF p k j = true ↔ ∃ i, j ≤ i /\ i < j + k /\ p i = true
 | 0, j => by
  constructor
  ·intro h
   cases h
  ·rintro ⟨i, h1, h2, _⟩
   omega
 | k + 1, j => by
  rw [anyF, Bool.or_eq_true, anyF_iff]
  constructor
  ·rintro (h | ⟨i, h1, h2, h3⟩)
   ·exact ⟨j, by omega, by omega, h⟩
   ·exact ⟨i, by omega, by omega, h3⟩
  ·rintro ⟨i, h1, h2, h3⟩
   by_cases hi : i = j
   ·exact .inl (hi ▸ h3)
   ·exact .inr ⟨i, by omega, by omega, h3⟩
theorem rb_bad {g : List Int} {U : List Bool} {cs : List Int} {i : Nat} (h : U.getD i false = hasW g 0 i) : rb1 U cs i = badC g i (cs.getD i 0) := by
 unfold rb1 badC
 rw [h]
 generalize cs.getD i 0 = c
 refine Bool.eq_iff_iff.2 ?_
 cases hasW g 0 i <;> simp <;> omega
theorem rcc_eq {w : Wd} {cs : List Int} : rccM w cs = ccM w cs := by
 unfold rccM ccM
 rcases Classical.em (ckM w = 0) with hk | hk
 case inr => rw [if_neg hk, if_neg hk]
 rw [if_pos hk, if_pos hk]
 have g := good_of hk
 unfold ccW
 rw [unW_sz g]
 rcases Classical.em (cs.length = szM (graphW w) 500) with hl | hl
 case inr => rw [if_neg hl, if_neg hl]
 rw [if_pos hl, if_pos hl]
 have hz := szM_le (graphW w) 500
 have hul := unW_sz g
 have hb : anyF (rb1 (unW w) cs) cs.length 0 = anyB (graphW w) cs 0 := by
  refine Bool.eq_iff_iff.2 ?_
  rw [anyF_iff]
  constructor
  ·rintro ⟨i, _, h2, h3⟩
   cases hh : anyB (graphW w) cs 0 with
   | true => rfl
   | false =>
    have := anyB_iff.1 hh i (by omega)
    rw [Int.zero_add] at this
    rw [rb_bad (unW_get g (by omega)), this] at h3
    cases h3
  ·intro h
   refine Classical.byContradiction fun hn => ?_
   have : anyB (graphW w) cs 0 = false := anyB_iff.2 fun i hi => by
    rw [Int.zero_add, <- rb_bad (unW_get g (by omega))]
    cases hh : rb1 (unW w) cs i with
    | false => rfl
    | true => exact absurd ⟨i, by omega, by omega, hh⟩ hn
   rw [this] at h
   cases h
 rw [hb]
 cases hB : anyB (graphW w) cs 0 with
 | true => rfl
 | false =>
 have good : ∀ i, i < cs.length -> badC (graphW w) i (cs.getD i 0) = false := fun i hi => by
  have := anyB_iff.1 hB i hi
  rwa [Int.zero_add] at this
 have bd : ∀ c ∈ cs, c < 512 := fun c hc => by
  have := anyB_lt hB c hc
  omega
 have hcl : anyF (rclA w (unW w) cs cs.length) cs.length 0 = clash (graphW w) cs cs 0 := by
  refine Bool.eq_iff_iff.2 ?_
  rw [anyF_iff]
  constructor
  ·rintro ⟨a, _, h2, h3⟩
   obtain ⟨b, b1, b2, b3⟩ := anyF_iff.1 h3
   simp only [rcl, Bool.and_eq_true, beq_iff_eq] at b3
   obtain ⟨ua, ub, e1, cf⟩ := b3
   have ga := bad_iff.1 (good a (by omega))
   rw [unW_get g (by omega)] at ua
   have pa := ga.2.1 ua
   have hi : b < cs.length := by omega
   cases hh : clash (graphW w) cs cs 0 with
   | true => rfl
   | false =>
    have := clash_iff.1 hh a (by omega) pa
    rw [Int.zero_add] at this
    have tk := (takenW (g := graphW w) (cs := cs) (s := a) (m := cs.getD a 0) ⟨pa, by omega⟩ bd).2 ⟨b, hi, by rw [e1, List.getD_eq_getElem?_getD, List.getElem?_eq_getElem hi]; rfl, by
     rw [<- cfB_near g ⟨by omega, by omega⟩ ⟨by omega, by omega⟩]
     exact cf⟩
    rw [this] at tk
    cases tk
  ·intro h
   refine Classical.byContradiction fun hn => ?_
   have : clash (graphW w) cs cs 0 = false := clash_iff.2 fun i hi pi => by
    rw [Int.zero_add]
    cases hh : hasW (takW (graphW w) i cs) 0 (cs.getD i 0) with
    | false => rfl
    | true =>
     have gi := bad_iff.1 (good i hi)
     obtain ⟨j, hj, e1, nr⟩ := (takenW ⟨pi, by omega⟩ bd).1 hh
     have e2 : cs.getD j 0 = cs.getD i 0 := by
      rw [<- e1, List.getD_eq_getElem?_getD, List.getElem?_eq_getElem hj]
      rfl
     have gj := bad_iff.1 (good j hj)
     have ne := ((nearW (w := w) (a := (i : Int)) (b := (j : Int)) ⟨by omega, by omega⟩ ⟨by omega, by omega⟩ (clsok_of g)).1 nr)
     have ui : (unW w).getD i false = true := by
      rw [unW_get g (by omega)]
      cases hu : hasW (graphW w) 0 (i : Int) with
      | true => rfl
      | false =>
       have := gi.2.2 hu
       omega
     have uj : (unW w).getD j false = true := by
      rw [unW_get g (by omega)]
      cases hu : hasW (graphW w) 0 (j : Int) with
      | true => rfl
      | false =>
       have := gj.2.2 hu
       omega
     have c1 : cfB w i j = true := (cfB_iff g).2 ne
     have c2 : cfB w j i = true := (cfB_iff g).2 ⟨fun q => ne.1 q.symm, ne.2.elim fun c hc => ⟨c, hc.1, hc.2.2, hc.2.1⟩⟩
     have hij : i ≠ j := fun q => ne.1 (by rw [q])
     exfalso
     rcases Nat.lt_or_gt_of_ne hij with lt | gt
     ·exact hn ⟨i, by omega, by omega, anyF_iff.2 ⟨j, by omega, by omega, by
       simp only [rcl, ui, uj, e2, c1, beq_self_eq_true, Bool.and_true]⟩⟩
     ·exact hn ⟨j, by omega, by omega, anyF_iff.2 ⟨i, by omega, by omega, by
       simp only [rcl, ui, uj, e2, c2, beq_self_eq_true, Bool.and_true]⟩⟩
   rw [this] at h
   cases h
 rw [hcl]
theorem rcc_ev' {w : Wd} {cs : List Int} : E.F 27 [wdV w, .ro 1 (cs.map (AV.int .i64))] [] = some ((.int .i64 (ccM w cs), []), True) := by
 rw [<- rcc_eq]
 exact rcc_ev
end Go.Proofs.YtikppcfabnnhfaaDoor

/- The example's facts. -/
namespace Go.Proofs.YtikppcfabnnhfaaDoor
open Go Go.Aw
set_option linter.unusedSimpArgs false
set_option linter.unusedVariables false
set_option maxRecDepth 1000000
def exW : Wd := ⟨[[⟨0, 0⟩, ⟨1, 1⟩], [⟨1, 2⟩, ⟨2, 3⟩]], [⟨[], [], []⟩, ⟨[], [], []⟩, ⟨[], [], []⟩, ⟨[], [], []⟩], [0]⟩
def exC : List Et := [⟨0, 0⟩, ⟨2, 0⟩]
theorem ex_ck : ckM exW = 0 := by kernel_rfl
theorem ex_ck2 : ckM (moreW exW exC) = 0 := by kernel_rfl
theorem ex_cnt : cntM (graphW exW) 8 = 3 := by kernel_rfl
theorem ex_sz2 : szM (graphW (moreW exW exC)) 500 = 3 := by kernel_rfl
theorem ex_cc : ccW (graphW exW) [0, 1, 0] = 0 := by kernel_rfl
theorem ex_least : leastW (graphW exW) = 2 := by kernel_rfl
theorem ex_pack : packM [0, 1, 0] exW.classes ([], []) = ([⟨0, 0⟩, ⟨1, 1⟩, ⟨2, 3⟩, ⟨1, 2⟩], [0, 2]) := by kernel_rfl
theorem ex_grow : gwM (graphW (moreW exW exC)) exC [] (ms0 exW exC [0, 1, 0]) [] = some ([0, 1, 2], [2]) := by kernel_rfl
theorem ex_good : Good exW := good_of ex_ck
theorem ex_near {a b : Int} (ha : selN a) (hb : selN b) : hasW (graphW exW) (nb a) b = true ↔ a ≠ b /\ (((a = 0 \/ a = 1) /\ (b = 0 \/ b = 1)) \/ ((a = 1 \/ a = 2) /\ (b = 1 \/ b = 2))) := by
 rw [nearW ha hb (clsok_of ex_good)]
 refine and_congr_right fun _ => ?_
 simp [exW]
 omega
theorem rowI_nil {g : List Int} {a : Int} : ∀ {k : Nat} {b : Int}, (∀ x, b ≤ x -> x < b + k -> hasW g (nb a) x = false) -> rowI g a k b = []
 | 0, _, _ => rfl
 | k + 1, b, h => by
  rw [rowI, h b (by omega) (by omega), rowI_nil (fun x h1 h2 => h x (by omega) (by omega))]
  rfl
theorem allI_nil {g : List Int} : ∀ {k : Nat} {a : Int}, (∀ x y, a ≤ x -> x < y -> y < a + k -> hasW g (nb x) y = false) -> allI g k a = []
 | 0, _, _ => rfl
 | k + 1, a, h => by
  rw [allI, rowI_nil (fun x h1 h2 => h a x (by omega) (by omega) (by omega)), allI_nil (fun x y h1 h2 h3 => h x y (by omega) h2 (by omega))]
  rfl
theorem ex_no {a b : Int} (ha : selN a) (hb : selN b) (h : ¬ (a ≠ b /\ (((a = 0 \/ a = 1) /\ (b = 0 \/ b = 1)) \/ ((a = 1 \/ a = 2) /\ (b = 1 \/ b = 2))))) : hasW (graphW exW) (nb a) b = false := by
 cases hh : hasW (graphW exW) (nb a) b with
 | false => rfl
 | true => exact absurd ((ex_near ha hb).1 hh) h
theorem ex_conf : cfM (graphW exW) = [(0, 1), (1, 2)] := by
 have e0 : hasW (graphW exW) (nb 0) 1 = true := (ex_near (by unfold selN; omega) (by unfold selN; omega)).2 (by omega)
 have e1 : hasW (graphW exW) (nb 1) 2 = true := (ex_near (by unfold selN; omega) (by unfold selN; omega)).2 (by omega)
 have no : ∀ a b : Int, 0 ≤ a -> b < 500 -> a < b -> (a = 0 -> b ≠ 1) -> (a = 1 -> b ≠ 2) -> hasW (graphW exW) (nb a) b = false := fun a b h1 h2 h3 h4 h5 => ex_no (by unfold selN; omega) (by unfold selN; omega) (by omega)
 unfold cfM
 generalize graphW exW = g at e0 e1 no
 rw [show allI g 500 0 = rowI g 0 499 (0 + 1) ++ allI g 499 (0 + 1) from rfl, show rowI g 0 499 (0 + 1) = (if hasW g (nb 0) (0 + 1) = true then [((0 : Int), (0 : Int) + 1)] else []) ++ rowI g 0 498 (0 + 1 + 1) from rfl,
  show allI g 499 (0 + 1) = rowI g (0 + 1) 498 (0 + 1 + 1) ++ allI g 498 (0 + 1 + 1) from rfl, show rowI g (0 + 1) 498 (0 + 1 + 1) = (if hasW g (nb (0 + 1)) (0 + 1 + 1) = true then [((0 : Int) + 1, (0 : Int) + 1 + 1)] else []) ++ rowI g (0 + 1) 497 (0 + 1 + 1 + 1) from rfl]
 rw [rowI_nil (k := 498) (fun x h1 h2 => no 0 x (by omega) (by omega) (by omega) (by omega) (by omega)), rowI_nil (k := 497) (fun x h1 h2 => no (0 + 1) x (by omega) (by omega) (by omega) (by omega) (by omega)), allI_nil (fun x y h1 h2 h3 => no x y (by omega) (by omega) (by omega) (by omega) (by omega))]
 have z1 : ((0 : Int) + 1) = 1 := rfl
 have z2 : ((1 : Int) + 1) = 2 := rfl
 simp only [z1, z2, e0, e1, if_true, List.append_nil, List.cons_append, List.nil_append]
theorem ex_hasC : ∀ c ∈ exW.classes, ∀ e ∈ c, hasC [0, 1, 0] e := by
 have : ∀ c ∈ exW.classes, ∀ e ∈ c, (0 ≤ e.s /\ e.s < 3 /\ 0 ≤ colAt [0, 1, 0] e.s /\ colAt [0, 1, 0] e.s < 500) := by
  unfold exW
  decide
 exact this
end Go.Proofs.YtikppcfabnnhfaaDoor

namespace Go.Proofs.YtikppcfabnnhfaaDoor
open Go Go.Aw
noncomputable def givL : FuncId -> List AV -> HL -> Option ((AV × HL) × Prop) := fun f a l => if f = 24 then EP.F 24 a l else E.F f a l
noncomputable def ANL : Go.Aw.An := mkAn [12, 13, 15, 20, 23, 26, 27, 30, 32, 33, 38, 41, 42, 47, 48, 50, 54, 57, 58, 60, 61, 62, 67, 69, 71, 72, 75, 80, 81, 84, 85, 86, 87, 93] [28, 31, 36, 37, 53, 63, 64, 65, 66, 78, 82, 83] [19]
 [3, 4, 5, 6, 7, 8, 9, 10, 11, 16, 18, 19, 52]
 [(3, 6, [0, 1, 2, 3, 4, 11, 12]), (4, 10, [1, 2, 4, 5, 7, 8]), (6, 27, [5, 6, 7, 10, 13, 15, 16, 17]), (6, 23, [4, 5, 6, 7, 10, 13, 15]), (6, 19, [5, 6, 7, 10, 13, 14]), (7, 25, [1, 3, 5, 6, 7, 9, 10, 11, 12]), (7, 21, [1, 2, 3, 5, 6, 7, 9, 10]), (7, 17, [1, 2, 3, 5, 6, 7, 9]), (7, 12, [1, 3, 5, 6, 7, 8]), (8, 24, [1, 2, 5, 7, 8, 11, 12, 13]), (8, 20, [1, 2, 4, 5, 7, 8, 11]), (8, 15, [1, 2, 4, 5, 7, 8, 10]), (9, 16, [2, 12, 13, 14]), (10, 20, [1, 2, 4, 5, 6, 7, 11, 12, 13]), (10, 16, [1, 2, 4, 5, 6, 7, 11]), (10, 10, [1, 2, 4, 5, 6, 7, 9]), (16, 8, [1, 2, 3, 5]), (16, 4, [1, 2, 3, 4]), (18, 32, [2, 10, 12, 14, 15, 16, 19, 20, 21]), (18, 29, [2, 10, 12, 14, 15, 16, 19, 20]), (18, 23, [2, 10, 12, 14, 15, 16, 17, 18]), (18, 18, [2, 10, 12, 14, 15]), (18, 11, [1, 2, 10, 12, 13]), (19, 4, [0, 3, 4]), (52, 4, [1, 2, 4, 5, 6])]
 [(3, 6, [(0, [], 2), (1, [], 1), (2, [], 1), (5, [], 2)]), (4, 10, [(0, [], 2), (4, [0], 1)]), (6, 27, [(3, [], 1)]), (6, 23, [(4, [], 1)]), (6, 19, [(3, [], 1)]), (7, 25, [(1, [], 1), (2, [], 2), (3, [], 1)]), (7, 21, [(2, [], 1), (3, [], 2), (4, [], 1)]), (7, 17, [(2, [], 1), (3, [], 2), (4, [], 1)]), (7, 12, [(1, [], 1), (2, [], 2), (3, [], 1)]), (8, 24, [(0, [], 2), (2, [], 1), (3, [], 1), (4, [], 1)]), (8, 20, [(0, [], 2), (3, [], 1), (4, [], 1), (5, [], 1)]), (8, 15, [(0, [], 2), (3, [], 1), (4, [], 1), (5, [], 1)]), (9, 16, [(1, [], 2), (2, [], 2)]), (10, 20, [(3, [], 1), (4, [], 1), (5, [], 1), (7, [], 2)]), (10, 16, [(3, [], 1), (4, [], 1), (5, [], 1)]), (10, 10, [(3, [], 1), (4, [], 1), (5, [], 1)]), (16, 8, [(2, [0], 1), (2, [1], 3)]), (16, 4, [(2, [0], 1)]), (18, 32, [(0, [], 2), (2, [], 1), (3, [], 1)]), (18, 29, [(0, [], 2), (2, [], 1), (3, [], 1)]), (18, 23, [(0, [], 2), (2, [], 1), (3, [], 1)]), (18, 18, [(0, [], 2), (2, [], 1), (3, [], 1)]), (18, 11, [(0, [], 1), (1, [], 2), (3, [], 1)]), (19, 4, [(0, [], 2), (1, [], 2)]), (52, 4, [(0, [], 2), (3, [0], 1)])]
 []
 [(16, [(0, [0], 1), (0, [1], 3), (0, [2], 1)]), (18, [(0, [], 1), (1, [], 1)]), (19, [(0, [], 2)]), (52, [(0, [0], 1), (0, [1], 3), (0, [2], 1)])]
 [15, 16, 17, 18, 19, 21, 22, 24, 25, 28, 29, 31, 34, 35, 36, 37, 39, 52, 53, 63, 64, 65, 66, 83]
 [(3, 7, ([45, 1000000, 1000034, 1000012, 1000035, 1000034, 1000035, 1000036, 1000036, 1000037, 1000000, 1000039, 1000012, 1000040, 1000039, 1000040, 1000041, 1000041, 1000042], false, [], [some 33, some 34, some 35, some 36, some 37, some 39, some 40, some 41, some 42])), (4, 11, ([53, 1000007, 1000046, 1000002, 1000048, 1000008, 1000050, 1000049, 1000050, 1000051, 1000007, 1000055], false, [7], [some 46, some 48, some 50, some 51, some 55])), (5, 5, ([1000003, 1000059, 1000061, 1000056], false, [], [some 58, some 59, some 56])), (6, 4, ([], false, [], [])), (8, 16, ([], false, [], [])), (8, 25, ([], false, [], [])), (8, 26, ([], false, [], [])), (8, 29, ([1000002, 1000168, 1000169, 1000170, 1000172, 1000165], false, [], [some 167, some 168, some 170, some 165])), (9, 4, ([], false, [], [])), (9, 17, ([], false, [], [])), (10, 11, ([10], false, [10], [])), (10, 17, ([], false, [], [])), (10, 26, ([119, 129, 1000002, 1000120, 1000001, 1000123, 1000002, 1000125, 1000014, 1000131, 888888, 600129], false, [14], [some 120, some 123, some 125, some 131])), (16, 5, ([25, 1000003, 1000017, 1000001, 1000019, 1000004, 1000021, 1000020, 1000021, 1000022, 1000003, 1000027], false, [3], [some 17, some 19, some 21, some 22, some 27])), (18, 24, ([], false, [], [])), (19, 5, ([23, 1000000, 1000012, 1000004, 1000013, 1000012, 1000013, 1000014, 1000014, 1000015, 1000000, 1000017, 1000004, 1000018, 1000017, 1000018, 1000019, 1000019, 1000020], false, [], [some 11, some 12, some 13, some 14, some 15, some 17, some 18, some 19, some 20])), (52, 5, ([26, 1000005, 1000019, 1000002, 1000021, 1000006, 1000023, 1000022, 1000023, 1000024, 1000005, 1000028], false, [5], [some 19, some 21, some 23, some 24, some 28]))] [17, 21, 24, 29, 34, 40] [] givL
noncomputable abbrev EL : Sig := ev Tryd.prog G ANL
theorem ok3L : fchk Tryd.prog ANL 3 = true := by kernel_rfl
theorem ok4L : fchk Tryd.prog ANL 4 = true := by kernel_rfl
theorem ok5L : fchk Tryd.prog ANL 5 = true := by kernel_rfl
theorem ok6L : fchk Tryd.prog ANL 6 = true := by kernel_rfl
theorem ok7L : fchk Tryd.prog ANL 7 = true := by kernel_rfl
theorem ok8L : fchk Tryd.prog ANL 8 = true := by kernel_rfl
theorem ok9L : fchk Tryd.prog ANL 9 = true := by kernel_rfl
theorem ok10L : fchk Tryd.prog ANL 10 = true := by kernel_rfl
theorem ok11L : fchk Tryd.prog ANL 11 = true := by kernel_rfl
theorem ok16L : fchk Tryd.prog ANL 16 = true := by kernel_rfl
theorem ok18L : fchk Tryd.prog ANL 18 = true := by kernel_rfl
theorem ok19L : fchk Tryd.prog ANL 19 = true := by kernel_rfl
theorem ok52L : fchk Tryd.prog ANL 52 = true := by kernel_rfl
theorem evokL : EvOk Tryd.prog G ANL where
 chk f h := by
  have h : [3, 4, 5, 6, 7, 8, 9, 10, 11, 16, 18, 19, 52].contains f = true := h
  have h := List.contains_iff_mem.1 h
  simp only [List.mem_cons, List.mem_nil_iff, or_false] at h
  rcases h with rfl | rfl | rfl | rfl | rfl | rfl | rfl | rfl | rfl | rfl | rfl | rfl | rfl
  ·exact ok3L
  ·exact ok4L
  ·exact ok5L
  ·exact ok6L
  ·exact ok7L
  ·exact ok8L
  ·exact ok9L
  ·exact ok10L
  ·exact ok11L
  ·exact ok16L
  ·exact ok18L
  ·exact ok19L
  ·exact ok52L
 pureG g := by
  by_cases h : g = 0
  ·subst h; exact .inl (by kernel_rfl)
  ·exact .inr (if_neg h)
 mixed := by kernel_rfl
 giv f a l r l' φ h hφ := by
  by_cases e : f = 24
  ·subst e; exact ev_sound evokP h hφ
  ·have h' : givL f a l = some ((r, l'), φ) := h
   rw [givL, if_neg e] at h'
   exact ev_sound evok h' hφ
theorem acpL : ∀ f k, ANL.cp f k = has2 f k [] := fun _ _ => rfl
set_option maxRecDepth 100000
theorem anf0L : (ANL.bor 5 = false) /\ (ANL.pur 5 = false) /\ (ANL.ro 5 = false) /\ (ANL.frz 5 = false) /\ (ANL.fra 5 = false) /\ (ANL.res 5 = []) /\ (ANL.bor 11 = false) /\ (ANL.pur 11 = false) /\ (ANL.ro 11 = false) /\ (ANL.frz 11 = false) /\ (ANL.fra 11 = false) /\ (ANL.res 11 = []) /\ (ANL.bor 12 = true) /\ (ANL.pur 12 = false) /\ (ANL.ro 12 = false) /\ (ANL.frz 12 = false) /\ (ANL.fra 12 = false) /\ (ANL.res 12 = []) /\ (ANL.bor 14 = false) /\ (ANL.pur 14 = false) /\ (ANL.ro 14 = false) /\ (ANL.frz 14 = false) /\ (ANL.fra 14 = false) /\ (ANL.res 14 = []) /\ (ANL.bor 15 = true) /\ (ANL.pur 15 = false) /\ (ANL.ro 15 = false) /\ (ANL.frz 15 = true) /\ (ANL.fra 15 = false) /\ (ANL.res 15 = []) /\ (ANL.bor 16 = false) /\ (ANL.pur 16 = false) /\ (ANL.ro 16 = false) /\ (ANL.frz 16 = true) /\ (ANL.fra 16 = false) /\ (ANL.res 16 = [(0, [0], 1), (0, [1], 3), (0, [2], 1)]) /\ (ANL.bor 17 = false) /\ (ANL.pur 17 = false) /\ (ANL.ro 17 = false) /\ (ANL.frz 17 = true) /\ (ANL.fra 17 = true) /\ (ANL.res 17 = []) /\ (ANL.bor 18 = false) /\ (ANL.pur 18 = false) /\ (ANL.ro 18 = false) /\ (ANL.frz 18 = true) /\ (ANL.fra 18 = false) /\ (ANL.res 18 = [(0, [], 1), (1, [], 1)]) /\ (ANL.bor 19 = false) /\ (ANL.pur 19 = false) /\ (ANL.ro 19 = true) /\ (ANL.frz 19 = true) /\ (ANL.fra 19 = false) /\ (ANL.res 19 = [(0, [], 2)]) /\ (ANL.bor 20 = true) /\ (ANL.pur 20 = false) /\ (ANL.ro 20 = false) /\ (ANL.frz 20 = false) /\ (ANL.fra 20 = false) /\ (ANL.res 20 = []) /\ (ANL.bor 21 = false) /\ (ANL.pur 21 = false) /\ (ANL.ro 21 = false) /\ (ANL.frz 21 = true) /\ (ANL.fra 21 = true) /\ (ANL.res 21 = []) /\ (ANL.bor 22 = false) /\ (ANL.pur 22 = false) /\ (ANL.ro 22 = false) /\ (ANL.frz 22 = true) /\ (ANL.fra 22 = false) /\ (ANL.res 22 = []) /\ (ANL.bor 23 = true) /\ (ANL.pur 23 = false) /\ (ANL.ro 23 = false) /\ (ANL.frz 23 = false) /\ (ANL.fra 23 = false) /\ (ANL.res 23 = []) /\ (ANL.bor 24 = false) /\ (ANL.pur 24 = false) /\ (ANL.ro 24 = false) /\ (ANL.frz 24 = true) /\ (ANL.fra 24 = true) /\ (ANL.res 24 = []) /\ (ANL.bor 25 = false) /\ (ANL.pur 25 = false) /\ (ANL.ro 25 = false) /\ (ANL.frz 25 = true) /\ (ANL.fra 25 = false) /\ (ANL.res 25 = []) /\ (ANL.bor 26 = true) /\ (ANL.pur 26 = false) /\ (ANL.ro 26 = false) /\ (ANL.frz 26 = false) /\ (ANL.fra 26 = false) /\ (ANL.res 26 = []) /\ (ANL.bor 27 = true) /\ (ANL.pur 27 = false) /\ (ANL.ro 27 = false) /\ (ANL.frz 27 = false) /\ (ANL.fra 27 = false) /\ (ANL.res 27 = []) /\ (ANL.bor 30 = true) /\ (ANL.pur 30 = false) /\ (ANL.ro 30 = false) /\ (ANL.frz 30 = false) /\ (ANL.fra 30 = false) /\ (ANL.res 30 = []) /\ (ANL.bor 32 = true) /\ (ANL.pur 32 = false) /\ (ANL.ro 32 = false) /\ (ANL.frz 32 = false) /\ (ANL.fra 32 = false) /\ (ANL.res 32 = []) /\ (ANL.bor 36 = false) /\ (ANL.pur 36 = true) /\ (ANL.ro 36 = false) /\ (ANL.frz 36 = true) /\ (ANL.fra 36 = false) /\ (ANL.res 36 = []) /\ (ANL.bor 39 = false) /\ (ANL.pur 39 = false) /\ (ANL.ro 39 = false) /\ (ANL.frz 39 = true) /\ (ANL.fra 39 = false) /\ (ANL.res 39 = []) /\ (ANL.bor 52 = false) /\ (ANL.pur 52 = false) /\ (ANL.ro 52 = false) /\ (ANL.frz 52 = true) /\ (ANL.fra 52 = false) /\ (ANL.res 52 = [(0, [0], 1), (0, [1], 3), (0, [2], 1)]) /\ (ANL.bor 53 = false) /\ (ANL.pur 53 = true) /\ (ANL.ro 53 = false) /\ (ANL.frz 53 = true) /\ (ANL.fra 53 = false) /\ (ANL.res 53 = []) /\ (ANL.bor 54 = true) /\ (ANL.pur 54 = false) /\ (ANL.ro 54 = false) /\ (ANL.frz 54 = false) /\ (ANL.fra 54 = false) /\ (ANL.res 54 = []) /\ (ANL.dr 5 5 = some ([1000003, 1000059, 1000061, 1000056], false, [], [some 58, some 59, some 56])) /\ (ANL.dr 16 5 = some ([25, 1000003, 1000017, 1000001, 1000019, 1000004, 1000021, 1000020, 1000021, 1000022, 1000003, 1000027], false, [3], [some 17, some 19, some 21, some 22, some 27])) /\ (ANL.dr 18 24 = some ([], false, [], [])) /\ (ANL.dr 19 5 = some ([23, 1000000, 1000012, 1000004, 1000013, 1000012, 1000013, 1000014, 1000014, 1000015, 1000000, 1000017, 1000004, 1000018, 1000017, 1000018, 1000019, 1000019, 1000020], false, [], [some 11, some 12, some 13, some 14, some 15, some 17, some 18, some 19, some 20])) /\ (ANL.dr 52 5 = some ([26, 1000005, 1000019, 1000002, 1000021, 1000006, 1000023, 1000022, 1000023, 1000024, 1000005, 1000028], false, [5], [some 19, some 21, some 23, some 24, some 28])) /\ (ANL.keep 16 8 = some [1, 2, 3, 5]) /\ (ANL.fix 16 8 = [(2, [0], 1), (2, [1], 3)]) /\ (ANL.frl 16 8 = false) /\ (ANL.keep 16 4 = some [1, 2, 3, 4]) /\ (ANL.fix 16 4 = [(2, [0], 1)]) /\ (ANL.frl 16 4 = false) /\ (ANL.keep 18 32 = some [2, 10, 12, 14, 15, 16, 19, 20, 21]) /\ (ANL.fix 18 32 = [(0, [], 2), (2, [], 1), (3, [], 1)]) /\ (ANL.frl 18 32 = false) /\ (ANL.keep 18 29 = some [2, 10, 12, 14, 15, 16, 19, 20]) /\ (ANL.fix 18 29 = [(0, [], 2), (2, [], 1), (3, [], 1)]) /\ (ANL.frl 18 29 = false) /\ (ANL.keep 18 23 = some [2, 10, 12, 14, 15, 16, 17, 18]) /\ (ANL.fix 18 23 = [(0, [], 2), (2, [], 1), (3, [], 1)]) /\ (ANL.frl 18 23 = false) /\ (ANL.keep 18 18 = some [2, 10, 12, 14, 15]) /\ (ANL.fix 18 18 = [(0, [], 2), (2, [], 1), (3, [], 1)]) /\ (ANL.frl 18 18 = false) /\ (ANL.keep 18 11 = some [1, 2, 10, 12, 13]) /\ (ANL.fix 18 11 = [(0, [], 1), (1, [], 2), (3, [], 1)]) /\ (ANL.frl 18 11 = false) /\ (ANL.keep 19 4 = some [0, 3, 4]) /\ (ANL.fix 19 4 = [(0, [], 2), (1, [], 2)]) /\ (ANL.frl 19 4 = false) /\ (ANL.keep 52 4 = some [1, 2, 4, 5, 6]) /\ (ANL.fix 52 4 = [(0, [], 2), (3, [0], 1)]) /\ (ANL.frl 52 4 = false) := by and_intros <;> kernel_rfl
theorem anfL : type_of% @anf0L /\ type_of% @acpL := ⟨@anf0L, @acpL⟩
variable (a v : List AV) (l : HL)
theorem l16_8L : type_of% (ev_lp ANL G 16 8 53 [1, 2, 3, 5] (by kernel_rfl) Tryd.func16 rfl rfl rfl (by kernel_rfl) v l) :=
 ev_lp ANL G 16 8 53 [1, 2, 3, 5] (by kernel_rfl) Tryd.func16 rfl rfl rfl (by kernel_rfl) v l
theorem l16_4L : type_of% (ev_lp ANL G 16 4 53 [1, 2, 3, 4] (by kernel_rfl) Tryd.func16 rfl rfl rfl (by kernel_rfl) v l) :=
 ev_lp ANL G 16 4 53 [1, 2, 3, 4] (by kernel_rfl) Tryd.func16 rfl rfl rfl (by kernel_rfl) v l
theorem l18_32L : type_of% (ev_lp ANL G 18 32 140 [2, 10, 12, 14, 15, 16, 19, 20, 21] (by kernel_rfl) Tryd.func18 rfl rfl rfl (by kernel_rfl) v l) :=
 ev_lp ANL G 18 32 140 [2, 10, 12, 14, 15, 16, 19, 20, 21] (by kernel_rfl) Tryd.func18 rfl rfl rfl (by kernel_rfl) v l
theorem l18_29L : type_of% (ev_lp ANL G 18 29 140 [2, 10, 12, 14, 15, 16, 19, 20] (by kernel_rfl) Tryd.func18 rfl rfl rfl (by kernel_rfl) v l) :=
 ev_lp ANL G 18 29 140 [2, 10, 12, 14, 15, 16, 19, 20] (by kernel_rfl) Tryd.func18 rfl rfl rfl (by kernel_rfl) v l
theorem l18_23L : type_of% (ev_lp ANL G 18 23 140 [2, 10, 12, 14, 15, 16, 17, 18] (by kernel_rfl) Tryd.func18 rfl rfl rfl (by kernel_rfl) v l) :=
 ev_lp ANL G 18 23 140 [2, 10, 12, 14, 15, 16, 17, 18] (by kernel_rfl) Tryd.func18 rfl rfl rfl (by kernel_rfl) v l
theorem l18_18L : type_of% (ev_lp ANL G 18 18 140 [2, 10, 12, 14, 15] (by kernel_rfl) Tryd.func18 rfl rfl rfl (by kernel_rfl) v l) :=
 ev_lp ANL G 18 18 140 [2, 10, 12, 14, 15] (by kernel_rfl) Tryd.func18 rfl rfl rfl (by kernel_rfl) v l
theorem l18_11L : type_of% (ev_lp ANL G 18 11 140 [1, 2, 10, 12, 13] (by kernel_rfl) Tryd.func18 rfl rfl rfl (by kernel_rfl) v l) :=
 ev_lp ANL G 18 11 140 [1, 2, 10, 12, 13] (by kernel_rfl) Tryd.func18 rfl rfl rfl (by kernel_rfl) v l
theorem l19_4L : type_of% (ev_lp ANL G 19 4 26 [0, 3, 4] (by kernel_rfl) Tryd.func19 rfl rfl rfl (by kernel_rfl) v l) :=
 ev_lp ANL G 19 4 26 [0, 3, 4] (by kernel_rfl) Tryd.func19 rfl rfl rfl (by kernel_rfl) v l
theorem l52_4L : type_of% (ev_lp ANL G 52 4 36 [1, 2, 4, 5, 6] (by kernel_rfl) Tryd.func52 rfl rfl rfl (by kernel_rfl) v l) :=
 ev_lp ANL G 52 4 36 [1, 2, 4, 5, 6] (by kernel_rfl) Tryd.func52 rfl rfl rfl (by kernel_rfl) v l
theorem e5L : type_of% (ev_fn ANL G 5 133 [.tmp 8] (by kernel_rfl) Tryd.func5 rfl rfl rfl a l) :=
 ev_fn ANL G 5 133 [.tmp 8] (by kernel_rfl) Tryd.func5 rfl rfl rfl a l
theorem e11L : type_of% (ev_fn ANL G 11 97 [.tmp 0] (by kernel_rfl) Tryd.func11 rfl rfl rfl a l) :=
 ev_fn ANL G 11 97 [.tmp 0] (by kernel_rfl) Tryd.func11 rfl rfl rfl a l
theorem e16L : type_of% (ev_fn ANL G 16 53 [.cell 2 45] (by kernel_rfl) Tryd.func16 rfl rfl rfl a l) :=
 ev_fn ANL G 16 53 [.cell 2 45] (by kernel_rfl) Tryd.func16 rfl rfl rfl a l
theorem e18L : type_of% (ev_fn ANL G 18 140 [.tmp 6, .tmp 7, .tmp 8] (by kernel_rfl) Tryd.func18 rfl rfl rfl a l) :=
 ev_fn ANL G 18 140 [.tmp 6, .tmp 7, .tmp 8] (by kernel_rfl) Tryd.func18 rfl rfl rfl a l
theorem e19L : type_of% (ev_fn ANL G 19 26 [.tmp 2] (by kernel_rfl) Tryd.func19 rfl rfl rfl a l) :=
 ev_fn ANL G 19 26 [.tmp 2] (by kernel_rfl) Tryd.func19 rfl rfl rfl a l
theorem e52L : type_of% (ev_fn ANL G 52 36 [.cell 4 45] (by kernel_rfl) Tryd.func52 rfl rfl rfl a l) :=
 ev_fn ANL G 52 36 [.cell 4 45] (by kernel_rfl) Tryd.func52 rfl rfl rfl a l
theorem gv12L : EL.F 12 a l = E.F 12 a l := ev_giv (by kernel_rfl) a l
theorem gv14L : EL.F 14 a l = E.F 14 a l := ev_giv (by kernel_rfl) a l
theorem gv15L : EL.F 15 a l = E.F 15 a l := ev_giv (by kernel_rfl) a l
theorem gv17L : EL.F 17 a l = E.F 17 a l := ev_giv (by kernel_rfl) a l
theorem gv20L : EL.F 20 a l = E.F 20 a l := ev_giv (by kernel_rfl) a l
theorem gv21L : EL.F 21 a l = E.F 21 a l := ev_giv (by kernel_rfl) a l
theorem gv22L : EL.F 22 a l = E.F 22 a l := ev_giv (by kernel_rfl) a l
theorem gv23L : EL.F 23 a l = E.F 23 a l := ev_giv (by kernel_rfl) a l
theorem gv25L : EL.F 25 a l = E.F 25 a l := ev_giv (by kernel_rfl) a l
theorem gv27L : EL.F 27 a l = E.F 27 a l := ev_giv (by kernel_rfl) a l
theorem gv30L : EL.F 30 a l = E.F 30 a l := ev_giv (by kernel_rfl) a l
theorem gv36L : EL.F 36 a l = E.F 36 a l := ev_giv (by kernel_rfl) a l
theorem gv39L : EL.F 39 a l = E.F 39 a l := ev_giv (by kernel_rfl) a l
theorem gv53L : EL.F 53 a l = E.F 53 a l := ev_giv (by kernel_rfl) a l
theorem gv54L : EL.F 54 a l = E.F 54 a l := ev_giv (by kernel_rfl) a l
end Go.Proofs.YtikppcfabnnhfaaDoor

/- awake. -/
namespace Go.Proofs.YtikppcfabnnhfaaDoor
open Go Go.Aw
set_option linter.unusedSimpArgs false
set_option linter.unusedVariables false
set_option maxRecDepth 100000
set_option maxHeartbeats 40000000
theorem same_loop {a b : List Int} (hl : a.length = b.length) (hla : a.length ≤ 1000000) : ∀ (r m q p : List Int), a = m ++ r -> b = p ++ q -> m.length = p.length ->
  ∃ e : Int, E.L 20 5 [.ro 1 (a.map (AV.int .i64)), .ro 1 (b.map (AV.int .i64)), .bool false, .int .i64 m.length] [] = some ((if r == q then .exit 0 else .ret, [.ro 1 (a.map (AV.int .i64)), .ro 1 (b.map (AV.int .i64)), .bool false, .int .i64 e], []), True) := by
 intro r
 induction r with
 | nil =>
  intro m q p h1 h2 h3
  have hq : q = [] := List.eq_nil_of_length_eq_zero (by have la := congrArg List.length h1; have lb := congrArg List.length h2; rw [List.length_append] at la lb; simp only [List.length_nil] at la; omega)
  subst hq
  have hn : m.length = a.length := by rw [h1]; simp
  refine ⟨a.length, ?_⟩
  have qq : ((a.length : Int) < a.length) = False := eq_false (by omega)
  rw [hn, l20_5]
  simp (maxSteps := 100000000) only [ivc, anf, vlen, vbuiltin, nilR, eq_self, Nat.reduceEqDiff, Nat.reduceLT, Nat.reduceAdd, Nat.reduceBEq, reduceCtorEq, ↓reduceIte, tyb, qq]
 | cons x r ih =>
  intro m q p h1 h2 h3
  have la := congrArg List.length h1
  have lb := congrArg List.length h2
  match q with
  | [] => simp at la lb; omega
  | y :: q =>
   simp only [List.length_append, List.length_cons] at la lb
   have hi' : (m.length : Int) < a.length := by omega
   have ga := getD_map (f := AV.int .i64) (show a[m.length]? = some x by rw [h1]; simp)
   have gb := getD_map (f := AV.int .i64) (show b[m.length]? = some y by rw [h2, h3]; simp)
   have hw : IntKind.i64.wrap ((m.length : Int) + 1) = m.length + 1 := wrap_id (by omega) (by omega)
   have c1 : (0 ≤ (m.length : Int) /\ (m.length : Int) < a.length) = True := eq_true (by omega)
   have c2 : (0 ≤ (m.length : Int) /\ (m.length : Int) < b.length) = True := eq_true (by omega)
   by_cases hx : x = y
   ·have hx' : (x != y) = false := by rw [hx]; simp
    have hb : ((x :: r) == (y :: q)) = (r == q) := by simp [hx]
    obtain ⟨e, ih'⟩ := ih (m ++ [x]) q (p ++ [y]) (by simp [h1]) (by simp [h2]) (by simp [h3])
    refine ⟨e, ?_⟩
    simp only [List.length_append, List.length_cons, List.length_nil, Nat.zero_add, Int.natCast_add, Int.cast_ofNat_Int] at ih'
    rw [hb, l20_5]
    simp (maxSteps := 100000000) only [ivc, anf, vlen, vbuiltin, nilR, eq_self, Nat.reduceEqDiff, Nat.reduceLT, Nat.reduceAdd, Nat.reduceBEq, reduceCtorEq, ↓reduceIte, tyb, hi', ga, gb, hw, c2, hx', ih']
    exact some_true (by omega)
   ·have hx' : (x != y) = true := bne_iff_ne.2 hx
    have hb : ((x :: r) == (y :: q)) = false := by simp [hx]
    refine ⟨m.length, ?_⟩
    rw [hb, l20_5]
    simp (maxSteps := 100000000) only [ivc, anf, vlen, vbuiltin, nilR, eq_self, Nat.reduceEqDiff, Nat.reduceLT, Nat.reduceAdd, Nat.reduceBEq, reduceCtorEq, ↓reduceIte, tyb, hi', ga, gb, c2, hx']
    exact some_true (by omega)
theorem same_ev {a b : List Int} (hla : a.length ≤ 1000000) : E.F 20 [.ro 1 (a.map (AV.int .i64)), .ro 1 (b.map (AV.int .i64))] [] = some ((.bool (a == b), []), True) := by
 rw [e20]
 by_cases h : a.length = b.length
 ·have hb : ((a.length : Int) != b.length) = false := by rw [h]; simp
  obtain ⟨e, lp⟩ := same_loop h hla a [] b [] rfl rfl rfl
  simp only [List.length_nil, Int.natCast_zero] at lp
  by_cases hab : (a == b) = true
  ·rw [hab]
   simp only [hab, if_true] at lp
   simp (maxSteps := 100000000) only [ivc, anf, vlen, vbuiltin, nilR, eq_self, Nat.reduceEqDiff, Nat.reduceLT, Nat.reduceLeDiff, Nat.reduceAdd, Nat.reduceBEq, reduceCtorEq, ↓reduceIte, tyb, hb, lp]
  ·have hab' : (a == b) = false := by simpa using hab
   rw [hab']
   simp only [hab', Bool.false_eq_true, if_false] at lp
   simp (maxSteps := 100000000) only [ivc, anf, vlen, vbuiltin, nilR, eq_self, Nat.reduceEqDiff, Nat.reduceLT, Nat.reduceLeDiff, Nat.reduceAdd, Nat.reduceBEq, reduceCtorEq, ↓reduceIte, tyb, hb, lp]
 ·have hb : ((a.length : Int) != b.length) = true := by simp; omega
  have hab' : (a == b) = false := by
   cases hh : a == b with
   | false => rfl
   | true => exact absurd (congrArg List.length (eq_of_beq hh)) h
  rw [hab']
  simp (maxSteps := 100000000) only [ivc, anf, vlen, vbuiltin, nilR, eq_self, Nat.reduceEqDiff, Nat.reduceLT, Nat.reduceLeDiff, Nat.reduceAdd, Nat.reduceBEq, reduceCtorEq, ↓reduceIte, tyb, hb]
theorem ex_ev : E.F 39 [] [] = some ((wdV exW, []), True) := by
 rw [e39]
 simp (maxSteps := 100000000) only [ivc, anf, vop, salloc, eq_self, Nat.reduceEqDiff, Nat.reduceLT, Nat.reduceLeDiff, Nat.reduceAdd, Nat.reduceMul, Nat.reduceBEq, Int.reduceLE, Int.reduceToNat, Int.reduceMul, reduceCtorEq, ↓reduceIte, tyb, exW, wdV, clV, enV, bdV]
theorem gv24L (a : List AV) (l : HL) : EL.F 24 a l = EP.F 24 a l := ev_giv (A := ANL) (by kernel_rfl) a l
theorem awake_ev : EL.F 11 [] [] = some ((.bool true, []), True) := by
 have a1 := ex_ev
 have a2 := conf_ev (w := exW) okW_of
 rw [if_pos ex_ck, ex_conf] at a2
 have a3 := least15_ev (w := exW) okW_of
 rw [if_pos ex_ck, ex_cnt, if_neg (by decide), ex_least] at a3
 have a4 := pack_ev (w := exW) (cs := [0, 1, 0]) okW_of (fun _ _ => ex_hasC)
 rw [if_pos ex_ck, if_pos ex_cc, ex_pack] at a4
 have a5 := grow_ev (w := exW) (cs := [0, 1, 0]) (cl := exC) (by decide) ex_ck (okW_of ex_ck) ex_cc ex_ck2 (okW_of ex_ck2) (by rw [ex_sz2]; decide) (by decide) (by rw [ex_sz2]; decide) ex_grow
 have s1 := same_ev (a := [0, 2]) (b := [0, 2]) (by decide)
 have s2 := same_ev (a := [0, 1, 2]) (b := [0, 1, 2]) (by decide)
 have s3 := same_ev (a := [2]) (b := [2]) (by decide)
 have s4 := look_ev (v := [⟨0, 0⟩, ⟨1, 1⟩, ⟨2, 3⟩, ⟨1, 2⟩]) (offs := [0, 2]) (l := [0, 1, 0]) (c := 1) (s := 2) (by decide) (by unfold i64r; decide) (by unfold i64r; decide)
 rw [show lookM [⟨0, 0⟩, ⟨1, 1⟩, ⟨2, 3⟩, ⟨1, 2⟩] [0, 2] [0, 1, 0] 1 2 = 3 from by kernel_rfl] at s4
 simp only [exW, exC, wdV, clV, enV, bdV, pV, List.map_cons, List.map_nil, beq_self_eq_true] at a1 a2 a3 a4 a5 s1 s2 s3 s4
 rw [e11L]
 simp (maxSteps := 100000000) only [ivc, vop, vlen, vbuiltin, nilR, salloc, eq_self, Nat.reduceEqDiff, Nat.reduceLT, Nat.reduceLeDiff, Nat.reduceAdd, Nat.reduceMul, Nat.reduceBEq, Int.reduceLT, Int.reduceLE, Int.reduceToNat, reduceCtorEq, ↓reduceIte, anfL, gv39L, gv36L, gv15L, gv24L, gv17L, gv20L, gv12L, tyb, a1, a2, a3, a4, a5, s1, s2, s3, s4]
end Go.Proofs.YtikppcfabnnhfaaDoor

/- ColourFinds: the walk. -/
namespace Go.Proofs.YtikppcfabnnhfaaDoor
open Go Go.Aw
set_option linter.unusedSimpArgs false
set_option linter.unusedVariables false
set_option maxRecDepth 100000
set_option maxHeartbeats 40000000
end Go.Proofs.YtikppcfabnnhfaaDoor

/- ColourFinds: all. -/
namespace Go.Proofs.YtikppcfabnnhfaaDoor
open Go Go.Aw
set_option linter.unusedSimpArgs false
set_option linter.unusedVariables false
set_option maxRecDepth 100000
set_option maxHeartbeats 40000000
theorem pk_top {cs : List Int} : ∀ {r : List (List Et)} {v : List Et} {o : List Int}, (∀ c ∈ r, ∀ e ∈ c, hasC cs e) -> topM (packM cs r (v, o)).2 (packM cs r (v, o)).1 ≤ topM o v + 501 * r.length
 | [], v, o, _ => by simp [packM]
 | c :: r, v, o, h => by
  have ih := pk_top (r := r) (v := putL (tblM cs c) (placeA o v (tblM cs c)) (growM v (tblM cs c) (placeA o v (tblM cs c)))) (o := o ++ [placeA o v (tblM cs c)]) (fun c hc => h c (by simp [hc]))
  have tl := tbl_len (h c (by simp))
  obtain ⟨p1, p2⟩ := place_ok (offs := o) (vec := v) (t := tblM cs c)
  have pr := (fAt_rng (ok := okA o v (tblM cs c)) (k := (topM o v).toNat) (a := 0)).2
  rw [show fAt (okA o v (tblM cs c)) (topM o v).toNat 0 = placeA o v (tblM cs c) from rfl] at pr
  obtain ⟨t1, t2⟩ := top_fold (offs := o) (n := v.length)
  rw [show o.foldl (fun n o => max n (o + 1)) (v.length : Int) = topM o v from rfl] at t1 t2
  obtain ⟨g1, g2, g3⟩ := growM_len (vec := v) (t := tblM cs c) p2
  rw [packM]
  generalize placeA o v (tblM cs c) = a at *
  have st : topM (o ++ [a]) (putL (tblM cs c) a (growM v (tblM cs c) a)) ≤ topM o v + 501 := by
   refine top_le (by rw [putL_len]; omega) fun x hx => ?_
   rcases List.mem_append.1 hx with hx | hx
   ·have := t2 x hx; omega
   ·rw [List.mem_singleton.1 hx]; omega
  rw [List.length_cons]
  dsimp only at ih ⊢
  omega
end Go.Proofs.YtikppcfabnnhfaaDoor

/- The reference's Pack: loops. -/
namespace Go.Proofs.YtikppcfabnnhfaaDoor
open Go Go.Aw
set_option linter.unusedSimpArgs false
set_option linter.unusedVariables false
set_option maxRecDepth 100000
set_option maxHeartbeats 40000000
def rpH (w : Wd) (vec : List Et) (offs : List Int) : HL := [(60000, ⟨true, 3, [wdV w]⟩), (60001, eR vec), (60002, iR offs)]
def rpT (w : Wd) (vec : List Et) (offs : List Int) (t : List Et) : HL := [(60000, ⟨true, 3, [wdV w]⟩), (60001, eR vec), (60002, iR offs), (60003, eR t)]
theorem rat_loop {w : Wd} {cs offs : List Int} {vec t : List Et} {ci : Int} {B : Int} (ho : ∀ o ∈ offs, o < B) (hv : vec.length ≤ B) (hB : B ≤ 900000) (hol : offs.length ≤ 1000) (htl : t.length ≤ 1000) : ∀ (k : Nat) (a : Int), 0 ≤ a -> a + k = B ->
  E.L 25 12 [.ro 1 (cs.map (AV.int .i64)), .ptr 60000 0 0, .sl 60001 0 vec.length, .sl 60002 0 offs.length, .int .i64 ci, .sl 60003 0 t.length, .int .i64 a] (rpT w vec offs t)
  = some ((.exit 2, [.ro 1 (cs.map (AV.int .i64)), .ptr 60000 0 0, .sl 60001 0 vec.length, .sl 60002 0 offs.length, .int .i64 ci, .sl 60003 0 t.length, .int .i64 (fAt (okA offs vec t) k a)], rpT w vec offs t), True) := by
 intro k
 induction k with
 | zero =>
  intro a h0 h
  have c1 := has60_ev (l := offs) (x := a) (by omega)
  have c2 := fits61_ev (vec := vec) (t := t) (at0 := a) h0 (by omega) (by omega) (by omega)
  have d1 : offs.contains a = false := by
   cases hc : offs.contains a with
   | false => rfl
   | true =>
    have := ho a (by simpa using hc)
    omega
  rw [d1] at c1
  rw [fitL_far (by omega)] at c2
  rw [l25_12]
  simp (maxSteps := 100000000) only [ivc, anf, vop, eq_self, Nat.reduceEqDiff, Nat.reduceLT, Nat.reduceLeDiff, Nat.reduceAdd, Nat.reduceBEq, reduceCtorEq, ↓reduceIte, rpT, eR, iR, wdV, c1, c2, fAt]
  try exact some_true (by omega)
 | succ k ih =>
  intro a h0 h
  have c1 := has60_ev (l := offs) (x := a) (by omega)
  have c2 := fits61_ev (vec := vec) (t := t) (at0 := a) h0 (by omega) (by omega) (by omega)
  have hw : IntKind.i64.wrap (a + 1) = a + 1 := wrap_id (by omega) (by omega)
  have ih' := ih (a + 1) (by omega) (by omega)
  simp only [rpT, eR, iR, wdV] at ih'
  rw [l25_12]
  cases d1 : offs.contains a with
  | true =>
   have e : fAt (okA offs vec t) (k + 1) a = fAt (okA offs vec t) k (a + 1) := by
    rw [fAt, if_neg]
    unfold okA
    rw [d1]
    simp
   rw [e]
   rw [d1] at c1
   simp (maxSteps := 100000000) only [ivc, anf, vop, nilR, eq_self, Nat.reduceEqDiff, Nat.reduceLT, Nat.reduceLeDiff, Nat.reduceAdd, Nat.reduceBEq, reduceCtorEq, ↓reduceIte, tyb, rpT, eR, iR, wdV, c1, hw, ih']
   try exact some_true (by omega)
  | false =>
   rw [d1] at c1
   cases d2 : fitL vec t a with
   | true =>
    have e : fAt (okA offs vec t) (k + 1) a = a := by
     rw [fAt, if_pos]
     unfold okA
     rw [d1, d2]
     rfl
    rw [e]
    rw [d2] at c2
    simp (maxSteps := 100000000) only [ivc, anf, vop, eq_self, Nat.reduceEqDiff, Nat.reduceLT, Nat.reduceLeDiff, Nat.reduceAdd, Nat.reduceBEq, reduceCtorEq, ↓reduceIte, rpT, eR, iR, wdV, c1, c2]
    try exact some_true (by omega)
   | false =>
    have e : fAt (okA offs vec t) (k + 1) a = fAt (okA offs vec t) k (a + 1) := by
     rw [fAt, if_neg]
     unfold okA
     rw [d2]
     simp
    rw [e]
    rw [d2] at c2
    simp (maxSteps := 100000000) only [ivc, anf, vop, nilR, eq_self, Nat.reduceEqDiff, Nat.reduceLT, Nat.reduceLeDiff, Nat.reduceAdd, Nat.reduceBEq, reduceCtorEq, ↓reduceIte, tyb, rpT, eR, iR, wdV, c1, c2, hw, ih']
    try exact some_true (by omega)
/-- The vector grows by empty places. -/
theorem rg_loop {w : Wd} {cs offs : List Int} {t : List Et} {ci a : Int} {i : Nat} (h0 : 0 ≤ a) (hB : a ≤ 900000) (hi : i < 1000) : ∀ (k : Nat) (vec : List Et), vec.length + k ≤ 901001 -> ((vec.length : Int) + k = a + i + 1 \/ (k = 0 /\ a + i < vec.length)) ->
  E.L 25 18 [.ro 1 (cs.map (AV.int .i64)), .ptr 60000 0 0, .sl 60001 0 vec.length, .sl 60002 0 offs.length, .int .i64 ci, .sl 60003 0 t.length, .int .i64 a, .int .i64 i] (rpT w vec offs t)
  = some ((.exit 6, [.ro 1 (cs.map (AV.int .i64)), .ptr 60000 0 0, .sl 60001 0 (vec ++ reN k).length, .sl 60002 0 offs.length, .int .i64 ci, .sl 60003 0 t.length, .int .i64 a, .int .i64 i], rpT w (vec ++ reN k) offs t), True) := by
 have hw2 : IntKind.i64.wrap (a + i) = a + i := wrap_id (by omega) (by omega)
 intro k
 induction k with
 | zero =>
  intro vec hv h
  have q3 : ((vec.length : Int) ≤ a + i) = False := eq_false (by omega)
  rw [show vec ++ reN 0 = vec from List.append_nil vec, l25_18]
  simp (maxSteps := 100000000) only [ivc, anf, vlen, vbuiltin, nilR, eq_self, Nat.reduceEqDiff, Nat.reduceLT, Nat.reduceLeDiff, Nat.reduceAdd, Nat.reduceBEq, Int.reduceNeg, reduceCtorEq, ↓reduceIte, tyb, rpT, eR, iR, wdV, hw2, q3]
  try exact some_true (by omega)
 | succ k ih =>
  intro vec hv h
  have q3 : ((vec.length : Int) ≤ a + i) = True := eq_true (by omega)
  have ih' := ih (vec ++ [noE]) (by simp; omega) (by simp; omega)
  rw [show (vec ++ [noE]) ++ reN k = vec ++ reN (k + 1) by rw [reN_succ, List.append_assoc]; rfl] at ih'
  generalize vec ++ reN (k + 1) = O at ih' ⊢
  simp only [List.length_append, List.length_cons, List.length_nil, Nat.zero_add, rpT, eR, iR, wdV, noE, enV, List.map_append, List.map_cons, List.map_nil] at ih'
  rw [l25_18]
  simp (maxSteps := 100000000) only [ivc, anf, vop, vlen, vbuiltin, nilR, salloc, sappend, eq_self, Nat.reduceEqDiff, Nat.reduceLT, Nat.reduceLeDiff, Nat.reduceAdd, Nat.reduceMul, Nat.reduceBEq, Int.reduceNeg, reduceCtorEq, ↓reduceIte, tyb, rpT, eR, iR, wdV, hw2, q3, ih']
  try exact some_true (by omega)
def rput : List Et -> Int -> List Et -> List Et
 | [], _, v => v
 | s :: r, p, v => rput r (p + 1) (if 0 ≤ s.s then (extM v (p + 1)).set p.toNat s else extM v (p + 1))
theorem rput_le {N : Int} : ∀ {r : List Et} {p : Int} {v : List Et}, (v.length : Int) ≤ N -> p + r.length ≤ N -> ((rput r p v).length : Int) ≤ N
 | [], _, v, h, _ => h
 | s :: r, p, v, h, hp => by
  have el := ext_len (o := v) (n := p + 1)
  simp only [List.length_cons] at hp
  rw [rput]
  refine rput_le ?_ (by omega)
  split
  ·rw [List.length_set]
   omega
  ·omega
theorem rput_loop {w : Wd} {cs offs : List Int} {t : List Et} {ci a : Int} (h0 : 0 ≤ a) (hB : a ≤ 900000) (htl : t.length ≤ 900) : ∀ (r m vec : List Et), t = m ++ r -> vec.length ≤ 900900 ->
  E.L 25 16 [.ro 1 (cs.map (AV.int .i64)), .ptr 60000 0 0, .sl 60001 0 vec.length, .sl 60002 0 offs.length, .int .i64 ci, .sl 60003 0 t.length, .int .i64 a, .int .i64 m.length] (rpT w vec offs t)
  = some ((.exit 4, [.ro 1 (cs.map (AV.int .i64)), .ptr 60000 0 0, .sl 60001 0 (rput r (a + m.length) vec).length, .sl 60002 0 offs.length, .int .i64 ci, .sl 60003 0 t.length, .int .i64 a, .int .i64 t.length], rpT w (rput r (a + m.length) vec) offs t), True) := by
 intro r
 induction r with
 | nil =>
  intro m vec h hv
  rw [List.append_nil] at h
  subst h
  have q : ((t.length : Int) < t.length) = False := eq_false (by omega)
  rw [l25_16, show rput [] (a + t.length) vec = vec from rfl]
  simp (maxSteps := 100000000) only [ivc, anf, vlen, vbuiltin, nilR, eq_self, Nat.reduceEqDiff, Nat.reduceLT, Nat.reduceLeDiff, Nat.reduceAdd, Nat.reduceBEq, Int.reduceNeg, reduceCtorEq, ↓reduceIte, tyb, rpT, eR, iR, wdV, q]
 | cons s r ih =>
  intro m vec h hv
  have hn : m.length + (r.length + 1) = t.length := by rw [h]; simp
  have hi' : (m.length : Int) < t.length := by omega
  have hg := getD_map (f := enV) (show t[m.length]? = some s by rw [h]; simp)
  have hw : IntKind.i64.wrap ((m.length : Int) + 1) = m.length + 1 := wrap_id (by omega) (by omega)
  have hw2 : IntKind.i64.wrap (a + m.length) = a + m.length := wrap_id (by omega) (by omega)
  have hc : (0 ≤ (m.length : Int) /\ (m.length : Int) < t.length) = True := eq_true (by omega)
  have el := ext_len (o := vec) (n := a + m.length + 1)
  have lp := rg_loop (w := w) (cs := cs) (offs := offs) (t := t) (ci := ci) (a := a) (i := m.length) h0 hB (by omega) (a + m.length + 1 - vec.length).toNat vec (by omega) (by omega)
  rw [show vec ++ reN (a + m.length + 1 - vec.length).toNat = extM vec (a + m.length + 1) from rfl] at lp
  have hp : rput (s :: r) (a + m.length) vec = rput r (a + m.length + 1) (if 0 ≤ s.s then (extM vec (a + m.length + 1)).set (a + m.length).toNat s else extM vec (a + m.length + 1)) := rfl
  rw [hp]
  by_cases h1 : 0 ≤ s.s
  ·rw [if_pos h1]
   have ih' := ih (m ++ [s]) ((extM vec (a + m.length + 1)).set (a + m.length).toNat s) (by simp [h]) (by rw [List.length_set]; omega)
   generalize extM vec (a + m.length + 1) = O at el lp ih' ⊢
   have hc2 : (0 ≤ a + (m.length : Int) /\ a + (m.length : Int) < O.length) = True := eq_true (by omega)
   have g2 := getSl (l := O) (i := (a + (m.length : Int)).toNat) (by omega)
   have g3 : (O.map enV).set (a + (m.length : Int)).toNat (.agg [.int .i64 s.s, .int .i64 s.m]) = (O.set (a + (m.length : Int)).toNat s).map enV := set_map (f := enV)
   simp only [List.length_append, List.length_cons, List.length_nil, Nat.zero_add, Int.natCast_add, Int.cast_ofNat_Int, rpT, eR, iR, wdV, List.length_set, <- Int.add_assoc] at ih' lp
   generalize rput r (a + m.length + 1) (O.set (a + (m.length : Int)).toNat s) = R at ih' ⊢
   rw [l25_16]
   simp (maxSteps := 100000000) only [ivc, anf, vop, vlen, vbuiltin, nilR, eq_self, Nat.reduceEqDiff, Nat.reduceLT, Nat.reduceLeDiff, Nat.reduceAdd, Nat.reduceBEq, Int.reduceNeg, reduceCtorEq, ↓reduceIte, tyb, rpT, eR, iR, wdV, enV, hi', hg, hw, hw2, lp, hc2, g2, g3, h1, ih']
   try exact some_true (by omega)
  ·rw [if_neg h1]
   have ih' := ih (m ++ [s]) (extM vec (a + m.length + 1)) (by simp [h]) (by omega)
   generalize extM vec (a + m.length + 1) = O at el lp ih' ⊢
   simp only [List.length_append, List.length_cons, List.length_nil, Nat.zero_add, Int.natCast_add, Int.cast_ofNat_Int, rpT, eR, iR, wdV, <- Int.add_assoc] at ih' lp
   generalize rput r (a + m.length + 1) O = R at ih' ⊢
   rw [l25_16]
   simp (maxSteps := 100000000) only [ivc, anf, vop, vlen, vbuiltin, nilR, eq_self, Nat.reduceEqDiff, Nat.reduceLT, Nat.reduceLeDiff, Nat.reduceAdd, Nat.reduceBEq, Int.reduceNeg, reduceCtorEq, ↓reduceIte, tyb, rpT, eR, iR, wdV, enV, hi', hg, hw, lp, h1, ih']
   try exact some_true (by omega)
theorem reN_len {n : Nat} : (reN n).length = n := List.length_replicate
theorem rput_eq1 : ∀ {r : List Et} {p : Int} {v : List Et}, 0 ≤ p -> p ≤ v.length -> rput r p v = putL r p (extM v (p + r.length))
 | [], p, v, h0, h => by
  show v = v ++ reN (p + 0 - v.length).toNat
  rw [show (p + 0 - v.length).toNat = 0 by omega]
  exact (List.append_nil v).symm
 | s :: r, p, v, h0, h => by
  have el := ext_len (o := v) (n := p + 1)
  have e2 : extM (extM v (p + 1)) (p + 1 + r.length) = extM v (p + (s :: r).length) := by
   unfold extM
   rw [List.append_assoc, reN_add, List.length_append, reN_len, List.length_cons]
   congr 2
   omega
  rw [rput, putL]
  have hlt : p.toNat < (extM v (p + 1)).length := by omega
  split
  ·rw [rput_eq1 (by omega) (by rw [List.length_set]; omega), <- e2]
   congr 1
   unfold extM at hlt ⊢
   rw [List.length_set, List.set_append_left _ _ hlt]
  ·rw [rput_eq1 (by omega) (by omega), <- e2]
theorem rput_eq {t : List Et} {p : Int} {v : List Et} (h0 : 0 ≤ p) : rput t p v = putL t p (growM v t p) := by
 match t with
 | [] => 
  have : growM v [] p = v := by unfold growM; rw [if_neg (fun h => absurd h.1 (by simp))]
  rw [this]
  rfl
 | s :: r =>
  have e : growM v (s :: r) p = extM v (p + (s :: r).length) := by
   unfold growM extM
   by_cases h : (v.length : Int) < p + (s :: r).length
   ·rw [if_pos ⟨by simp, h⟩]
   ·rw [if_neg (fun q => h q.2), show (p + ((s :: r).length : Int) - v.length).toNat = 0 by omega]
    exact (List.append_nil v).symm
  rw [e]
  have el := ext_len (o := v) (n := p + 1)
  have e2 : extM (extM v (p + 1)) (p + 1 + r.length) = extM v (p + (s :: r).length) := by
   unfold extM
   rw [List.append_assoc, reN_add, List.length_append, reN_len, List.length_cons]
   congr 2
   omega
  rw [rput, putL]
  have hlt : p.toNat < (extM v (p + 1)).length := by omega
  split
  ·rw [rput_eq1 (by omega) (by rw [List.length_set]; omega), <- e2]
   congr 1
   unfold extM at hlt ⊢
   rw [List.length_set, List.set_append_left _ _ hlt]
  ·rw [rput_eq1 (by omega) (by omega), <- e2]
end Go.Proofs.YtikppcfabnnhfaaDoor

/- The reference's Pack, Table; Table of the program; slots. -/
namespace Go.Proofs.YtikppcfabnnhfaaDoor
open Go Go.Aw
set_option linter.unusedSimpArgs false
set_option linter.unusedVariables false
set_option maxRecDepth 100000
set_option maxHeartbeats 40000000
theorem rpack_loop {w : Wd} {cs : List Int} (hcl : w.classes.length ≤ 200) (hc : ∀ c ∈ w.classes, c.length ≤ 100 /\ ∀ e ∈ c, hasC cs e) : ∀ (r m : List (List Et)) (vec : List Et) (offs : List Int), w.classes = m ++ r -> offs.length = m.length -> (∀ o ∈ offs, 0 ≤ o) -> topM offs vec ≤ 501 * m.length ->
  E.L 25 8 [.ro 1 (cs.map (AV.int .i64)), .ptr 60000 0 0, .sl 60001 0 vec.length, .sl 60002 0 offs.length, .int .i64 m.length] (rpH w vec offs)
  = some ((.exit 0, [.ro 1 (cs.map (AV.int .i64)), .ptr 60000 0 0, .sl 60001 0 (packM cs r (vec, offs)).1.length, .sl 60002 0 (packM cs r (vec, offs)).2.length, .int .i64 w.classes.length], rpH w (packM cs r (vec, offs)).1 (packM cs r (vec, offs)).2), True) := by
 intro r
 induction r with
 | nil =>
  intro m vec offs h hol ho0 hT
  rw [List.append_nil] at h
  have q : ((w.classes.length : Int) < w.classes.length) = False := eq_false (by omega)
  rw [<- h, l25_8]
  simp (maxSteps := 100000000) only [ivc, anf, vop, vlen, vbuiltin, nilR, eq_self, Nat.reduceEqDiff, Nat.reduceLT, Nat.reduceLeDiff, Nat.reduceAdd, Nat.reduceBEq, Int.reduceNeg, reduceCtorEq, ↓reduceIte, tyb, rpH, eR, iR, wdV, q, packM]
 | cons c r ih =>
  intro m vec offs h hol ho0 hT
  have hn : m.length + (r.length + 1) = w.classes.length := by rw [h]; simp
  have hi' : (m.length : Int) < w.classes.length := by omega
  have hm : w.classes[m.length]? = some c := by rw [h]; simp
  obtain ⟨c1, c2⟩ := hc c (List.mem_of_getElem? hm)
  have tb := rtable_ev (w := w) hm (by omega) c2 (by omega)
  have tl := tbl_len c2
  have hw : IntKind.i64.wrap ((m.length : Int) + 1) = m.length + 1 := wrap_id (by omega) (by omega)
  obtain ⟨t1, t2⟩ := top_fold (offs := offs) (n := (vec.length : Int))
  change (vec.length : Int) ≤ topM offs vec at t1
  change ∀ o ∈ offs, o < topM offs vec at t2
  have hpk : packM cs (c :: r) (vec, offs) = packM cs r (putL (tblM cs c) (placeA offs vec (tblM cs c)) (growM vec (tblM cs c) (placeA offs vec (tblM cs c))), offs ++ [placeA offs vec (tblM cs c)]) := rfl
  rw [hpk]
  generalize tblM cs c = t at tb tl ⊢
  have al := rat_loop (w := w) (cs := cs) (ci := m.length) t2 t1 (by omega) (by omega) (t := t) (by omega) (topM offs vec).toNat 0 (by omega) (by omega)
  have ar := fAt_rng (ok := okA offs vec t) (k := (topM offs vec).toNat) (a := 0)
  change E.L 25 12 _ _ = some ((.exit 2, [_, _, _, _, _, _, .int .i64 (placeA offs vec t)], _), True) at al
  change 0 ≤ placeA offs vec t /\ placeA offs vec t ≤ 0 + (topM offs vec).toNat at ar
  generalize placeA offs vec t = a at al ar ⊢
  have pl := rput_loop (w := w) (cs := cs) (offs := offs ++ [a]) (ci := m.length) (a := a) (t := t) ar.1 (by omega) (by omega) t [] vec rfl (by omega)
  have pe := rput_le (N := max (vec.length : Int) (a + t.length)) (r := t) (p := a) (v := vec) (by omega) (by omega)
  rw [<- rput_eq ar.1]
  simp only [List.length_nil, Int.natCast_zero, Int.add_zero] at pl
  generalize rput t a vec = V at pl pe ⊢
  have ih' := ih (m ++ [c]) V (offs ++ [a]) (by simp [h]) (by simp [hol]) (fun o ho => by
   rcases List.mem_append.1 ho with ho | ho
   ·exact ho0 o ho
   ·rw [List.mem_singleton] at ho
    omega) (by
   refine top_le (by simp; omega) (fun o ho => ?_)
   rcases List.mem_append.1 ho with ho | ho
   ·have := t2 o ho
    simp; omega
   ·rw [List.mem_singleton] at ho
    simp; omega)
  generalize packM cs r (V, offs ++ [a]) = P at ih' ⊢
  simp only [List.length_append, List.length_cons, List.length_nil, Nat.zero_add, Int.natCast_add, Int.cast_ofNat_Int, rpH, eR, iR, wdV, List.map_append, List.map_cons, List.map_nil] at ih'
  simp only [List.length_append, List.length_cons, List.length_nil, Nat.zero_add, rpT, eR, iR, wdV, List.map_append, List.map_cons, List.map_nil] at pl al
  simp only [wdV] at tb
  rw [l25_8]
  simp (maxSteps := 100000000) only [ivc, anf, vop, vlen, vbuiltin, nilR, salloc, sappend, eq_self, Nat.reduceEqDiff, Nat.reduceLT, Nat.reduceLeDiff, Nat.reduceAdd, Nat.reduceMul, Nat.reduceBEq, Int.reduceNeg, reduceCtorEq, ↓reduceIte, tyb, rpH, eR, iR, wdV, hi', hw, tb, al, pl, ih']
  exact some_true (by omega)
theorem hc_of {w : Wd} {cs : List Int} (h : ccM w cs = 0) : Good w /\ ColsOk (graphW w) cs /\ ∀ c ∈ w.classes, c.length ≤ 100 /\ ∀ e ∈ c, hasC cs e := by
 by_cases hk : ckM w = 0
 ·unfold ccM at h
  rw [if_pos hk] at h
  have g := good_of hk
  have ok := cc_iff.1 h
  exact ⟨g, ok, fun c hc => ⟨g.len c hc, (inj_of g ok hc).2⟩⟩
 ·unfold ccM at h
  rw [if_neg hk] at h
  exact absurd h hk
theorem rpack_ev {w : Wd} {cs : List Int} : E.F 25 [wdV w, .ro 1 (cs.map (AV.int .i64))] [] = some ((if ccM w cs = 0 then .tup [.ro 2 ((packM cs w.classes ([], [])).1.map enV), .ro 1 ((packM cs w.classes ([], [])).2.map (AV.int .i64)), .int .i64 0] else .tup [.ro 2 [], .ro 1 [], .int .i64 (ccM w cs)], []), True) := by
 have h1 := rcc_ev' (w := w) (cs := cs)
 simp only [wdV] at h1
 by_cases h : ccM w cs = 0
 ·rw [if_pos h]
  obtain ⟨g, ok, hc⟩ := hc_of h
  rw [h] at h1
  have lp := rpack_loop (cs := cs) g.nc hc w.classes [] [] [] rfl rfl (fun o ho => by cases ho) (by simp [topM])
  generalize packM cs w.classes ([], []) = p at lp ⊢
  simp only [rpH, eR, iR, wdV, List.length_nil, List.map_nil, Int.natCast_zero] at lp
  rw [e25]
  simp (maxSteps := 100000000) only [ivc, anf, nilR, salloc, eq_self, Nat.reduceEqDiff, Nat.reduceLT, Nat.reduceLeDiff, Nat.reduceAdd, Nat.reduceBEq, Int.reduceNeg, reduceCtorEq, ↓reduceIte, tyb, wdV, h1, lp]
  try exact some_true (by omega)
 ·rw [if_neg h]
  have h' : (ccM w cs != 0) = true := bne_iff_ne.2 h
  generalize ccM w cs = v at h1 h' ⊢
  rw [e25]
  simp (maxSteps := 100000000) only [ivc, anf, nilR, salloc, eq_self, Nat.reduceEqDiff, Nat.reduceLT, Nat.reduceLeDiff, Nat.reduceAdd, Nat.reduceBEq, Int.reduceNeg, ↓reduceIte, tyb, wdV, h1, h']
def tabM (w : Wd) (cs : List Int) (k : Int) : List Et × Int := if ccM w cs = 0 then if 0 ≤ k /\ k < w.classes.length then (tblM cs (w.classes.getD k.toNat []), 0) else ([], 5) else ([], ccM w cs)
theorem rtab_ev {w : Wd} {cs : List Int} {k : Int} : E.F 22 [wdV w, .ro 1 (cs.map (AV.int .i64)), .int .i64 k] [] = some ((.tup [.ro 2 ((tabM w cs k).1.map enV), .int .i64 (tabM w cs k).2], []), True) := by
 have h1 := rcc_ev' (w := w) (cs := cs)
 simp only [wdV] at h1
 unfold tabM
 by_cases h : ccM w cs = 0
 ·rw [if_pos h]
  obtain ⟨g, ok, hc⟩ := hc_of h
  have gn := g.nc
  rw [h] at h1
  by_cases b1 : k < 0
  ·rw [if_neg (by omega), e22]
   simp (maxSteps := 100000000) only [ivc, anf, vop, vlen, vbuiltin, nilR, salloc, eq_self, Nat.reduceEqDiff, Nat.reduceLT, Nat.reduceLeDiff, Nat.reduceAdd, Nat.reduceBEq, ↓reduceIte, tyb, wdV, h1, b1]
  ·by_cases b2 : (w.classes.length : Int) ≤ k
   ·rw [if_neg (by omega), e22]
    simp (maxSteps := 100000000) only [ivc, anf, vop, vlen, vbuiltin, nilR, salloc, eq_self, Nat.reduceEqDiff, Nat.reduceLT, Nat.reduceLeDiff, Nat.reduceAdd, Nat.reduceBEq, ↓reduceIte, tyb, wdV, h1, b1, b2]
   ·have hk : w.classes[k.toNat]? = some (w.classes.getD k.toNat []) := by
     rw [List.getD_eq_getElem?_getD, List.getElem?_eq_getElem (by omega)]
     rfl
    obtain ⟨c1, c2⟩ := hc _ (List.mem_of_getElem? hk)
    have tb := rtable_ev (w := w) hk (by omega) c2 (by omega)
    rw [show ((k.toNat : Nat) : Int) = k by omega] at tb
    rw [if_pos (by omega), e22]
    generalize tblM cs (w.classes.getD k.toNat []) = T at tb ⊢
    simp only [wdV] at tb
    have tk : (T.map enV).take T.length = T.map enV := List.take_of_length_le (by simp)
    simp (maxSteps := 100000000) only [ivc, anf, vop, vlen, vbuiltin, nilR, salloc, eq_self, Nat.reduceEqDiff, Nat.reduceLT, Nat.reduceLeDiff, Nat.reduceAdd, Nat.reduceMul, Nat.reduceBEq, ↓reduceIte, tyb, wdV, h1, b1, b2, tb, tk]
    try exact some_true (by omega)
 ·rw [if_neg h]
  have h' : (ccM w cs != 0) = true := bne_iff_ne.2 h
  generalize ccM w cs = v at h1 h' ⊢
  rw [e22]
  simp (maxSteps := 100000000) only [ivc, anf, nilR, salloc, eq_self, Nat.reduceEqDiff, Nat.reduceLT, Nat.reduceLeDiff, Nat.reduceAdd, Nat.reduceBEq, ↓reduceIte, tyb, wdV, h1, h']
theorem tab_ev {w : Wd} {cs : List Int} {k : Int} : E.F 21 [wdV w, .ro 1 (cs.map (AV.int .i64)), .int .i64 k] [] = some ((.tup [.ro 2 ((tabM w cs k).1.map enV), .int .i64 (tabM w cs k).2], []), True) := by
 have h1 := cc_ev (w := w) (cs := cs) okW_of
 rw [show (if ckM w = 0 then ccW (graphW w) cs else ckM w) = ccM w cs from rfl] at h1
 simp only [wdV] at h1
 unfold tabM
 by_cases h : ccM w cs = 0
 ·rw [if_pos h]
  obtain ⟨g, ok, hc⟩ := hc_of h
  have gn := g.nc
  rw [h] at h1
  by_cases b1 : k < 0
  ·rw [if_neg (by omega), e21]
   simp (maxSteps := 100000000) only [ivc, anf, vop, vlen, vbuiltin, nilR, salloc, eq_self, Nat.reduceEqDiff, Nat.reduceLT, Nat.reduceLeDiff, Nat.reduceAdd, Nat.reduceBEq, ↓reduceIte, tyb, wdV, h1, b1]
  ·by_cases b2 : (w.classes.length : Int) ≤ k
   ·rw [if_neg (by omega), e21]
    simp (maxSteps := 100000000) only [ivc, anf, vop, vlen, vbuiltin, nilR, salloc, eq_self, Nat.reduceEqDiff, Nat.reduceLT, Nat.reduceLeDiff, Nat.reduceAdd, Nat.reduceBEq, ↓reduceIte, tyb, wdV, h1, b1, b2]
   ·have hk : w.classes[k.toNat]? = some (w.classes.getD k.toNat []) := by
     rw [List.getD_eq_getElem?_getD, List.getElem?_eq_getElem (by omega)]
     rfl
    obtain ⟨c1, c2⟩ := hc _ (List.mem_of_getElem? hk)
    have tb := table_ev (w := w) hk (by omega) c2 (by omega)
    rw [show ((k.toNat : Nat) : Int) = k by omega] at tb
    rw [if_pos (by omega), e21]
    generalize tblM cs (w.classes.getD k.toNat []) = T at tb ⊢
    simp only [wdV] at tb
    have tk : (T.map enV).take T.length = T.map enV := List.take_of_length_le (by simp)
    simp (maxSteps := 100000000) only [ivc, anf, vop, vlen, vbuiltin, nilR, salloc, eq_self, Nat.reduceEqDiff, Nat.reduceLT, Nat.reduceLeDiff, Nat.reduceAdd, Nat.reduceMul, Nat.reduceBEq, ↓reduceIte, tyb, wdV, h1, b1, b2, tb, tk]
    try exact some_true (by omega)
 ·rw [if_neg h]
  have h' : (ccM w cs != 0) = true := bne_iff_ne.2 h
  generalize ccM w cs = v at h1 h' ⊢
  rw [e21]
  simp (maxSteps := 100000000) only [ivc, anf, nilR, salloc, eq_self, Nat.reduceEqDiff, Nat.reduceLT, Nat.reduceLeDiff, Nat.reduceAdd, Nat.reduceBEq, ↓reduceIte, tyb, wdV, h1, h']
theorem slots_loop {a : List Et} (hla : a.length ≤ 1000000) : ∀ (r m : List Et), a = m ++ r ->
  E.L 23 5 [.ro 2 (a.map enV), .ro 2 (a.map enV), .bool false, .int .i64 m.length] [] = some ((.exit 0, [.ro 2 (a.map enV), .ro 2 (a.map enV), .bool false, .int .i64 a.length], []), True) := by
 intro r
 induction r with
 | nil =>
  intro m h
  rw [List.append_nil] at h
  subst h
  have q : ((a.length : Int) < a.length) = False := eq_false (by omega)
  rw [l23_5]
  simp (maxSteps := 100000000) only [ivc, anf, vlen, vbuiltin, nilR, eq_self, Nat.reduceEqDiff, Nat.reduceLT, Nat.reduceAdd, Nat.reduceBEq, reduceCtorEq, ↓reduceIte, tyb, q]
 | cons x r ih =>
  intro m h
  have hn : m.length + (r.length + 1) = a.length := by rw [h]; simp
  have hi' : (m.length : Int) < a.length := by omega
  have hg := getD_map (f := enV) (show a[m.length]? = some x by rw [h]; simp)
  have hw : IntKind.i64.wrap ((m.length : Int) + 1) = m.length + 1 := wrap_id (by omega) (by omega)
  have hc : (0 ≤ (m.length : Int) /\ (m.length : Int) < a.length) = True := eq_true (by omega)
  have e1 : ∀ y : Int, (y != y) = false := fun y => by simp
  have ih' := ih (m ++ [x]) (by simp [h])
  simp only [List.length_append, List.length_cons, List.length_nil, Nat.zero_add, Int.natCast_add, Int.cast_ofNat_Int] at ih'
  rw [l23_5]
  simp (maxSteps := 100000000) only [ivc, anf, vop, vlen, vbuiltin, nilR, eq_self, Nat.reduceEqDiff, Nat.reduceLT, Nat.reduceAdd, Nat.reduceBEq, reduceCtorEq, ↓reduceIte, tyb, enV, hi', hg, hw, ih']
  try exact some_true (by omega)
theorem slots_ev {a : List Et} (hla : a.length ≤ 1000000) : E.F 23 [.ro 2 (a.map enV), .ro 2 (a.map enV)] [] = some ((.bool true, []), True) := by
 have lp := slots_loop hla a [] rfl
 simp only [List.length_nil, Int.natCast_zero] at lp
 have e1 : ((a.length : Int) != a.length) = false := by simp
 rw [e23]
 simp (maxSteps := 100000000) only [ivc, anf, vlen, vbuiltin, nilR, eq_self, Nat.reduceEqDiff, Nat.reduceLT, Nat.reduceLeDiff, Nat.reduceAdd, Nat.reduceBEq, reduceCtorEq, ↓reduceIte, tyb, lp]
end Go.Proofs.YtikppcfabnnhfaaDoor

/- entries, world; the reference's grown. -/
namespace Go.Proofs.YtikppcfabnnhfaaDoor
open Go Go.Aw
set_option linter.unusedSimpArgs false
set_option linter.unusedVariables false
set_option maxRecDepth 100000
set_option maxHeartbeats 40000000
theorem entr_loop {l : List Et} (hl : l.length ≤ 1000000) : ∀ (r m : List Et), l = m ++ r ->
  EL.L 19 4 [.ro 2 (l.map enV), .sl 60000 0 m.length, .int .i64 m.length] [(60000, eR m)] = some ((.exit 0, [.ro 2 (l.map enV), .sl 60000 0 l.length, .int .i64 l.length], [(60000, eR l)]), True) := by
 intro r
 induction r with
 | nil =>
  intro m h
  rw [List.append_nil] at h
  subst h
  have q : ((l.length : Int) < l.length) = False := eq_false (by omega)
  rw [l19_4L]
  simp (maxSteps := 100000000) only [ivc, vlen, vbuiltin, nilR, eq_self, Nat.reduceEqDiff, Nat.reduceLT, Nat.reduceLeDiff, Nat.reduceAdd, reduceCtorEq, ↓reduceIte, anfL, tyb, eR, q]
 | cons x r ih =>
  intro m h
  have hn : m.length + (r.length + 1) = l.length := by rw [h]; simp
  have hi' : (m.length : Int) < l.length := by omega
  have hg := getD_map (f := enV) (show l[m.length]? = some x by rw [h]; simp)
  have hw : IntKind.i64.wrap ((m.length : Int) + 1) = m.length + 1 := wrap_id (by omega) (by omega)
  have hc : (0 ≤ (m.length : Int) /\ (m.length : Int) < l.length) = True := eq_true (by omega)
  have ih' := ih (m ++ [x]) (by simp [h])
  simp only [List.length_append, List.length_cons, List.length_nil, Nat.zero_add, Int.natCast_add, Int.cast_ofNat_Int, eR, enV, List.map_append, List.map_cons, List.map_nil] at ih'
  rw [l19_4L]
  simp (maxSteps := 100000000) only [ivc, vop, vlen, vbuiltin, nilR, salloc, sappend, eq_self, Nat.reduceEqDiff, Nat.reduceLT, Nat.reduceLeDiff, Nat.reduceAdd, Nat.reduceMul, Nat.reduceSub, Nat.reduceBEq, reduceCtorEq, ↓reduceIte, anfL, tyb, eR, enV, hi', hg, hw, ih']
  try exact some_true (by omega)
theorem entries_ev {l : List Et} (hl : l.length ≤ 1000000) : EL.F 19 [.ro 2 (l.map enV)] [] = some ((.ro 2 (l.map enV), []), True) := by
 have lp := entr_loop hl l [] rfl
 simp only [List.length_nil, Int.natCast_zero, eR, List.map_nil] at lp
 have tk : (l.map enV).take l.length = l.map enV := List.take_of_length_le (by simp)
 rw [e19L]
 simp (maxSteps := 100000000) only [ivc, eq_self, Nat.reduceEqDiff, Nat.reduceLT, Nat.reduceLeDiff, Nat.reduceAdd, reduceCtorEq, ↓reduceIte, anfL, lp, tk]
 try exact some_true (by omega)
def zW : AV := .agg [.nilsl, .nilsl, .nilsl]
def gnH (w : Wd) (m : List (List Et)) : HL := [(60000, ⟨true, 3, [wdV w]⟩), (60001, ⟨true, 3, [zW]⟩), (60002, ⟨true, 3, [.agg [.sl 60003 0 m.length, .ro 3 (w.bodies.map bdV), .ro 1 (w.roots.map (AV.int .i64))]]⟩), (60003, ⟨false, 1, m.map clV⟩)]
theorem gn_loop {w : Wd} {cl : List Et} (hl : w.classes.length ≤ 1000) : ∀ (r m : List (List Et)), w.classes = m ++ r ->
  EL.L 52 4 [.ro 2 (cl.map enV), .ptr 60000 0 0, .ptr 60001 0 0, .ptr 60002 0 0, .int .i64 m.length] (gnH w m) = some ((.exit 0, [.ro 2 (cl.map enV), .ptr 60000 0 0, .ptr 60001 0 0, .ptr 60002 0 0, .int .i64 w.classes.length], gnH w w.classes), True) := by
 intro r
 induction r with
 | nil =>
  intro m h
  rw [List.append_nil] at h
  have q : ((w.classes.length : Int) < w.classes.length) = False := eq_false (by omega)
  rw [<- h, l52_4L]
  simp (maxSteps := 100000000) only [ivc, vop, vlen, vbuiltin, nilR, eq_self, Nat.reduceEqDiff, Nat.reduceLT, Nat.reduceLeDiff, Nat.reduceAdd, Nat.reduceBEq, reduceCtorEq, ↓reduceIte, anfL, tyb, gnH, zW, wdV, q]
 | cons x r ih =>
  intro m h
  have hn : m.length + (r.length + 1) = w.classes.length := by rw [h]; simp
  have hi' : (m.length : Int) < w.classes.length := by omega
  have hg := getD_map (f := clV) (show w.classes[m.length]? = some x by rw [h]; simp)
  have hw : IntKind.i64.wrap ((m.length : Int) + 1) = m.length + 1 := wrap_id (by omega) (by omega)
  have hc : (0 ≤ (m.length : Int) /\ (m.length : Int) < w.classes.length) = True := eq_true (by omega)
  have ih' := ih (m ++ [x]) (by simp [h])
  simp only [List.length_append, List.length_cons, List.length_nil, Nat.zero_add, Int.natCast_add, Int.cast_ofNat_Int, gnH, zW, wdV, clV, List.map_append, List.map_cons, List.map_nil] at ih'
  rw [l52_4L]
  simp (maxSteps := 100000000) only [ivc, vop, vlen, vbuiltin, nilR, salloc, sappend, eq_self, Nat.reduceEqDiff, Nat.reduceLT, Nat.reduceLeDiff, Nat.reduceAdd, Nat.reduceSub, Nat.reduceBEq, reduceCtorEq, ↓reduceIte, anfL, tyb, gnH, zW, wdV, clV, hi', hg, hw, ih']
  try exact some_true (by omega)
theorem grown_ev {w : Wd} {cl : List Et} (hl : w.classes.length ≤ 1000) : EL.F 52 [wdV w, .ro 2 (cl.map enV)] [] = some ((wdV (moreW w cl), []), True) := by
 have lp := gn_loop (cl := cl) hl w.classes [] rfl
 simp only [List.length_nil, Int.natCast_zero, gnH, zW, wdV, List.map_nil] at lp
 rw [e52L]
 simp (maxSteps := 100000000) only [ivc, vop, salloc, sappend, eq_self, Nat.reduceEqDiff, Nat.reduceLT, Nat.reduceLeDiff, Nat.reduceAdd, Nat.reduceBEq, reduceCtorEq, ↓reduceIte, anfL, tyb, wdV, moreW, clV, lp]
 try exact some_true (by omega)
def wrH (w : Wd) (m : List (List Et)) : HL := [(60000, ⟨true, 3, [wdV w]⟩), (60001, ⟨true, 3, [zW]⟩), (60002, ⟨true, 3, [.agg [.sl 60003 0 m.length, .nilsl, .ro 1 (w.roots.map (AV.int .i64))]]⟩), (60003, ⟨false, 1, m.map clV⟩)]
theorem wr4_loop {w : Wd} (hl : w.classes.length ≤ 1000) (hs : ∀ c ∈ w.classes, c.length ≤ 1000000) : ∀ (r m : List (List Et)), w.classes = m ++ r ->
  EL.L 16 4 [.ptr 60000 0 0, .ptr 60001 0 0, .ptr 60002 0 0, .int .i64 m.length] (wrH w m) = some ((.exit 0, [.ptr 60000 0 0, .ptr 60001 0 0, .ptr 60002 0 0, .int .i64 w.classes.length], wrH w w.classes), True) := by
 intro r
 induction r with
 | nil =>
  intro m h
  rw [List.append_nil] at h
  have q : ((w.classes.length : Int) < w.classes.length) = False := eq_false (by omega)
  rw [<- h, l16_4L]
  simp (maxSteps := 100000000) only [ivc, vop, vlen, vbuiltin, nilR, eq_self, Nat.reduceEqDiff, Nat.reduceLT, Nat.reduceLeDiff, Nat.reduceAdd, Nat.reduceBEq, reduceCtorEq, ↓reduceIte, anfL, tyb, wrH, zW, wdV, q]
 | cons x r ih =>
  intro m h
  have hn : m.length + (r.length + 1) = w.classes.length := by rw [h]; simp
  have hi' : (m.length : Int) < w.classes.length := by omega
  have hm : w.classes[m.length]? = some x := by rw [h]; simp
  have hg := getD_map (f := clV) hm
  have hw : IntKind.i64.wrap ((m.length : Int) + 1) = m.length + 1 := wrap_id (by omega) (by omega)
  have hc : (0 ≤ (m.length : Int) /\ (m.length : Int) < w.classes.length) = True := eq_true (by omega)
  have en := entries_ev (l := x) (hs x (List.mem_of_getElem? hm))
  have ih' := ih (m ++ [x]) (by simp [h])
  simp only [List.length_append, List.length_cons, List.length_nil, Nat.zero_add, Int.natCast_add, Int.cast_ofNat_Int, wrH, zW, wdV, clV, List.map_append, List.map_cons, List.map_nil] at ih'
  rw [l16_4L]
  simp (maxSteps := 100000000) only [ivc, vop, vlen, vbuiltin, nilR, salloc, sappend, eq_self, Nat.reduceEqDiff, Nat.reduceLT, Nat.reduceLeDiff, Nat.reduceAdd, Nat.reduceMul, Nat.reduceSub, Nat.reduceBEq, reduceCtorEq, ↓reduceIte, anfL, tyb, wrH, zW, wdV, clV, hi', hg, hw, en, ih']
  try exact some_true (by omega)
def wqH (w : Wd) (m : List Bd) : HL := [(60000, ⟨true, 3, [wdV w]⟩), (60001, ⟨true, 3, [zW]⟩), (60002, ⟨true, 3, [.agg [.sl 60003 0 w.classes.length, .sl 60004 0 m.length, .ro 1 (w.roots.map (AV.int .i64))]]⟩), (60003, ⟨false, 1, w.classes.map clV⟩), (60004, ⟨false, 3, m.map bdV⟩)]
theorem wr8_loop {w : Wd} (hl : w.bodies.length ≤ 1000) : ∀ (r m : List Bd), w.bodies = m ++ r ->
  EL.L 16 8 [.ptr 60000 0 0, .ptr 60001 0 0, .ptr 60002 0 0, .int .i64 m.length] (wqH w m) = some ((.exit 2, [.ptr 60000 0 0, .ptr 60001 0 0, .ptr 60002 0 0, .int .i64 w.bodies.length], wqH w w.bodies), True) := by
 intro r
 induction r with
 | nil =>
  intro m h
  rw [List.append_nil] at h
  have q : ((w.bodies.length : Int) < w.bodies.length) = False := eq_false (by omega)
  rw [<- h, l16_8L]
  simp (maxSteps := 100000000) only [ivc, vop, vlen, vbuiltin, nilR, eq_self, Nat.reduceEqDiff, Nat.reduceLT, Nat.reduceLeDiff, Nat.reduceAdd, Nat.reduceBEq, reduceCtorEq, ↓reduceIte, anfL, tyb, wqH, zW, wdV, q]
 | cons x r ih =>
  intro m h
  have hn : m.length + (r.length + 1) = w.bodies.length := by rw [h]; simp
  have hi' : (m.length : Int) < w.bodies.length := by omega
  have hm : w.bodies[m.length]? = some x := by rw [h]; simp
  have hg := getD_map (f := bdV) hm
  have hw : IntKind.i64.wrap ((m.length : Int) + 1) = m.length + 1 := wrap_id (by omega) (by omega)
  have hc : (0 ≤ (m.length : Int) /\ (m.length : Int) < w.bodies.length) = True := eq_true (by omega)
  have ih' := ih (m ++ [x]) (by simp [h])
  simp only [List.length_append, List.length_cons, List.length_nil, Nat.zero_add, Int.natCast_add, Int.cast_ofNat_Int, wqH, zW, wdV, bdV, List.map_append, List.map_cons, List.map_nil] at ih'
  rw [l16_8L]
  simp (maxSteps := 100000000) only [ivc, vop, vlen, vbuiltin, nilR, salloc, sappend, eq_self, Nat.reduceEqDiff, Nat.reduceLT, Nat.reduceLeDiff, Nat.reduceAdd, Nat.reduceMul, Nat.reduceBEq, reduceCtorEq, ↓reduceIte, anfL, tyb, wqH, zW, wdV, bdV, hi', hg, hw, ih']
  try exact some_true (by omega)
theorem world_ev {w : Wd} (hl : w.classes.length ≤ 1000) (hb : w.bodies.length ≤ 1000) (hs : ∀ c ∈ w.classes, c.length ≤ 1000000) : EL.F 16 [wdV w] [] = some ((wdV w, []), True) := by
 have lp1 := wr4_loop hl hs w.classes [] rfl
 have lp2 := wr8_loop hb w.bodies [] rfl
 simp only [List.length_nil, Int.natCast_zero, wrH, wqH, zW, wdV, List.map_nil] at lp1 lp2
 rw [e16L]
 simp (maxSteps := 100000000) only [ivc, vop, salloc, eq_self, Nat.reduceEqDiff, Nat.reduceLT, Nat.reduceLeDiff, Nat.reduceAdd, Nat.reduceBEq, reduceCtorEq, ↓reduceIte, anfL, tyb, wdV, lp1, lp2]
 try exact some_true (by omega)
end Go.Proofs.YtikppcfabnnhfaaDoor

