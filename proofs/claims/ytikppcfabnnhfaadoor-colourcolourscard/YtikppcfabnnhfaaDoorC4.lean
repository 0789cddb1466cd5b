/- A part of the proof of ColourColoursCardSaid. -/
import Derived.Test.YtikppcfabnnhfaaDoorC3
/- Pack. -/
namespace Go.Proofs.YtikppcfabnnhfaaDoor
open Go Go.Aw
set_option linter.unusedSimpArgs false
set_option linter.unusedVariables false
set_option maxRecDepth 100000
set_option maxHeartbeats 40000000
theorem rep2P_loop {x : Et} {n : Nat} (hn : n ≤ 1000000) : ∀ (s k d : Nat), k ≤ s -> d + k = n -> (k = 0 \/ 1 ≤ d) ->
  EP.L 59 9 [.sl 60000 0 n, .int .i64 d] (rp2H x d k) = some ((.exit 0, [.sl 60000 0 n, .int .i64 n], rp2H x n 0), True) := by
 intro s
 induction s with
 | zero =>
  intro k d hk h hd
  have hk0 : k = 0 := by omega
  subst hk0
  have hd0 : d = n := by omega
  subst hd0
  have q : ((d : Int) < d) = False := eq_false (by omega)
  rw [l59_9P]
  simp (maxSteps := 100000000) only [ivc, vlen, vbuiltin, nilR, eq_self, Nat.reduceEqDiff, Nat.reduceLT, Nat.reduceLeDiff, Nat.reduceAdd, Nat.reduceBEq, reduceCtorEq, ↓reduceIte, anfP, tyb, rp2H, q]
 | succ s ih =>
  intro k d hk h hd
  by_cases hk0 : k = 0
  ·exact ih k d (by omega) h hd
  have hlen := rpL_len (x := x) (z := (⟨0, 0⟩ : Et)) (d := d) (k := k)
  have q : ((d : Int) < n) = True := eq_true (by omega)
  have q2 : (0 ≤ (d : Int)) = True := eq_true (by omega)
  have q3 : ((d : Int) ≤ n) = True := eq_true (by omega)
  have nd : n - d = k := by omega
  have hw : IntKind.i64.wrap ((d : Int) + (min d k : Nat)) = d + (min d k : Nat) := wrap_id (by omega) (by omega)
  have ih' := ih (k - min d k) (d + min d k) (by omega) (by omega) (by omega)
  simp only [rp2H, Int.natCast_add] at ih'
  have hd' : 1 ≤ d := by omega
  rw [l59_9P]
  simp (maxSteps := 100000000) only [ivc, vop, vslice, vlen, vbuiltin, nilR, eq_self, Nat.reduceEqDiff, Nat.reduceLT, Nat.reduceLeDiff, Nat.reduceAdd, Nat.reduceBEq, Int.reduceLE, Int.reduceToNat, reduceCtorEq, implies_true, ↓reduceIte, anfP, tyb, rp2H, q, q2, q3, nd, hw, cp_en, rp_take, rp_take2, rp_drop, rp_join, List.length_replicate, ih']
  exact some_true (by omega)
theorem rep2P_ev {x : Et} {n : Nat} (hn : n ≤ 1000000) : EP.F 59 [.sl 100000 0 1, .int .i64 n] [(100000, ⟨false, 2, [.agg [.int .i64 x.s, .int .i64 x.m]]⟩)] = some ((.ro 2 ((List.replicate n x).map enV), [(100000, ⟨false, 2, [.agg [.int .i64 x.s, .int .i64 x.m]]⟩)]), True) := by
 have a := mul79_ev (y := n) (by omega) (by omega)
 have q : ((n : Int) < 0) = False := eq_false (by omega)
 have q2 : ((9223372036854775807 : Int) < n) = False := eq_false (by omega)
 have w1 := u64id (y := n) (by omega) (by omega)
 have w2 : IntKind.i64.wrap n = n := wrap_id (by omega) (by omega)
 have h := rep2P_loop (x := x) hn n (n - min 1 n) (min 1 n) (by omega) (by omega) (by omega)
 simp only [rp2H, rp_done] at h
 have f1 : List.take n [AV.agg [.int .i64 x.s, .int .i64 x.m]] ++ List.drop (min 1 n) (List.replicate n (AV.agg [.int .i64 0, .int .i64 0])) = _ := rp_first (f := enV) (x := x) (z := (⟨0, 0⟩ : Et)) (n := n)
 have w3 := u64id (y := 1) (by omega) (by omega)
 have tk : List.take n (List.map enV (List.replicate n x)) = List.map enV (List.replicate n x) := List.take_of_length_le (by simp)
 rw [e59P]
 simp (maxSteps := 100000000) only [ivc, vop, vlen, vbuiltin, nilR, salloc, eq_self, Nat.reduceEqDiff, Nat.reduceLT, Nat.reduceLeDiff, Nat.reduceAdd, Nat.reduceMul, Nat.reduceBEq, Int.reduceLT, reduceCtorEq, ↓reduceIte, anfP, gv79P, tyb, q, q2, a, w1, w2, w3, f1, h, tk]
 refine some_true ?_
 exact ⟨by omega, fun e he => by rw [List.eq_of_mem_replicate he]; rfl⟩
theorem getSl {l : List Et} {i : Nat} (h : i < l.length) : (l.map enV).getD i .junk = .agg [.int .i64 (l.getD i ⟨0, 0⟩).s, .int .i64 (l.getD i ⟨0, 0⟩).m] := by
 simp [List.getD_eq_getElem?_getD, List.getElem?_eq_getElem h, enV]
def okA (offs : List Int) (vec t : List Et) (a : Int) : Bool := !(offs.contains a) && fitL vec t a
def fAt (ok : Int -> Bool) : Nat -> Int -> Int
 | 0, a => a
 | k + 1, a => if ok a = true then a else fAt ok k (a + 1)
theorem fitL_far {vec : List Et} : ∀ {r : List Et} {p : Int}, (vec.length : Int) ≤ p -> fitL vec r p = true
 | [], _, _ => rfl
 | s :: r, p, h => by
  rw [fitL, if_neg (by omega)]
  exact fitL_far (r := r) (by omega)
def pkT (w : Wd) (offs : List Int) (vec t : List Et) : HL := [(60000, ⟨true, 3, [wdV w]⟩), (60001, ⟨true, 1, [.sl 60004 0 vec.length]⟩), (60002, iR offs), (60003, ⟨false, 2, t.map enV⟩), (60004, ⟨false, 2, vec.map enV⟩)]
def pkF : AV := .fn (Fn.func 57) [] [.ptr 60001 0 0]
theorem at_loop {w : Wd} {cs offs : List Int} {vec t : List Et} {nc ci : Int} {B : Int} (ho : ∀ o ∈ offs, o < B) (hv : vec.length ≤ B) (hB : B ≤ 900000) (hol : offs.length ≤ 1000) (htl : t.length ≤ 1000) : ∀ (k : Nat) (a : Int), 0 ≤ a -> a + k = B ->
  EP.L 24 13 [.ro 1 (cs.map (AV.int .i64)), .ptr 60000 0 0, .ptr 60001 0 0, .sl 60002 0 offs.length, pkF, .sl 60003 0 t.length, .int .i64 a, .int .i64 nc, .int .i64 ci] (pkT w offs vec t)
  = some ((.exit 2, [.ro 1 (cs.map (AV.int .i64)), .ptr 60000 0 0, .ptr 60001 0 0, .sl 60002 0 offs.length, pkF, .sl 60003 0 t.length, .int .i64 (fAt (okA offs vec t) k a), .int .i64 nc, .int .i64 ci], pkT w offs vec t), True) := by
 intro k
 induction k with
 | zero =>
  intro a h0 h
  have c1 := contains_ev (l := offs) (x := a) (by omega)
  have c2 := fits_ev (vec := vec) (t := t) (at0 := a) h0 (by omega) (by omega) (by omega)
  have d1 : offs.contains a = false := by
   cases hc : offs.contains a with
   | false => rfl
   | true =>
    have := ho a (by simpa using hc)
    omega
  rw [d1] at c1
  rw [fitL_far (by omega)] at c2
  rw [l24_13P]
  simp (maxSteps := 100000000) only [ivc, vop, eq_self, Nat.reduceEqDiff, Nat.reduceLT, Nat.reduceLeDiff, Nat.reduceAdd, Nat.reduceBEq, reduceCtorEq, ↓reduceIte, anfP, gv58P, gv57P, pkT, pkF, iR, wdV, c1, c2, fAt]
 | succ k ih =>
  intro a h0 h
  have c1 := contains_ev (l := offs) (x := a) (by omega)
  have c2 := fits_ev (vec := vec) (t := t) (at0 := a) h0 (by omega) (by omega) (by omega)
  have hw : IntKind.i64.wrap (a + 1) = a + 1 := wrap_id (by omega) (by omega)
  have ih' := ih (a + 1) (by omega) (by omega)
  simp only [pkT, pkF, iR, wdV] at ih'
  rw [l24_13P]
  cases d1 : offs.contains a with
  | true =>
   have e : fAt (okA offs vec t) (k + 1) a = fAt (okA offs vec t) k (a + 1) := by
    rw [fAt, if_neg]
    unfold okA
    rw [d1]
    simp
   rw [e]
   rw [d1] at c1
   simp (maxSteps := 100000000) only [ivc, vop, nilR, eq_self, Nat.reduceEqDiff, Nat.reduceLT, Nat.reduceLeDiff, Nat.reduceAdd, Nat.reduceBEq, reduceCtorEq, ↓reduceIte, anfP, gv58P, tyb, pkT, pkF, iR, wdV, c1, hw, ih']
  | false =>
   rw [d1] at c1
   cases d2 : fitL vec t a with
   | true =>
    have e : fAt (okA offs vec t) (k + 1) a = a := by
     rw [fAt, if_pos]
     unfold okA
     rw [d1, d2]
     rfl
    rw [e]
    rw [d2] at c2
    simp (maxSteps := 100000000) only [ivc, vop, eq_self, Nat.reduceEqDiff, Nat.reduceLT, Nat.reduceLeDiff, Nat.reduceAdd, Nat.reduceBEq, reduceCtorEq, ↓reduceIte, anfP, gv58P, gv57P, pkT, pkF, iR, wdV, c1, c2]
   | false =>
    have e : fAt (okA offs vec t) (k + 1) a = fAt (okA offs vec t) k (a + 1) := by
     rw [fAt, if_neg]
     unfold okA
     rw [d2]
     simp
    rw [e]
    rw [d2] at c2
    simp (maxSteps := 100000000) only [ivc, vop, nilR, eq_self, Nat.reduceEqDiff, Nat.reduceLT, Nat.reduceLeDiff, Nat.reduceAdd, Nat.reduceBEq, reduceCtorEq, ↓reduceIte, anfP, gv58P, gv57P, tyb, pkT, pkF, iR, wdV, c1, c2, hw, ih']
def putL : List Et -> Int -> List Et -> List Et
 | [], _, v => v
 | s :: r, p, v => putL r (p + 1) (if 0 ≤ s.s then v.set p.toNat s else v)
theorem putL_len : ∀ {r : List Et} {p : Int} {v : List Et}, (putL r p v).length = v.length
 | [], _, _ => rfl
 | s :: r, p, v => by
  rw [putL, putL_len]
  split
  ·exact List.length_set
  ·rfl
theorem put_loop {w : Wd} {cs offs : List Int} {t : List Et} {nc ci a : Int} (h0 : 0 ≤ a) (hB : a ≤ 900000) (htl : t.length ≤ 1000) : ∀ (r m vec : List Et), t = m ++ r -> (r = [] \/ a + t.length ≤ vec.length) ->
  EP.L 24 20 [.ro 1 (cs.map (AV.int .i64)), .ptr 60000 0 0, .ptr 60001 0 0, .sl 60002 0 offs.length, pkF, .int .i64 a, .int .i64 nc, .int .i64 ci, .sl 60003 0 t.length, .int .i64 t.length, .int .i64 m.length] (pkT w offs vec t)
  = some ((.exit 4, [.ro 1 (cs.map (AV.int .i64)), .ptr 60000 0 0, .ptr 60001 0 0, .sl 60002 0 offs.length, pkF, .int .i64 a, .int .i64 nc, .int .i64 ci, .sl 60003 0 t.length, .int .i64 t.length, .int .i64 t.length], pkT w offs (putL r (a + m.length) vec) t), True) := by
 intro r
 induction r with
 | nil =>
  intro m vec h hv
  rw [List.append_nil] at h
  subst h
  rw [l24_20P]
  simp (maxSteps := 100000000) only [ivc, nilR, eq_self, Nat.reduceEqDiff, Nat.reduceLT, Nat.reduceLeDiff, Nat.reduceAdd, Nat.reduceBEq, reduceCtorEq, ↓reduceIte, anfP, tyb, pkT, pkF, iR, wdV, Int.lt_irrefl, putL]
 | cons s r ih =>
  intro m vec h hv
  have hv' : a + t.length ≤ vec.length := hv.elim (fun h => by cases h) id
  have hn : m.length + (r.length + 1) = t.length := by rw [h]; simp
  have hi' : (m.length : Int) < t.length := by omega
  have hg := getD_map (f := enV) (show t[m.length]? = some s by rw [h]; simp)
  have hw : IntKind.i64.wrap ((m.length : Int) + 1) = m.length + 1 := wrap_id (by omega) (by omega)
  have hw2 : IntKind.i64.wrap (a + m.length) = a + m.length := wrap_id (by omega) (by omega)
  have hc : (0 ≤ (m.length : Int)) = True := eq_true (by omega)
  have hc2 : (0 ≤ a + (m.length : Int) /\ a + (m.length : Int) < vec.length) = True := eq_true (by omega)
  have g2 := getSl (l := vec) (i := (a + (m.length : Int)).toNat) (by omega)
  have g3 : (vec.map enV).set (a + (m.length : Int)).toNat (.agg [.int .i64 s.s, .int .i64 s.m]) = (vec.set (a + (m.length : Int)).toNat s).map enV := set_map (f := enV)
  by_cases h1 : 0 ≤ s.s
  ·have ih' := ih (m ++ [s]) (vec.set (a + m.length).toNat s) (by simp [h]) (.inr (by rw [List.length_set]; exact hv'))
   simp only [List.length_append, List.length_cons, List.length_nil, Nat.zero_add, Int.natCast_add, Int.cast_ofNat_Int, pkT, pkF, iR, wdV, List.length_set, putL_len, <- Int.add_assoc] at ih'
   rw [l24_20P]
   simp (maxSteps := 100000000) only [ivc, vop, nilR, salloc, eq_self, Nat.reduceEqDiff, Nat.reduceLT, Nat.reduceLeDiff, Nat.reduceAdd, Nat.reduceBEq, reduceCtorEq, ↓reduceIte, anfP, tyb, pkT, pkF, iR, wdV, enV, hi', hg, hw, hw2, hc, hc2, g2, g3, h1, ih', putL, putL_len, List.length_set]
  ·have ih' := ih (m ++ [s]) vec (by simp [h]) (.inr hv')
   simp only [List.length_append, List.length_cons, List.length_nil, Nat.zero_add, Int.natCast_add, Int.cast_ofNat_Int, pkT, pkF, iR, wdV, putL_len, <- Int.add_assoc] at ih'
   rw [l24_20P]
   simp (maxSteps := 100000000) only [ivc, vop, nilR, salloc, eq_self, Nat.reduceEqDiff, Nat.reduceLT, Nat.reduceLeDiff, Nat.reduceAdd, Nat.reduceBEq, reduceCtorEq, ↓reduceIte, anfP, tyb, pkT, pkF, iR, wdV, enV, hi', hg, hw, hc, h1, ih', putL, putL_len]
def topM (offs : List Int) (vec : List Et) : Int := offs.foldl (fun n o => max n (o + 1)) vec.length
theorem top_fold : ∀ {offs : List Int} {n : Int}, n ≤ offs.foldl (fun n o => max n (o + 1)) n /\ ∀ o ∈ offs, o < offs.foldl (fun n o => max n (o + 1)) n
 | [], n => ⟨Int.le_refl _, fun _ h => by cases h⟩
 | x :: offs, n => by
  obtain ⟨h1, h2⟩ := top_fold (offs := offs) (n := max n (x + 1))
  rw [List.foldl_cons]
  refine ⟨by omega, fun o ho => ?_⟩
  rcases List.mem_cons.1 ho with rfl | ho
  ·omega
  ·exact h2 o ho
theorem top_le {N : Int} : ∀ {offs : List Int} {n : Int}, n ≤ N -> (∀ o ∈ offs, o < N) -> offs.foldl (fun n o => max n (o + 1)) n ≤ N
 | [], _, h, _ => h
 | x :: offs, n, h, ho => by
  rw [List.foldl_cons]
  exact top_le (offs := offs) (by have := ho x (by simp); omega) (fun o h => ho o (by simp [h]))
theorem fAt_rng {ok : Int -> Bool} : ∀ {k : Nat} {a : Int}, a ≤ fAt ok k a /\ fAt ok k a ≤ a + k
 | 0, a => by simp [fAt]
 | k + 1, a => by
  obtain ⟨h1, h2⟩ := fAt_rng (ok := ok) (k := k) (a := a + 1)
  rw [fAt]
  split <;> omega
def growM (vec t : List Et) (a : Int) : List Et := if 0 < t.length /\ (vec.length : Int) < a + t.length then vec ++ reN (a + t.length - vec.length).toNat else vec
def placeA (offs : List Int) (vec t : List Et) : Int := fAt (okA offs vec t) (topM offs vec).toNat 0
def packM (cs : List Int) : List (List Et) -> List Et × List Int -> List Et × List Int
 | [], p => p
 | c :: r, p => packM cs r (putL (tblM cs c) (placeA p.2 p.1 (tblM cs c)) (growM p.1 (tblM cs c) (placeA p.2 p.1 (tblM cs c))), p.2 ++ [placeA p.2 p.1 (tblM cs c)])
theorem growM_len {vec t : List Et} {a : Int} (h0 : 0 ≤ a) : (vec.length ≤ (growM vec t a).length) /\ (t = [] \/ a + t.length ≤ ((growM vec t a).length : Int)) /\ ((growM vec t a).length : Int) ≤ max (vec.length : Int) (a + t.length) := by
 unfold growM
 split
 ·simp only [List.length_append, reN, List.length_replicate]
  omega
 ·rename_i h
  refine ⟨Nat.le_refl _, ?_, by omega⟩
  by_cases ht : t.length = 0
  ·exact .inl (List.eq_nil_of_length_eq_zero ht)
  ·exact .inr (by omega)
theorem tbl_len {cs : List Int} {c : List Et} (h : ∀ e ∈ c, hasC cs e) : (tblM cs c).length ≤ 500 := by
 obtain ⟨_, a2, _⟩ := tsM_rng (n := 0) h (by omega) (by omega)
 rw [tblM, tuM_len, reN, List.length_replicate]
 omega
def pkH (w : Wd) (offs : List Int) (vec : List Et) : HL := [(60000, ⟨true, 3, [wdV w]⟩), (60001, ⟨true, 1, [.sl 60003 0 vec.length]⟩), (60002, iR offs), (60003, ⟨false, 2, vec.map enV⟩)]
theorem pack_loop {w : Wd} {cs : List Int} (hcl : w.classes.length ≤ 200) (hc : ∀ c ∈ w.classes, c.length ≤ 100 /\ ∀ e ∈ c, hasC cs e) : ∀ (r m : List (List Et)) (vec : List Et) (offs : List Int), w.classes = m ++ r -> offs.length = m.length -> (∀ o ∈ offs, 0 ≤ o) -> topM offs vec ≤ 501 * m.length ->
  EP.L 24 9 [.ro 1 (cs.map (AV.int .i64)), .ptr 60000 0 0, .ptr 60001 0 0, .sl 60002 0 offs.length, pkF, .int .i64 w.classes.length, .int .i64 m.length] (pkH w offs vec)
  = some ((.exit 0, [.ro 1 (cs.map (AV.int .i64)), .ptr 60000 0 0, .ptr 60001 0 0, .sl 60002 0 (packM cs r (vec, offs)).2.length, pkF, .int .i64 w.classes.length, .int .i64 w.classes.length], pkH w (packM cs r (vec, offs)).2 (packM cs r (vec, offs)).1), True) := by
 intro r
 induction r with
 | nil =>
  intro m vec offs h hol ho0 hT
  rw [List.append_nil] at h
  have q : ((w.classes.length : Int) < w.classes.length) = False := eq_false (by omega)
  rw [<- h, l24_9P]
  simp (maxSteps := 100000000) only [ivc, nilR, eq_self, Nat.reduceEqDiff, Nat.reduceLT, Nat.reduceLeDiff, Nat.reduceAdd, Nat.reduceBEq, Int.reduceNeg, reduceCtorEq, ↓reduceIte, anfP, tyb, pkH, pkF, iR, wdV, q, packM]
 | cons c r ih =>
  intro m vec offs h hol ho0 hT
  have hn : m.length + (r.length + 1) = w.classes.length := by rw [h]; simp
  have hi' : (m.length : Int) < w.classes.length := by omega
  have hm : w.classes[m.length]? = some c := by rw [h]; simp
  obtain ⟨c1, c2⟩ := hc c (List.mem_of_getElem? hm)
  have tb := table_ev (w := w) hm (by omega) c2 (by omega)
  have tl := tbl_len c2
  have hw : IntKind.i64.wrap ((m.length : Int) + 1) = m.length + 1 := wrap_id (by omega) (by omega)
  obtain ⟨t1, t2⟩ := top_fold (offs := offs) (n := (vec.length : Int))
  change (vec.length : Int) ≤ topM offs vec at t1
  change ∀ o ∈ offs, o < topM offs vec at t2
  have hpk : packM cs (c :: r) (vec, offs) = packM cs r (putL (tblM cs c) (placeA offs vec (tblM cs c)) (growM vec (tblM cs c) (placeA offs vec (tblM cs c))), offs ++ [placeA offs vec (tblM cs c)]) := rfl
  rw [hpk]
  generalize tblM cs c = t at tb tl ⊢
  have al := at_loop (w := w) (cs := cs) (nc := w.classes.length) (ci := m.length) t2 t1 (by omega) (by omega) (t := t) (by omega) (topM offs vec).toNat 0 (by omega) (by omega)
  have ar := fAt_rng (ok := okA offs vec t) (k := (topM offs vec).toNat) (a := 0)
  change EP.L 24 13 _ _ = some ((.exit 2, [_, _, _, _, _, _, .int .i64 (placeA offs vec t), _, _], _), True) at al
  change 0 ≤ placeA offs vec t /\ placeA offs vec t ≤ 0 + (topM offs vec).toNat at ar
  generalize placeA offs vec t = a at al ar ⊢
  obtain ⟨g1, g2, g3⟩ := growM_len (vec := vec) (t := t) ar.1
  have pl := put_loop (w := w) (cs := cs) (offs := offs ++ [a]) (nc := w.classes.length) (ci := m.length) (a := a) (t := t) ar.1 (by omega) (by omega) t [] (growM vec t a) rfl g2
  have ih' := ih (m ++ [c]) (putL t a (growM vec t a)) (offs ++ [a]) (by simp [h]) (by simp [hol]) (fun o ho => by
   rcases List.mem_append.1 ho with ho | ho
   ·exact ho0 o ho
   ·rw [List.mem_singleton] at ho
    omega) (by
   refine top_le (by rw [putL_len]; simp; omega) (fun o ho => ?_)
   rcases List.mem_append.1 ho with ho | ho
   ·have := t2 o ho
    simp; omega
   ·rw [List.mem_singleton] at ho
    simp; omega)
  simp only [List.length_append, List.length_cons, List.length_nil, Nat.zero_add, Int.natCast_add, Int.cast_ofNat_Int, pkH, pkF, iR, wdV, putL_len, List.map_append, List.map_cons, List.map_nil] at ih'
  simp only [List.length_append, List.length_cons, List.length_nil, Nat.zero_add, Int.add_zero, Int.cast_ofNat_Int, pkT, pkF, iR, wdV, putL_len, List.map_append, List.map_cons, List.map_nil] at pl al
  simp only [wdV] at tb
  have hw2 : IntKind.i64.wrap (a + t.length) = a + t.length := wrap_id (by omega) (by omega)
  rw [l24_9P]
  by_cases z1 : 0 < t.length
  ·have z1' : (0 < (t.length : Int)) = True := eq_true (by omega)
   by_cases z2 : (vec.length : Int) < a + t.length
   ·have hg : growM vec t a = vec ++ reN (a + t.length - vec.length).toNat := by unfold growM; rw [if_pos ⟨z1, z2⟩]
    have hw3 : IntKind.i64.wrap (a + t.length - vec.length) = a + t.length - vec.length := wrap_id (by omega) (by omega)
    have rp := rep2P_ev (x := noE) (n := (a + t.length - vec.length).toNat) (by omega)
    rw [show (((a + t.length - vec.length).toNat : Nat) : Int) = a + t.length - vec.length by omega] at rp
    change EP.F 59 [.sl 100000 0 1, _] [(100000, ⟨false, 2, [.agg [.int .i64 (-1), .int .i64 (-1)]]⟩)] = some ((.ro 2 ((reN (a + t.length - vec.length).toNat).map enV), [(100000, ⟨false, 2, [.agg [.int .i64 (-1), .int .i64 (-1)]]⟩)]), True) at rp
    have hrl : (reN (a + t.length - vec.length).toNat).length = (a + t.length - vec.length).toNat := by rw [reN, List.length_replicate]
    rw [hg] at pl ih' ⊢
    generalize reN (a + t.length - vec.length).toNat = R at rp pl ih' hrl ⊢
    simp only [List.length_append, List.map_append] at pl ih'
    simp (maxSteps := 100000000) only [ivc, vop, vlen, vbuiltin, nilR, salloc, sappend, eq_self, Nat.reduceEqDiff, Nat.reduceLT, Nat.reduceLeDiff, Nat.reduceAdd, Nat.reduceMul, Nat.reduceSub, Nat.reduceBEq, Int.reduceNeg, reduceCtorEq, ↓reduceIte, anfP, gv55P, tyb, pkH, pkF, iR, wdV, hi', hw, hw2, hw3, tb, al, z1', z2, rp, pl, ih']
    exact some_true (by omega)
   ·have hg : growM vec t a = vec := by unfold growM; rw [if_neg (fun h => z2 h.2)]
    rw [hg] at pl ih' ⊢
    simp (maxSteps := 100000000) only [ivc, vlen, vbuiltin, nilR, salloc, sappend, eq_self, Nat.reduceEqDiff, Nat.reduceLT, Nat.reduceLeDiff, Nat.reduceAdd, Nat.reduceMul, Nat.reduceBEq, Int.reduceNeg, reduceCtorEq, ↓reduceIte, anfP, gv55P, tyb, pkH, pkF, iR, wdV, hi', hw, hw2, tb, al, z1', z2, pl, ih']
    exact some_true (by omega)
  ·have z1' : (0 < (t.length : Int)) = False := eq_false (by omega)
   have hg : growM vec t a = vec := by unfold growM; rw [if_neg (fun h => z1 h.1)]
   rw [hg] at pl ih' ⊢
   simp (maxSteps := 100000000) only [ivc, vlen, vbuiltin, nilR, salloc, sappend, eq_self, Nat.reduceEqDiff, Nat.reduceLT, Nat.reduceLeDiff, Nat.reduceAdd, Nat.reduceMul, Nat.reduceBEq, Int.reduceNeg, reduceCtorEq, ↓reduceIte, anfP, gv55P, tyb, pkH, pkF, iR, wdV, hi', hw, hw2, tb, al, z1', pl, ih']
   exact some_true (by omega)
theorem pack_ev {w : Wd} {cs : List Int} (ok : ckM w = 0 -> okW w) (hcc : ckM w = 0 -> ccW (graphW w) cs = 0 -> ∀ c ∈ w.classes, ∀ e ∈ c, hasC cs e) :
  EP.F 24 [wdV w, .ro 1 (cs.map (AV.int .i64))] [] = some ((if ckM w = 0 then if ccW (graphW w) cs = 0 then .tup [.ro 2 ((packM cs w.classes ([], [])).1.map enV), .ro 1 ((packM cs w.classes ([], [])).2.map (AV.int .i64)), .int .i64 0] else .tup [.ro 2 [], .ro 1 [], .int .i64 (ccW (graphW w) cs)] else .tup [.ro 2 [], .ro 1 [], .int .i64 (ckM w)], []), True) := by
 have h1 := cc_ev (cs := cs) ok
 simp only [wdV] at h1
 by_cases h : ckM w = 0
 ·rw [if_pos h] at h1 ⊢
  by_cases h2 : ccW (graphW w) cs = 0
  ·rw [if_pos h2]
   rw [h2] at h1
   obtain ⟨o1, o2⟩ := ok h
   have lp := pack_loop (cs := cs) o1 (fun c hc => ⟨(o2 c hc).1, hcc h h2 c hc⟩) w.classes [] [] [] rfl rfl (fun o ho => by cases ho) (by simp [topM])
   generalize packM cs w.classes ([], []) = p at lp ⊢
   simp only [pkH, pkF, iR, wdV, List.length_nil, List.map_nil, Int.natCast_zero] at lp
   rw [e24P]
   simp (maxSteps := 100000000) only [ivc, vop, vlen, vbuiltin, nilR, salloc, eq_self, Nat.reduceEqDiff, Nat.reduceLT, Nat.reduceLeDiff, Nat.reduceAdd, Nat.reduceBEq, Int.reduceNeg, reduceCtorEq, ↓reduceIte, anfP, gv26P, tyb, wdV, h1, lp]
  ·rw [if_neg h2]
   have h' : (ccW (graphW w) cs != 0) = true := by simp [h2]
   generalize ccW (graphW w) cs = v at h1 h' ⊢
   rw [e24P]
   simp (maxSteps := 100000000) only [ivc, nilR, salloc, eq_self, Nat.reduceEqDiff, Nat.reduceLT, Nat.reduceLeDiff, Nat.reduceAdd, Nat.reduceBEq, Int.reduceNeg, ↓reduceIte, anfP, gv26P, tyb, wdV, h1, h']
 ·rw [if_neg h] at h1 ⊢
  have h' : (ckM w != 0) = true := by simp [h]
  rw [e24P]
  simp (maxSteps := 100000000) only [ivc, nilR, salloc, eq_self, Nat.reduceEqDiff, Nat.reduceLT, Nat.reduceLeDiff, Nat.reduceAdd, Nat.reduceBEq, Int.reduceNeg, ↓reduceIte, anfP, gv26P, tyb, wdV, h1, h']
def gwM (g : List Int) : List Et -> List Et -> List Int -> List Int -> Option (List Int × List Int)
 | [], _, out, chg => some (out, chg)
 | x :: r, p, out, chg =>
  if 0 ≤ colAt out x.s /\ (p.any fun e => colAt out e.s == colAt out x.s) = false then gwM g r (p ++ [x]) out chg
  else if 500 ≤ leastL (takW g x.s out) 0 then none
  else gwM g r (p ++ [x]) (out.set x.s.toNat (leastL (takW g x.s out) 0)) (if 0 ≤ colAt out x.s then chg ++ [x.s] else chg)
def gwV (cl : List Et) (n : Nat) (i : Int) (k : Nat) : List AV := [.ro 2 (cl.map enV), .sl 60000 0 0, .sl 60001 0 k, .int .i64 0, .ptr 60002 0 0, .ptr 60003 0 0, .ro 2 (cl.map enV), .int .i64 cl.length, .int .i64 i]
def gwH (g out chg : List Int) : HL := [(60000, iR []), (60001, iR chg), (60002, gO g), (60003, ⟨true, 1, [.sl 60004 0 out.length]⟩), (60004, iR out)]
theorem gw_loop {g : List Int} {cl : List Et} (hg : g.length = 4008) (hcl : cl.length ≤ 100) : ∀ (r m : List Et) (out chg : List Int), cl = m ++ r -> out.length ≤ 500 -> (∀ c ∈ out, c < 500) -> (∀ e ∈ cl, 0 ≤ e.s /\ e.s < out.length) -> chg.length ≤ m.length ->
  ∀ o' c', gwM g r m out chg = some (o', c') -> E.L 17 13 (gwV cl out.length m.length chg.length) (gwH g out chg) = some ((.exit 0, gwV cl out.length cl.length c'.length, gwH g o' c'), True) := by
 intro r
 induction r with
 | nil =>
  intro m out chg h ho hc hs hl o' c' hr
  cases hr
  rw [List.append_nil] at h
  have q : ((cl.length : Int) < cl.length) = False := eq_false (by omega)
  rw [<- h, l17_13]
  simp (maxSteps := 100000000) only [ivc, anf, nilR, eq_self, Nat.reduceEqDiff, Nat.reduceLT, Nat.reduceLeDiff, Nat.reduceAdd, Nat.reduceBEq, reduceCtorEq, ↓reduceIte, tyb, gwV, gwH, gO, iR, ldb, q]
 | cons x r ih =>
  intro m out chg h ho hc hs hl o' c' hr
  have hn : m.length + (r.length + 1) = cl.length := by rw [h]; simp
  have hi' : (m.length : Int) < cl.length := by omega
  have hg0 := getD_map (f := enV) (show cl[m.length]? = some x by rw [h]; simp)
  have hw : IntKind.i64.wrap ((m.length : Int) + 1) = m.length + 1 := wrap_id (by omega) (by omega)
  have hc0 : (0 ≤ (m.length : Int)) = True := eq_true (by omega)
  have hx := hs x (by rw [h]; simp)
  have q := eq_true hx
  have k1 := getI (l := out) (i := x.s.toNat) (by omega)
  have htk : cl.take m.length = m := by rw [h]; simp
  have htm : (cl.map enV).take m.length = m.map enV := by rw [<- List.map_take, htk]
  have q5 : (0 ≤ (m.length : Int) /\ (m.length : Int) ≤ cl.length) = True := eq_true (by omega)
  have a := any48_ev (l := m) (out := out) (c := colAt out x.s) (by omega) (fun e he => hs e (by rw [h]; simp [he]))
  rw [gwM] at hr
  by_cases b1 : 0 ≤ colAt out x.s /\ (m.any fun e => colAt out e.s == colAt out x.s) = false
  ·rw [if_pos b1] at hr
   have ih' := ih (m ++ [x]) out chg (by simp [h]) ho hc hs (by simp; omega) o' c' hr
   simp only [List.length_append, List.length_cons, List.length_nil, Nat.zero_add, Int.natCast_add, Int.cast_ofNat_Int, gwV, gwH, gO, iR, List.map_nil] at ih'
   have b11 := b1.1
   rw [b1.2] at a
   simp only [colAt] at a b11
   rw [l17_13]
   simp (maxSteps := 100000000) only [ivc, anf, vop, vslice, nilR, salloc, eq_self, Nat.reduceEqDiff, Nat.reduceLT, Nat.reduceLeDiff, Nat.reduceAdd, Nat.reduceBEq, Int.reduceLE, Int.reduceToNat, reduceCtorEq, implies_true, ↓reduceIte, tyb, gwV, gwH, gO, iR, enV, ldb, hi', hg0, hw, hc0, q, k1, htm, a, b11, ih']
   exact some_true (by omega)
  ·rw [if_neg b1] at hr
   split at hr
   ·cases hr
   rename_i b2
   have tk := taken_ev (g := g) (cs := out) (s := x.s) hg ⟨hx.1, by omega⟩ (by omega) (fun c h => by have := hc c h; omega)
   have hT8 : (takW g x.s out).length = 8 := takW_len
   generalize takW g x.s out = T at hr tk hT8 b2
   have le := least_ev hT8
   generalize leastL T 0 = n at hr le b2
   have t1 := take8 hT8
   have t2 := put8 hT8
   have ih' := ih (m ++ [x]) (out.set x.s.toNat n) (if 0 ≤ colAt out x.s then chg ++ [x.s] else chg) (by simp [h]) (by rw [List.length_set]; exact ho) (fun c hcc => by
    rcases List.mem_or_eq_of_mem_set hcc with hcc | hcc
    ·exact hc c hcc
    ·omega) (by rw [List.length_set]; exact hs) (by split <;> simp <;> omega) o' c' hr
   simp only [gR] at tk
   by_cases b3 : 0 ≤ colAt out x.s
   ·have b4 : (m.any fun e => colAt out e.s == colAt out x.s) = true := by
     cases hh : (m.any fun e => colAt out e.s == colAt out x.s) with
     | true => rfl
     | false => exact absurd ⟨b3, hh⟩ b1
    rw [if_pos b3] at ih'
    simp only [List.length_append, List.length_cons, List.length_nil, Nat.zero_add, Int.natCast_add, Int.cast_ofNat_Int, gwV, gwH, gO, iR, List.map_nil, List.length_set, List.map_append, List.map_cons] at ih'
    rw [b4] at a
    simp only [colAt] at a b3
    rw [l17_13]
    simp (maxSteps := 100000000) only [ivc, anf, vop, vslice, nilR, salloc, sappend, eq_self, Nat.reduceEqDiff, Nat.reduceLT, Nat.reduceLeDiff, Nat.reduceAdd, Nat.reduceMul, Nat.reduceBEq, Int.reduceLE, Int.reduceToNat, reduceCtorEq, implies_true, ↓reduceIte, tyb, ↓zrep, zs_len, t90z, gwV, gwH, gO, iR, enV, ldb, agg_flats, agg_imm, hi', hg0, hw, hc0, q, k1, htm, a, b2, b3, tk, hT8, t2, le, set_map, ih']
    exact some_true (by omega)
   ·rw [if_neg b3] at ih'
    simp only [List.length_append, List.length_cons, List.length_nil, Nat.zero_add, Int.natCast_add, Int.cast_ofNat_Int, gwV, gwH, gO, iR, List.map_nil, List.length_set] at ih'
    simp only [colAt] at a b3
    rw [l17_13]
    simp (maxSteps := 100000000) only [ivc, anf, vop, vslice, nilR, salloc, eq_self, Nat.reduceEqDiff, Nat.reduceLT, Nat.reduceLeDiff, Nat.reduceAdd, Nat.reduceMul, Nat.reduceBEq, Int.reduceLE, Int.reduceToNat, reduceCtorEq, implies_true, ↓reduceIte, tyb, ↓zrep, zs_len, t90z, gwV, gwH, gO, iR, enV, ldb, agg_flats, agg_imm, hi', hg0, hw, hc0, q, k1, htm, a, b2, b3, tk, hT8, t2, le, set_map, ih']
    exact some_true (by omega)
def moreW (w : Wd) (cl : List Et) : Wd := ⟨w.classes ++ [cl], w.bodies, w.roots⟩
def ms0 (w : Wd) (cl : List Et) (cs : List Int) : List Int := cs ++ ms (szM (graphW (moreW w cl)) 500 - cs.length)
theorem grow_ev {w : Wd} {cs : List Int} {cl : List Et} {o' c' : List Int} (hwl : w.classes.length ≤ 1000) (h1 : ckM w = 0) (ok : okW w) (h2 : ccW (graphW w) cs = 0) (h3 : ckM (moreW w cl) = 0) (ok2 : okW (moreW w cl)) (hsz : cs.length ≤ szM (graphW (moreW w cl)) 500) (hcs : ∀ c ∈ cs, c < 500) (hs : ∀ e ∈ cl, 0 ≤ e.s /\ e.s < szM (graphW (moreW w cl)) 500)
  (hr : gwM (graphW (moreW w cl)) cl [] (ms0 w cl cs) [] = some (o', c')) :
  E.F 17 [wdV w, .ro 1 (cs.map (AV.int .i64)), .ro 2 (cl.map enV)] [] = some ((.tup [.ro 1 (o'.map (AV.int .i64)), .ro 1 (c'.map (AV.int .i64)), .int .i64 0], []), True) := by
 have a1 := cc_ev (w := w) (cs := cs) (fun _ => ok)
 rw [if_pos h1, h2] at a1
 have a2 := clone45_ev (l := w.classes) (by omega)
 have a3 := check_ev (w := moreW w cl)
 rw [h3] at a3
 have a4 := graph_ev ok2
 have hg : (graphW (moreW w cl)).length = 4008 := graphW_len
 have hcl : cl.length ≤ 100 := (ok2.2 cl (by simp [moreW])).1
 have hz := szM_le (graphW (moreW w cl)) 500
 have a5 := clone46_ev (l := cs) (by omega)
 unfold ms0 at hr
 generalize graphW (moreW w cl) = g at a4 hg hr hsz hs hz
 have a6 := size_ev hg
 generalize szM g 500 = z at a6 hr hsz hs hz
 have a7 := rep_ms (n := z - cs.length) (by omega)
 have e1 : ((z - cs.length : Nat) : Int) = (z : Int) - cs.length := by omega
 have hol : (cs ++ ms (z - cs.length)).length = z := by rw [List.length_append, ms_len]; omega
 have lp := gw_loop hg hcl cl [] (cs ++ ms (z - cs.length)) [] rfl (by omega) (fun c h => by
  rcases List.mem_append.1 h with h | h
  ·exact hcs c h
  ·have := List.eq_of_mem_replicate h
   omega) (fun e he => by rw [hol]; exact hs e he) (Nat.le_refl _) o' c' hr
 rw [e1] at a7
 have hml : (ms (z - cs.length)).length = z - cs.length := ms_len
 generalize ms (z - cs.length) = M at a7 lp hml
 have hw : IntKind.i64.wrap ((z : Int) - cs.length) = z - cs.length := wrap_id (by omega) (by omega)
 have e2 : cs.length + M.length = z := by omega
 have e3 : cs.length + (z - cs.length) = z := by omega
 have tkM : List.take (z - cs.length) (M.map (AV.int .i64)) = M.map (AV.int .i64) := List.take_of_length_le (by simp [hml])
 have e4 : ((0 : Int) ≤ (z : Int) - cs.length) = True := eq_true (by omega)
 simp only [wdV] at a1
 simp only [wdV, moreW, clV, List.map_append, List.map_cons, List.map_nil] at a3 a4
 simp only [gwV, gwH, gO, gR, iR, List.length_nil, List.map_nil, Int.natCast_zero, List.length_append, List.map_append] at a4 a5 a6 a7 lp
 rw [e17]
 simp (maxSteps := 100000000) only [ivc, anf, vop, vlen, vbuiltin, nilR, salloc, sappend, eq_self, Nat.reduceEqDiff, Nat.reduceLT, Nat.reduceLeDiff, Nat.reduceAdd, Nat.reduceMul, Nat.reduceBEq, Int.reduceNeg, reduceCtorEq, ↓reduceIte, tyb, wdV, ldb, agg_imm, a1, a2, a3, a4, a5, a6, a7, lp, hw, tkM]
 exact some_true (by omega)
end Go.Proofs.YtikppcfabnnhfaaDoor

/- Plain: sizes, colours, the least one. -/
namespace Go.Proofs.YtikppcfabnnhfaaDoor
open Go Go.Aw
set_option linter.unusedSimpArgs false
set_option linter.unusedVariables false
theorem szM_spec {g : List Int} : ∀ {n : Nat}, (∀ m : Nat, szM g n ≤ m -> m < n -> hasW g 0 m = false) /\ (∀ m : Nat, szM g n = m + 1 -> hasW g 0 m = true)
 | 0 => ⟨fun m h1 h2 => by omega, fun m h => by cases h⟩
 | n + 1 => by
  by_cases h : hasW g 0 n = true
  ·have e : szM g (n + 1) = n + 1 := by rw [szM, if_pos h]
   rw [e]
   exact ⟨fun m h1 h2 => by omega, fun m hm => by cases hm; exact h⟩
  ·have e : szM g (n + 1) = szM g n := by rw [szM, if_neg h]
   obtain ⟨a, b⟩ := szM_spec (g := g) (n := n)
   rw [e]
   refine ⟨fun m h1 h2 => ?_, b⟩
   by_cases hm : m = n
   ·subst hm; simpa using h
   ·exact a m h1 (by omega)
theorem szM_lt {g : List Int} {n m : Nat} (h : hasW g 0 m = true) (hm : m < n) : m < szM g n := by
 cases Nat.lt_or_ge m (szM g n) with
 | inl h => exact h
 | inr h1 =>
  have := (szM_spec (g := g) (n := n)).1 m h1 hm
  rw [h] at this
  cases this
theorem takM_r {g : List Int} {b : Nat} : ∀ {r : List Int} {n : Nat} {s : List Int}, allR s -> allR (takM g b n r s)
 | [], _, _, h => h
 | c :: r, n, s, h => by
  rw [takM]
  refine takM_r (r := r) ?_
  split
  ·exact addW_r h
  ·exact h
theorem takW_r {g cs : List Int} {s : Int} : allR (takW g s cs) := takM_r (zs_r 8)
theorem has0_add {l : List Int} {n m : Int} (h : allR l) (hl : l.length = 8) (hn : 0 ≤ n /\ n < 512) (hm : 0 ≤ m /\ m < 512) : hasW (addW l 0 n) 0 m = (hasW l 0 m || decide (n = m)) := by
 have := has_add (a := 0) (b := 0) h (by omega) hn hm
 simpa using this
theorem tak_has {g : List Int} {b : Nat} {m : Int} (hm : 0 ≤ m /\ m < 512) : ∀ {r : List Int} {n : Nat} {s : List Int}, allR s -> s.length = 8 -> (∀ c ∈ r, c < 512) -> (hasW (takM g b n r s) 0 m = true ↔ hasW s 0 m = true \/ ∃ i : Nat, ∃ h : i < r.length, r[i] = m /\ hasW g b ((n + i : Nat) : Int) = true)
 | [], n, s, h, hl, _ => by simp [takM]
 | c :: r, n, s, h, hl, hc => by
  have hc0 := hc c (by simp)
  rw [takM, tak_has hm (by split; exact addW_r h; exact h) (by split; rw [addW_len]; exact hl; exact hl) (fun c h => hc c (by simp [h]))]
  have tail : (∃ i : Nat, ∃ h : i < r.length, r[i] = m /\ hasW g b ((n + 1 + i : Nat) : Int) = true) ↔ ∃ i : Nat, ∃ h : i + 1 < (c :: r).length, (c :: r)[i + 1] = m /\ hasW g b ((n + (i + 1) : Nat) : Int) = true := by
   constructor
   ·rintro ⟨i, h, h1, h2⟩
    exact ⟨i, by simpa using h, h1, by rw [show n + (i + 1) = n + 1 + i by omega]; exact h2⟩
   ·rintro ⟨i, h, h1, h2⟩
    exact ⟨i, by simpa using h, h1, by rw [show n + 1 + i = n + (i + 1) by omega]; exact h2⟩
  have all : (∃ i : Nat, ∃ h : i < (c :: r).length, (c :: r)[i] = m /\ hasW g b ((n + i : Nat) : Int) = true) ↔ (c = m /\ hasW g b (n : Int) = true) \/ ∃ i : Nat, ∃ h : i + 1 < (c :: r).length, (c :: r)[i + 1] = m /\ hasW g b ((n + (i + 1) : Nat) : Int) = true := by
   constructor
   ·rintro ⟨i, h, h1, h2⟩
    cases i with
    | zero => exact .inl ⟨h1, h2⟩
    | succ i => exact .inr ⟨i, h, h1, h2⟩
   ·rintro (⟨h1, h2⟩ | ⟨i, h, h1, h2⟩)
    ·exact ⟨0, by simp, h1, h2⟩
    ·exact ⟨i + 1, h, h1, h2⟩
  rw [tail, all, <- or_assoc]
  refine or_congr_left ?_
  by_cases hcc : 0 ≤ c /\ hasW g b (n : Int) = true
  ·rw [if_pos hcc, has0_add h hl ⟨hcc.1, hc0⟩ hm, Bool.or_eq_true, decide_eq_true_eq]
   exact or_congr_right ⟨fun e => ⟨e, hcc.2⟩, fun e => e.1⟩
  ·rw [if_neg hcc]
   constructor
   ·exact .inl
   ·rintro (h | ⟨h1, h2⟩)
    ·exact h
    ·exact absurd ⟨by omega, h2⟩ hcc
theorem takenW {g cs : List Int} {s m : Int} (hm : 0 ≤ m /\ m < 512) (hc : ∀ c ∈ cs, c < 512) : hasW (takW g s cs) 0 m = true ↔ ∃ i : Nat, ∃ h : i < cs.length, cs[i] = m /\ hasW g (nb s) (i : Int) = true := by
 rw [takW, tak_has hm (zs_r 8) (zs_len 8) hc, has_zs hm.1]
 simp
end Go.Proofs.YtikppcfabnnhfaaDoor

/- Plain: the least number that a set does not have. -/
namespace Go.Proofs.YtikppcfabnnhfaaDoor
open Go Go.Aw
set_option linter.unusedVariables false
set_option maxRecDepth 100000
theorem odd_part : ∀ (n x : Nat), x ≤ n -> x ≠ 0 -> ∃ k m, x = 2 ^ k * (2 * m + 1)
 | 0, x, h, h0 => absurd (Nat.le_zero.1 h) h0
 | n + 1, x, h, h0 => by
  by_cases hx : x % 2 = 1
  ·exact ⟨0, x / 2, by rw [Nat.pow_zero, Nat.one_mul]; omega⟩
  ·obtain ⟨k, m, e⟩ := odd_part n (x / 2) (by omega) (by omega)
   refine ⟨k + 1, m, ?_⟩
   rw [Nat.pow_succ, Nat.mul_right_comm, <- e]
   omega
theorem tb_pow {k m j : Nat} (h : j < k) : (2 ^ k * m).testBit j = false := by
 have := Nat.testBit_two_pow_mul_add m (Nat.two_pow_pos k) j
 rw [Nat.add_zero, if_pos h] at this
 rw [this]; simp
theorem tb_at {k m j : Nat} : (2 ^ k * m).testBit (k + j) = m.testBit j := by
 have := Nat.testBit_two_pow_mul_add m (Nat.two_pow_pos k) (k + j)
 rw [Nat.add_zero, if_neg (by omega), show k + j - k = j by omega] at this
 exact this
theorem neg_and {x : Nat} (hx : x < 18446744073709551616) (h0 : x ≠ 0) : ∃ k, k < 64 /\ x &&& (18446744073709551616 - x) = 2 ^ k /\ x.testBit k = true /\ ∀ j, j < k -> x.testBit j = false := by
 obtain ⟨k, m, e⟩ := odd_part x x (Nat.le_refl _) h0
 have hk : k < 64 := by
  rcases Nat.lt_or_ge k 64 with h | h
  ·exact h
  ·have h1 : 2 ^ 64 ≤ 2 ^ k := Nat.pow_le_pow_right (by omega) h
   have h2 : 2 ^ k ≤ x := by rw [e]; exact Nat.le_mul_of_pos_right _ (by omega)
   omega
 refine ⟨k, hk, ?_, ?_, ?_⟩
 ·have hp : (18446744073709551616 : Nat) = 2 ^ k * (2 * 2 ^ (63 - k)) := by
   rw [<- Nat.pow_succ', <- Nat.pow_add, show k + (63 - k).succ = 64 by omega]
  have hm : m < 2 ^ (63 - k) := by
   have h1 : 2 ^ k * (2 * m + 1) < 2 ^ k * (2 * 2 ^ (63 - k)) := by rw [<- e, <- hp]; exact hx
   have := Nat.lt_of_mul_lt_mul_left h1
   omega
  have hs : 18446744073709551616 - x = 2 ^ k * (2 * (2 ^ (63 - k) - (m + 1)) + 1) := by
   rw [hp, e, <- Nat.mul_sub]
   congr 1
   omega
  rw [hs]
  apply Nat.eq_of_testBit_eq
  intro i
  rw [Nat.testBit_and, Nat.testBit_two_pow]
  rcases Nat.lt_or_ge i k with h | h
  ·rw [tb_pow h, show decide (k = i) = false from decide_eq_false (by omega), Bool.and_false]
  ·obtain ⟨j, rfl⟩ : ∃ j, i = k + j := ⟨i - k, by omega⟩
   rw [e, tb_at, tb_at]
   cases j with
   | zero => simp [Nat.testBit_zero]
   | succ j =>
    rw [Nat.testBit_succ, Nat.testBit_succ, show (2 * m + 1) / 2 = m by omega, show (2 * (2 ^ (63 - k) - (m + 1)) + 1) / 2 = 2 ^ (63 - k) - (m + 1) by omega, Nat.testBit_two_pow_sub_succ hm, show decide (k = k + (j + 1)) = false from decide_eq_false (by omega)]
    cases m.testBit j <;> simp
 ·have := tb_at (k := k) (m := 2 * m + 1) (j := 0)
  rw [<- e] at this
  rw [show x.testBit k = x.testBit (k + 0) from rfl, this]; simp [Nat.testBit_zero]
 ·intro j hj
  rw [e]
  exact tb_pow hj
theorem tab_ok : ∀ k, k < 64 -> tab.getD ((2 ^ k * 285870213051353865 % 18446744073709551616) / 288230376151711744) 0 = (k : Nat) := by decide +kernel
theorem tzW_nat {x : Nat} (hx : x < 18446744073709551616) (h0 : x ≠ 0) : ∃ k : Nat, k < 64 /\ tzW x = k /\ x.testBit k = true /\ ∀ j, j < k -> x.testBit j = false := by
 obtain ⟨k, hk, e, b1, b2⟩ := neg_and hx h0
 refine ⟨k, hk, ?_, b1, b2⟩
 unfold tzW tzI
 rw [if_neg (by omega)]
 have w1 : IntKind.u64.wrap (0 - (x : Int)) = ((18446744073709551616 - x : Nat) : Int) := by
  show (0 - (x : Int)) % 18446744073709551616 = _
  omega
 rw [w1, and_nat hx (by omega), e]
 have w2 : IntKind.u64.wrap (((2 ^ k : Nat) : Int) * 285870213051353865) = ((2 ^ k * 285870213051353865 % 18446744073709551616 : Nat) : Int) := by
  show (((2 ^ k : Nat) : Int) * 285870213051353865) % 18446744073709551616 = _
  rw [Int.natCast_emod, Int.natCast_mul]
  rfl
 rw [w2, show min 58 IntKind.u64.bits = 58 from rfl, Int.fdiv_eq_ediv_of_nonneg _ (Int.le_of_lt (Int.pow_pos (by omega)))]
 have := tab_ok k hk
 rw [show ((2 : Int) ^ 58) = ((288230376151711744 : Nat) : Int) by decide, <- Int.natCast_ediv, Int.toNat_natCast]
 exact this
theorem xor_nat {x y : Nat} (hx : x < 18446744073709551616) (hy : y < 18446744073709551616) : bitsI .xor .u64 x y = ((x ^^^ y : Nat) : Int) := by
 unfold bitsI
 simp only
 rw [BitVec.toNat_xor, ofNat_u64 hx, ofNat_u64 hy]
 have h : x ^^^ y < 2 ^ 64 := Nat.xor_lt_two_pow hx hy
 show ((x ^^^ y : Nat) : Int) % 18446744073709551616 = _
 exact Int.emod_eq_of_lt (by omega) (by omega)
theorem notW_nat {x : Nat} (hx : x < 18446744073709551616) : ∃ y : Nat, notW x = y /\ y < 18446744073709551616 /\ ∀ j, j < 64 -> y.testBit j = !x.testBit j := by
 refine ⟨18446744073709551615 ^^^ x, ?_, ?_, fun j hj => ?_⟩
 ·unfold notW
  rw [show (if IntKind.u64.signed = true then (-1 : Int) else IntKind.u64.max) = ((18446744073709551615 : Nat) : Int) from rfl]
  exact xor_nat (by omega) hx
 ·exact Nat.xor_lt_two_pow (n := 64) (by omega) hx
 ·rw [Nat.testBit_xor, show (18446744073709551615 : Nat) = 2 ^ 64 - 1 from rfl, Nat.testBit_two_pow_sub_one, decide_eq_true hj]
  cases x.testBit j <;> rfl
theorem all_ones {x : Nat} (hx : x < 18446744073709551616) (h : x ≠ 18446744073709551615) : ∃ j, j < 64 /\ x.testBit j = false := by
 rcases Classical.em (∃ j, j < 64 /\ x.testBit j = false) with h1 | h1
 ·exact h1
 ·refine absurd ?_ h
  have : x = 2 ^ 64 - 1 := by
   apply Nat.eq_of_testBit_eq
   intro i
   rw [Nat.testBit_two_pow_sub_one]
   by_cases hi : i < 64
   ·rw [decide_eq_true hi]
    cases hb : x.testBit i with
    | true => rfl
    | false => exact absurd ⟨i, hi, hb⟩ h1
   ·rw [decide_eq_false hi]
    exact Nat.testBit_lt_two_pow (Nat.lt_of_lt_of_le hx (Nat.pow_le_pow_right (n := 2) (by omega) (by omega : 64 ≤ i)))
  exact this
theorem least_set {T : List Int} (hT : allR T) (h8 : T.length = 8) : ∀ {r m : List Int}, T = m ++ r -> (64 * (m.length : Int) ≤ leastL r m.length /\ leastL r m.length ≤ 512) /\ (∀ j : Int, 64 * (m.length : Int) ≤ j -> j < leastL r m.length -> hasW T 0 j = true) /\ (leastL r m.length < 512 -> hasW T 0 (leastL r m.length) = false)
 | [], m, h => by
  rw [List.append_nil] at h
  subst h
  simp only [leastL]
  exact ⟨⟨by omega, by omega⟩, fun j h1 h2 => by omega, fun h => by omega⟩
 | w :: r, m, h => by
  have hl : m.length + (r.length + 1) = 8 := by rw [<- h8, h]; simp
  have hget : T.getD m.length 0 = w := by rw [h]; simp [List.getD_eq_getElem?_getD]
  obtain ⟨x, hx, hb⟩ := u64nat (hT w (by rw [h]; simp))
  have hbit : ∀ j : Int, 64 * (m.length : Int) ≤ j -> j < 64 * (m.length : Int) + 64 -> hasW T 0 j = x.testBit (j - 64 * m.length).toNat := fun j h1 h2 => by
   unfold hasW
   rw [show (0 + (j / 64).toNat) = m.length by omega, hget, hx, bitW_nat hb (by omega) (by omega), show j % 64 = j - 64 * m.length by omega]
  rw [leastL]
  by_cases hw : w = 18446744073709551615
  ·rw [if_pos hw]
   have ih := least_set hT h8 (r := r) (m := m ++ [w]) (by rw [h]; simp)
   simp only [List.length_append, List.length_cons, List.length_nil, Nat.zero_add, Int.natCast_add, Int.cast_ofNat_Int] at ih
   obtain ⟨⟨i1, i2⟩, i3, i4⟩ := ih
   refine ⟨⟨by omega, i2⟩, fun j h1 h2 => ?_, i4⟩
   rcases Int.lt_or_le j (64 * (m.length : Int) + 64) with h3 | h3
   ·rw [hbit j h1 h3, show x = 2 ^ 64 - 1 by omega, Nat.testBit_two_pow_sub_one]
    exact decide_eq_true (by omega)
   ·exact i3 j (by omega) h2
  ·rw [if_neg hw]
   obtain ⟨y, hy, hyb, hyt⟩ := notW_nat hb
   have hne : x ≠ 18446744073709551615 := fun e => hw (by rw [hx, e]; rfl)
   obtain ⟨j0, hj0, hj1⟩ := all_ones hb hne
   have hy0 : y ≠ 0 := fun e => by
    have := hyt j0 hj0
    rw [e, hj1] at this
    simp at this
   obtain ⟨k, hk, hkt, k1, k2⟩ := tzW_nat hyb hy0
   rw [hx, hy, hkt]
   refine ⟨⟨by omega, by omega⟩, fun j h1 h2 => ?_, fun _ => ?_⟩
   ·rw [hbit j h1 (by omega)]
    have := k2 (j - 64 * m.length).toNat (by omega)
    rw [hyt _ (by omega)] at this
    simpa using this
   ·rw [hbit _ (by omega) (by omega), show ((64 * (m.length : Int) + k) - 64 * m.length).toNat = k by omega]
    rw [hyt k hk] at k1
    simpa using k1
theorem least_ok {T : List Int} (hT : allR T) (h8 : T.length = 8) : (0 ≤ leastL T 0 /\ leastL T 0 ≤ 512) /\ (∀ j : Int, 0 ≤ j -> j < leastL T 0 -> hasW T 0 j = true) /\ (leastL T 0 < 512 -> hasW T 0 (leastL T 0) = false) := by
 have := least_set hT h8 (r := T) (m := []) rfl
 simpa using this
end Go.Proofs.YtikppcfabnnhfaaDoor

/- Plain: the least number of colours. -/
namespace Go.Proofs.YtikppcfabnnhfaaDoor
open Go Go.Aw
set_option linter.unusedVariables false
def confG (g : List Int) (a b : Int) : Prop := hasW g (nb a) b = true
def Cable (g L : List Int) (k : Int) : Prop := ∃ f : Int -> Int, (∀ s ∈ L, 0 ≤ f s /\ f s < k) /\ ∀ a ∈ L, ∀ b ∈ L, confG g a b -> f a ≠ f b
theorem foldl_ge : ∀ {l : List Int} {a : Int}, a ≤ l.foldl maxI a /\ ∀ x ∈ l, x ≤ l.foldl maxI a
 | [], a => ⟨Int.le_refl _, by simp⟩
 | y :: l, a => by
  obtain ⟨h1, h2⟩ := foldl_ge (l := l) (a := maxI a y)
  have m : a ≤ maxI a y /\ y ≤ maxI a y := by unfold maxI; split <;> omega
  rw [List.foldl_cons]
  refine ⟨by omega, fun x hx => ?_⟩
  rcases List.mem_cons.1 hx with rfl | hx
  ·omega
  ·exact h2 x hx
theorem foldl_in : ∀ {l : List Int} {a : Int}, l.foldl maxI a = a \/ l.foldl maxI a ∈ l
 | [], a => .inl rfl
 | y :: l, a => by
  rw [List.foldl_cons]
  rcases foldl_in (l := l) (a := maxI a y) with h | h
  ·rw [h]
   unfold maxI
   split
   ·exact .inr (by simp)
   ·exact .inl rfl
  ·exact .inr (by simp [h])
theorem maxL_ge {cs : List Int} {x : Int} (h : x ∈ cs) : x ≤ maxL cs := by
 match cs, h with
 | y :: l, h =>
  obtain ⟨h1, h2⟩ := foldl_ge (l := l) (a := y)
  rcases List.mem_cons.1 h with rfl | h
  ·exact h1
  ·exact h2 x h
theorem maxL_in {cs : List Int} (h : cs ≠ []) : maxL cs ∈ cs := by
 match cs, h with
 | y :: l, h =>
  rcases foldl_in (l := l) (a := y) with h | h
  ·show l.foldl maxI y ∈ _
   rw [h]; simp
  ·show l.foldl maxI y ∈ _
   simp [h]
theorem try_hit {F : Int -> Option (List Int)} {T : List Int} : ∀ {n : Nat} {c0 c : Int}, c0 ≤ c -> c < c0 + n -> hasW T 0 c = false -> (F c).isSome = true -> (tryM F T n c0).isSome = true
 | 0, c0, c, h1, h2, _, _ => by omega
 | n + 1, c0, c, h1, h2, h3, h4 => by
  rw [tryM]
  by_cases e : c0 = c
  ·subst e
   rw [h3, if_neg (by simp)]
   obtain ⟨x, hx⟩ := Option.isSome_iff_exists.1 h4
   rw [hx]; rfl
  ·have ih := try_hit (F := F) (T := T) (n := n) (c0 := c0 + 1) (c := c) (by omega) (by omega) h3 h4
   split
   ·exact ih
   ·cases hF : F c0 with
    | none => exact ih
    | some x => rfl
theorem tryM_inv {F : Int -> Option (List Int)} {T x : List Int} : ∀ {n : Nat} {c0 : Int}, tryM F T n c0 = some x -> ∃ c, c0 ≤ c /\ c < c0 + n /\ hasW T 0 c = false /\ F c = some x
 | 0, c0, h => by cases h
 | n + 1, c0, h => by
  rw [tryM] at h
  have rest : tryM F T n (c0 + 1) = some x -> ∃ c, c0 ≤ c /\ c < c0 + (n + 1 : Nat) /\ hasW T 0 c = false /\ F c = some x := fun h => by
   obtain ⟨c, h1, h2, h3, h4⟩ := tryM_inv h
   exact ⟨c, by omega, by omega, h3, h4⟩
  split at h
  ·exact rest h
  ·rename_i hT
   cases hF : F c0 with
   | none => rw [hF] at h; exact rest h
   | some y =>
    rw [hF] at h
    cases h
    exact ⟨c0, by omega, by omega, by simpa using hT, hF⟩
theorem mem_mid {x s : Int} {r D : List Int} : x ∈ r ++ s :: D ↔ x ∈ s :: r ++ D := by
 simp only [List.mem_append, List.mem_cons, List.cons_append]
 constructor
 ·rintro (h | h | h)
  ·exact .inr (.inl h)
  ·exact .inl h
  ·exact .inr (.inr h)
 ·rintro (h | h | h)
  ·exact .inr (.inl h)
  ·exact .inl h
  ·exact .inr (.inr h)
def doneC (D cs : List Int) : Prop := okC cs /\ (∀ s ∈ D, 0 ≤ s /\ s < 500 /\ 0 ≤ cs.getD s.toNat 0) /\ ∀ i : Nat, i < 500 -> 0 ≤ cs.getD i 0 -> (i : Int) ∈ D
theorem get_D {cs : List Int} {i : Nat} (h : i < cs.length) : cs.getD i 0 = cs[i] := by
 rw [List.getD_eq_getElem?_getD, List.getElem?_eq_getElem h]; rfl
theorem done_set {D cs : List Int} {s c : Int} (h : doneC D cs) (hs : 0 ≤ s /\ s < 500) (hc : 0 ≤ c /\ c < 500) : doneC (s :: D) (cs.set s.toNat c) := by
 obtain ⟨h1, h2, h3⟩ := h
 have hl := h1.1
 refine ⟨okC_set h1 (by omega) hc.2, fun x hx => ?_, fun i hi h0 => ?_⟩
 ·rw [List.getD_eq_getElem?_getD, List.getElem?_set]
  by_cases e : s.toNat = x.toNat
  ·rw [if_pos e]
   rcases List.mem_cons.1 hx with rfl | hx
   ·exact ⟨hs.1, hs.2, by rw [if_pos (by omega)]; exact hc.1⟩
   ·obtain ⟨a, b, _⟩ := h2 x hx
    exact ⟨a, b, by rw [if_pos (by omega)]; exact hc.1⟩
  ·rw [if_neg e]
   rcases List.mem_cons.1 hx with rfl | hx
   ·exact absurd rfl e
   ·rw [<- List.getD_eq_getElem?_getD]
    exact h2 x hx
 ·by_cases e : s.toNat = i
  ·have : (i : Int) = s := by omega
   rw [this]; simp
  ·rw [List.getD_eq_getElem?_getD, List.getElem?_set, if_neg e, <- List.getD_eq_getElem?_getD] at h0
   exact List.mem_cons_of_mem _ (h3 i hi h0)
theorem col_complete {g : List Int} {most : Int} (hm : most ≤ 500) : ∀ {L D cs : List Int}, doneC D cs -> (∀ s ∈ L, 0 ≤ s /\ s < 500) -> (∀ s ∈ L, s ∉ D) -> L.Nodup ->
  (∃ f : Int -> Int, (∀ s ∈ L ++ D, 0 ≤ f s /\ f s < most) /\ (∀ a ∈ L ++ D, ∀ b ∈ L ++ D, confG g a b -> f a ≠ f b) /\ ∀ s ∈ D, f s = cs.getD s.toNat 0) -> (colM g most L cs).isSome = true := by
 intro L
 induction L with
 | nil => intro D cs _ _ _ _ _; rfl
 | cons s r ih =>
  intro D cs hd hL hLD hnd hf
  obtain ⟨f, f1, f2, f3⟩ := hf
  obtain ⟨h1, h2, h3⟩ := hd
  have hl := h1.1
  have hs := hL s (by simp)
  have hne : cs ≠ [] := fun e => by rw [e] at hl; cases hl
  have hu := maxL_in hne
  have hub := h1.2 _ hu
  generalize hU : maxL cs = u at hu hub
  have hDu : ∀ d ∈ D, f d ≤ u := fun d hd => by
   obtain ⟨a, b, _⟩ := h2 d hd
   rw [f3 d hd, get_D (by omega), <- hU]
   exact maxL_ge (List.getElem_mem _)
  -- a colouring whose next colour is not above u + 1
  obtain ⟨f, f1, f2, f3, f4⟩ : ∃ f : Int -> Int, (∀ x ∈ (s :: r) ++ D, 0 ≤ f x /\ f x < most) /\ (∀ a ∈ (s :: r) ++ D, ∀ b ∈ (s :: r) ++ D, confG g a b -> f a ≠ f b) /\ (∀ x ∈ D, f x = cs.getD x.toNat 0) /\ f s ≤ u + 1 := by
   by_cases hle : f s ≤ u + 1
   ·exact ⟨f, f1, f2, f3, hle⟩
   ·have hfs := f1 s (by simp)
    refine ⟨fun x => if f x = f s then u + 1 else if f x = u + 1 then f s else f x, fun x hx => ?_, fun a ha b hb hab he => ?_, fun x hx => ?_, ?_⟩
    ·have := f1 x hx
     dsimp only
     split
     ·omega
     ·split <;> omega
    ·have := f2 a ha b hb hab
     dsimp only at he
     split at he
     ·split at he
      ·omega
      ·split at he <;> omega
     ·split at he
      ·split at he
       ·omega
       ·split at he <;> omega
      ·split at he
       ·omega
       ·split at he <;> omega
    ·have hx1 := hDu x hx
     dsimp only
     rw [if_neg (by omega), if_neg (by omega)]
     exact f3 x hx
    ·dsimp only
     rw [if_pos rfl]
     omega
  have hfs := f1 s (by simp)
  have hT : hasW (takW g s cs) 0 (f s) = false := by
   cases hh : hasW (takW g s cs) 0 (f s) with
   | false => rfl
   | true =>
    obtain ⟨i, hi, e1, e2⟩ := (takenW ⟨hfs.1, by omega⟩ (fun c hc => by have := h1.2 c hc; omega)).1 hh
    have hiD : (i : Int) ∈ D := h3 i (by omega) (by rw [get_D hi]; omega)
    have e3 := f3 _ hiD
    rw [Int.toNat_natCast, get_D hi, e1] at e3
    exact absurd e3.symm (f2 s (by simp) _ (by simp [hiD]) e2)
  rw [colM, hU]
  refine try_hit (c := f s) hfs.1 (by omega) hT (ih (D := s :: D) (done_set ⟨h1, h2, h3⟩ hs ⟨hfs.1, by omega⟩) (fun x hx => hL x (by simp [hx])) (fun x hx => ?_) (List.nodup_cons.1 hnd).2 ⟨f, fun x hx => f1 x (mem_mid.1 hx), fun a ha b hb => f2 a (mem_mid.1 ha) b (mem_mid.1 hb), fun x hx => ?_⟩)
  ·intro hm
   rcases List.mem_cons.1 hm with rfl | hm
   ·exact (List.nodup_cons.1 hnd).1 hx
   ·exact hLD x (by simp [hx]) hm
  ·rw [List.getD_eq_getElem?_getD, List.getElem?_set]
   rcases List.mem_cons.1 hx with rfl | hx
   ·rw [if_pos rfl, if_pos (by omega)]; rfl
   ·have hxs : x ≠ s := fun e => hLD s (by simp) (e ▸ hx)
    obtain ⟨a, b, _⟩ := h2 x hx
    rw [if_neg (by omega), <- List.getD_eq_getElem?_getD]
    exact f3 x hx
theorem col_sound {g : List Int} {most : Int} (hm : most ≤ 500) (hsym : ∀ a b, selN a -> selN b -> confG g a b -> confG g b a) (hirr : ∀ a, selN a -> ¬ confG g a a) : ∀ {L D cs x : List Int}, doneC D cs -> (∀ s ∈ L, 0 ≤ s /\ s < 500) -> (∀ s ∈ L, s ∉ D) -> L.Nodup ->
  (∀ s ∈ D, cs.getD s.toNat 0 < most) -> (∀ a ∈ D, ∀ b ∈ D, confG g a b -> cs.getD a.toNat 0 ≠ cs.getD b.toNat 0) -> colM g most L cs = some x -> ∃ f : Int -> Int, (∀ s ∈ L ++ D, 0 ≤ f s /\ f s < most) /\ ∀ a ∈ L ++ D, ∀ b ∈ L ++ D, confG g a b -> f a ≠ f b := by
 intro L
 induction L with
 | nil =>
  intro D cs x hd _ _ _ h1 h2 h
  exact ⟨fun s => cs.getD s.toNat 0, fun s hs => ⟨(hd.2.1 s (by simpa using hs)).2.2, h1 s (by simpa using hs)⟩, fun a ha b hb => h2 a (by simpa using ha) b (by simpa using hb)⟩
 | cons s r ih =>
  intro D cs x hd hL hLD hnd k1 k2 h
  have hs := hL s (by simp)
  have hl := hd.1.1
  rw [colM] at h
  obtain ⟨c, c1, c2, c3, c4⟩ := tryM_inv h
  have hc : 0 ≤ c /\ c < most := by omega
  have key : ∀ d ∈ D, confG g s d -> cs.getD d.toNat 0 ≠ c := fun d hdD hcf he => by
   obtain ⟨a, b, _⟩ := hd.2.1 d hdD
   have := (takenW (g := g) (cs := cs) (s := s) (m := c) ⟨hc.1, by omega⟩ (fun c hc => by have := hd.1.2 c hc; omega)).2 ⟨d.toNat, by omega, by rw [<- get_D]; exact he, by rw [show ((d.toNat : Nat) : Int) = d by omega]; exact hcf⟩
   rw [c3] at this; cases this
  have hget : ∀ d : Int, (cs.set s.toNat c).getD d.toNat 0 = if s.toNat = d.toNat then c else cs.getD d.toNat 0 := fun d => by
   rw [List.getD_eq_getElem?_getD, List.getElem?_set]
   by_cases e : s.toNat = d.toNat
   ·rw [if_pos e, if_pos (by omega), if_pos e]; rfl
   ·rw [if_neg e, if_neg e, <- List.getD_eq_getElem?_getD]
  have hDs : ∀ d ∈ D, ¬ s.toNat = d.toNat := fun d hdD e => by
   have := (hd.2.1 d hdD).1
   exact hLD s (by simp) (by rw [show s = d by omega]; exact hdD)
  obtain ⟨f, g1, g2⟩ := ih (D := s :: D) (done_set hd hs ⟨hc.1, by omega⟩) (fun y hy => hL y (by simp [hy])) (fun y hy hm => by
    rcases List.mem_cons.1 hm with rfl | hm
    ·exact (List.nodup_cons.1 hnd).1 hy
    ·exact hLD y (by simp [hy]) hm) (List.nodup_cons.1 hnd).2 (fun y hy => by
    rw [hget]
    rcases List.mem_cons.1 hy with rfl | hy
    ·rw [if_pos rfl]; exact hc.2
    ·rw [if_neg (hDs y hy)]; exact k1 y hy) (fun a ha b hb hab => by
    rw [hget, hget]
    rcases List.mem_cons.1 ha with rfl | ha1
    ·rcases List.mem_cons.1 hb with rfl | hb
     ·exact absurd hab (hirr _ hs)
     ·rw [if_pos rfl, if_neg (hDs b hb)]
      exact fun e => key b hb hab e.symm
    ·rcases List.mem_cons.1 hb with rfl | hb
     ·rw [if_pos rfl, if_neg (hDs a ha1)]
      obtain ⟨a1, a2, _⟩ := hd.2.1 a ha1
      exact key a ha1 (hsym _ _ ⟨a1, a2⟩ hs hab)
     ·rw [if_neg (hDs a ha1), if_neg (hDs b hb)]
      exact k2 a ha1 b hb hab) c4
  exact ⟨f, fun y hy => g1 y (mem_mid.2 hy), fun a ha b hb => g2 a (mem_mid.2 ha) b (mem_mid.2 hb)⟩
end Go.Proofs.YtikppcfabnnhfaaDoor

/- Colours. -/
namespace Go.Proofs.YtikppcfabnnhfaaDoor
open Go Go.Aw
set_option linter.unusedSimpArgs false
set_option linter.unusedVariables false
set_option maxRecDepth 100000
set_option maxHeartbeats 40000000
def colI (g : List Int) : Nat -> Nat -> List Int -> List Int
 | 0, _, cs => cs
 | k + 1, n, cs => colI g k (n + 1) (if hasW g 0 n = true then cs.set n (leastL (takW g n cs) 0) else cs)
def colOk (n : Nat) (cs : List Int) : Prop := (∀ i : Nat, i < n -> i < cs.length -> -1 ≤ cs.getD i 0 /\ cs.getD i 0 ≤ i) /\ ∀ i : Nat, n ≤ i -> i < cs.length -> cs.getD i 0 = -1
theorem colOk_bd {n : Nat} {cs : List Int} (h : colOk n cs) (hl : cs.length ≤ 500) : ∀ c ∈ cs, -1 ≤ c /\ c < 500 := fun c hc => by
 obtain ⟨i, hi, rfl⟩ := List.mem_iff_getElem.1 hc
 rw [<- get_D hi]
 by_cases hn : i < n
 ·have := h.1 i hn hi
  omega
 ·rw [h.2 i (by omega) hi]; omega
theorem pigeon2 : ∀ {n : Nat} {l : List Int}, (∀ j : Int, 0 ≤ j -> j < n -> j ∈ l) -> n ≤ l.length
 | 0, l, _ => Nat.zero_le _
 | n + 1, l, h => by
  have hm := h n (by omega) (by omega)
  have hl := List.length_erase_of_mem hm
  have hp := List.length_pos_of_mem hm
  have := pigeon2 (n := n) (l := l.erase (n : Int)) (fun j h0 h1 => (List.mem_erase_of_ne (by omega)).2 (h j h0 (by omega)))
  omega
theorem least_le {g cs : List Int} {n : Nat} (h : colOk n cs) (hl : cs.length ≤ 500) : 0 ≤ leastL (takW g n cs) 0 /\ leastL (takW g n cs) 0 ≤ n := by
 obtain ⟨⟨a, b⟩, c, _⟩ := least_ok (takW_r (g := g) (cs := cs) (s := n)) takW_len
 refine ⟨a, ?_⟩
 have := pigeon2 (n := (leastL (takW g n cs) 0).toNat) (l := cs.take n) (fun j h0 h1 => by
  have hj := c j h0 (by omega)
  obtain ⟨i, hi, e, _⟩ := (takenW ⟨h0, by omega⟩ (fun c hc => by have := colOk_bd h hl c hc; omega)).1 hj
  have hin : i < n := by
   rcases Nat.lt_or_ge i n with h' | h'
   ·exact h'
   ·have := h.2 i h' hi
    rw [get_D hi] at this
    omega
  rw [<- e]
  exact List.mem_iff_getElem.2 ⟨i, by rw [List.length_take]; omega, by rw [List.getElem_take]⟩)
 rw [List.length_take] at this
 omega
theorem colOk_set {g cs : List Int} {n : Nat} (h : colOk n cs) (hl : cs.length ≤ 500) : colOk (n + 1) (if hasW g 0 n = true then cs.set n (leastL (takW g n cs) 0) else cs) := by
 have hb := least_le (g := g) h hl
 split
 ·refine ⟨fun i hi hil => ?_, fun i hi hil => ?_⟩
  ·rw [List.length_set] at hil
   rw [List.getD_eq_getElem?_getD, List.getElem?_set]
   by_cases e : n = i
   ·subst e
    rw [if_pos rfl, if_pos hil]
    show -1 ≤ leastL (takW g n cs) 0 /\ leastL (takW g n cs) 0 ≤ n
    omega
   ·rw [if_neg e, <- List.getD_eq_getElem?_getD]
    exact h.1 i (by omega) hil
  ·rw [List.length_set] at hil
   rw [List.getD_eq_getElem?_getD, List.getElem?_set, if_neg (by omega), <- List.getD_eq_getElem?_getD]
   exact h.2 i (by omega) hil
 ·refine ⟨fun i hi hil => ?_, fun i hi hil => h.2 i (by omega) hil⟩
  by_cases e : n = i
  ·subst e
   rw [h.2 n (Nat.le_refl _) hil]; omega
  ·exact h.1 i (by omega) hil
theorem colOk_ms {n : Nat} : colOk 0 (ms n) := ⟨fun i h => by omega, fun i _ h => ms_get (by rwa [ms_len] at h)⟩
theorem colI_len {g : List Int} : ∀ {k n : Nat} {cs : List Int}, (colI g k n cs).length = cs.length
 | 0, _, _ => rfl
 | k + 1, n, cs => by
  rw [colI, colI_len]
  split
  ·exact List.length_set
  ·rfl
def coJ (g cs : List Int) : HL := [(60000, gO g), (60001, iR cs)]
theorem cl_loop {g : List Int} (hg : g.length = 4008) : ∀ (k n : Nat) (cs : List Int), n + k = cs.length -> cs.length ≤ 500 -> colOk n cs ->
  E.L 29 8 [.ptr 60000 0 0, .sl 60001 0 cs.length, .int .i64 cs.length, .int .i64 n] (coJ g cs) = some ((.exit 0, [.ptr 60000 0 0, .sl 60001 0 cs.length, .int .i64 cs.length, .int .i64 cs.length], coJ g (colI g k n cs)), True) := by
 intro k
 induction k with
 | zero =>
  intro n cs h hl _
  have : n = cs.length := by omega
  subst this
  have q : ((cs.length : Int) < cs.length) = False := eq_false (by omega)
  rw [l29_8]
  simp (maxSteps := 100000000) only [ivc, anf, nilR, eq_self, Nat.reduceEqDiff, Nat.reduceLT, Nat.reduceLeDiff, Nat.reduceAdd, Nat.reduceBEq, reduceCtorEq, ↓reduceIte, tyb, coJ, gO, iR, ldb, q, colI]
 | succ k ih =>
  intro n cs h hl hok
  have q1 : ((n : Int) < cs.length) = True := eq_true (by omega)
  have q2 : (0 ≤ (n : Int) /\ (n : Int) < cs.length) = True := eq_true (by omega)
  have hw : IntKind.i64.wrap ((n : Int) + 1) = n + 1 := wrap_id (by omega) (by omega)
  have c := hasr_ev (l := g) (c := 0) (n := n) (by omega) (by omega) (by omega)
  have hn : ((n : Int)).toNat = n := by omega
  have k1 := getI (l := cs) (i := n) (by omega)
  have hb := colOk_bd hok hl
  have tk := taken_ev (g := g) (cs := cs) (s := n) hg ⟨by omega, by omega⟩ (by omega) (fun c h => by have := hb c h; omega)
  have hok' := colOk_set (g := g) hok hl
  by_cases hb2 : hasW g 0 n = true
  ·rw [if_pos hb2] at hok'
   have hT8 : (takW g n cs).length = 8 := takW_len
   rw [colI, if_pos hb2]
   generalize takW g n cs = T at tk hT8 hok' ⊢
   have le := least_ev hT8
   generalize leastL T 0 = v at le hok' ⊢
   have t1 := take8 hT8
   have t2 := put8 hT8
   have ih' := ih (n + 1) (cs.set n v) (by rw [List.length_set]; omega) (by rw [List.length_set]; omega) hok'
   rw [hb2] at c
   simp only [coJ, gO, iR, gR, List.length_set, Int.natCast_add, Int.cast_ofNat_Int] at ih' tk
   rw [l29_8]
   simp (maxSteps := 100000000) only [ivc, anf, vop, nilR, salloc, eq_self, Nat.reduceEqDiff, Nat.reduceLT, Nat.reduceLeDiff, Nat.reduceAdd, Nat.reduceMul, Nat.reduceBEq, reduceCtorEq, ↓reduceIte, tyb, ↓zrep, zs_len, t90z, coJ, gO, iR, ldb, agg_flats, agg_imm, q1, hn, k1, hw, c, tk, hT8, t2, le, set_map, ih']
   exact some_true (by omega)
  ·rw [if_neg hb2] at hok'
   rw [colI, if_neg hb2]
   have ih' := ih (n + 1) cs (by omega) hl hok'
   have hb3 : hasW g 0 n = false := by simpa using hb2
   rw [hb3] at c
   simp only [coJ, gO, iR, Int.natCast_add, Int.cast_ofNat_Int] at ih'
   rw [l29_8]
   simp (maxSteps := 100000000) only [ivc, anf, vop, nilR, eq_self, Nat.reduceEqDiff, Nat.reduceLT, Nat.reduceLeDiff, Nat.reduceAdd, Nat.reduceBEq, reduceCtorEq, ↓reduceIte, tyb, coJ, gO, iR, ldb, agg_imm, q1, hw, c, ih']
def colsM (g : List Int) : List Int := colI g (szM g 500) 0 (ms (szM g 500))
theorem colours_ev {w : Wd} (ok : ckM w = 0 -> okW w) : E.F 29 [wdV w] [] = some ((if ckM w = 0 then .tup [.ro 1 ((colsM (graphW w)).map (AV.int .i64)), .int .i64 0] else .tup [.ro 1 [], .int .i64 (ckM w)], []), True) := by
 have h1 := check_ev (w := w)
 rw [e29]
 by_cases h : ckM w = 0
 ·rw [if_pos h]
  rw [h] at h1
  have h2 := graph_ev (ok h)
  have hg : (graphW w).length = 4008 := graphW_len
  unfold colsM
  generalize graphW w = g at h2 hg ⊢
  have h3 := size_ev hg
  have hz := szM_le g 500
  generalize szM g 500 = z at h3 hz ⊢
  have h4 := rep_ms (n := z) (by omega)
  have lp := cl_loop hg z 0 (ms z) (by rw [ms_len]; omega) (by rw [ms_len]; omega) colOk_ms
  have hl : (ms z).length = z := ms_len
  generalize ms z = M at h4 lp hl ⊢
  simp only [hl, gO, iR, gR, coJ, Int.natCast_zero, wdV] at h1 h2 h3 h4 lp
  simp (maxSteps := 100000000) only [ivc, anf, vlen, vbuiltin, nilR, salloc, eq_self, Nat.reduceEqDiff, Nat.reduceLT, Nat.reduceLeDiff, Nat.reduceAdd, Nat.reduceMul, Nat.reduceBEq, Int.reduceNeg, reduceCtorEq, ↓reduceIte, tyb, wdV, ldb, agg_imm, h1, h2, h3, h4, lp]
  rw [List.take_of_length_le (by rw [List.length_map, colI_len, hl]; exact Nat.le_refl _)]
 ·rw [if_neg h]
  have h' : (ckM w != 0) = true := bne_iff_ne.2 h
  simp only [wdV] at h1
  simp (maxSteps := 100000000) only [ivc, anf, nilR, salloc, eq_self, Nat.reduceEqDiff, Nat.reduceLT, Nat.reduceLeDiff, Nat.reduceAdd, Nat.reduceBEq, Int.reduceNeg, ↓reduceIte, tyb, wdV, h1, h']
end Go.Proofs.YtikppcfabnnhfaaDoor

/- Plain: Least says the least number of colours. -/
namespace Go.Proofs.YtikppcfabnnhfaaDoor
open Go Go.Aw
set_option linter.unusedVariables false
theorem done_ms : doneC [] (ms 500) := ⟨ms_ok, by simp, fun i hi h => by rw [ms_get hi] at h; omega⟩
structure GrOk (g : List Int) : Prop where
 sym : ∀ a b, selN a -> selN b -> confG g a b -> confG g b a
 irr : ∀ a, selN a -> ¬ confG g a a
theorem knW_sel {g : List Int} {s : Int} (h : s ∈ knW g) : selN s := by
 have := knI_mem.1 h
 exact ⟨this.1, by omega⟩
theorem knW_mem {g : List Int} {s : Int} : s ∈ knW g ↔ selN s /\ hasW g 0 s = true := by
 unfold knW
 rw [knI_mem]
 unfold selN
 constructor
 ·rintro ⟨a, b, c⟩; exact ⟨⟨a, by omega⟩, c⟩
 ·rintro ⟨⟨a, b⟩, c⟩; exact ⟨a, by omega, c⟩
theorem knW_nd {g : List Int} : (knW g).Nodup := knI_nodup
theorem knW_le {g : List Int} : (knW g).length ≤ 500 := knI_len
theorem col_iff {g : List Int} (hg : GrOk g) {most : Int} (hm : most ≤ 500) : (colM g most (knW g) (ms 500)).isSome = true ↔ Cable g (knW g) most := by
 constructor
 ·intro h
  obtain ⟨x, hx⟩ := Option.isSome_iff_exists.1 h
  obtain ⟨f, f1, f2⟩ := col_sound hm hg.sym hg.irr done_ms (fun s hs => knW_sel hs) (by simp) knW_nd (by simp) (by simp) hx
  exact ⟨f, fun s hs => f1 s (by simpa using hs), fun a ha b hb => f2 a (by simpa using ha) b (by simpa using hb)⟩
 ·rintro ⟨f, f1, f2⟩
  exact col_complete hm done_ms (fun s hs => knW_sel hs) (by simp) knW_nd ⟨f, fun s hs => f1 s (by simpa using hs), fun a ha b hb => f2 a (by simpa using ha) b (by simpa using hb), by simp⟩
theorem idx_inj {L : List Int} {a b : Int} (ha : a ∈ L) (hb : b ∈ L) (h : L.idxOf a = L.idxOf b) : a = b := by
 have h1 := List.getElem_idxOf (List.idxOf_lt_length_of_mem ha)
 have h2 := List.getElem_idxOf (List.idxOf_lt_length_of_mem hb)
 rw [<- h1, <- h2]
 congr 1
theorem cable_len {g : List Int} (hg : GrOk g) : Cable g (knW g) (knW g).length :=
 ⟨fun s => (knW g).idxOf s, fun s hs => by
  have := List.idxOf_lt_length_of_mem hs
  dsimp only
  omega, fun a ha b hb hab he => by
  dsimp only at he
  have : a = b := idx_inj ha hb (by omega)
  subst this
  exact hg.irr a (knW_sel ha) hab⟩
theorem minM_spec {g L cs : List Int} : ∀ {k : Nat} {m : Int}, (m ≤ minM g L cs k m /\ minM g L cs k m ≤ m + k) /\ (∀ j, m ≤ j -> j < minM g L cs k m -> (colM g j L cs).isSome = false) /\ (minM g L cs k m < m + k -> (colM g (minM g L cs k m) L cs).isSome = true)
 | 0, m => ⟨⟨Int.le_refl _, by simp [minM]⟩, fun j h1 h2 => by simp only [minM] at h2; omega, fun h => by simp only [minM] at h; omega⟩
 | k + 1, m => by
  rw [minM]
  split
  ·rename_i h
   exact ⟨⟨Int.le_refl _, by omega⟩, fun j h1 h2 => by omega, fun _ => h⟩
  ·rename_i h
   obtain ⟨⟨a1, a2⟩, b, c⟩ := minM_spec (g := g) (L := L) (cs := cs) (k := k) (m := m + 1)
   refine ⟨⟨by omega, by omega⟩, fun j h1 h2 => ?_, fun h1 => c (by omega)⟩
   by_cases e : j = m
   ·subst e; simpa using h
   ·exact b j (by omega) h2
theorem least_spec {g : List Int} (hg : GrOk g) : 0 ≤ leastW g /\ Cable g (knW g) (leastW g) /\ ∀ j, 0 ≤ j -> Cable g (knW g) j -> leastW g ≤ j := by
 have hL := knW_le (g := g)
 obtain ⟨⟨a1, a2⟩, b, c⟩ := minM_spec (g := g) (L := knW g) (cs := ms 500) (k := (knW g).length) (m := 0)
 have e : minM g (knW g) (ms 500) (knW g).length 0 = leastW g := rfl
 rw [e] at a1 a2 b c
 refine ⟨a1, ?_, fun j hj hc => ?_⟩
 ·by_cases h : leastW g < 0 + (knW g).length
  ·exact (col_iff hg (by omega)).1 (c h)
  ·have : leastW g = (knW g).length := by omega
   rw [this]
   exact cable_len hg
 ·rcases Int.lt_or_le j (leastW g) with h | h
  ·have := b j hj h
   rw [(col_iff hg (by omega)).2 hc] at this
   cases this
  ·exact h
/-! What the classes say. -/
def Kn (cs : List (List Et)) (s : Int) : Prop := ∃ c ∈ cs, s ∈ c.map Et.s
theorem kn_sel {cs : List (List Et)} (h : clsok cs) {s : Int} (hs : Kn cs s) : selN s := by
 obtain ⟨c, hc, hs⟩ := hs
 obtain ⟨e, he, rfl⟩ := List.mem_map.1 hs
 exact (h c hc).1 e he
theorem gr_ok {w : Wd} (h : clsok w.classes) : GrOk (graphW w) where
 sym a b ha hb hab := by
  obtain ⟨h1, c, hc, h2, h3⟩ := (nearW ha hb h).1 hab
  exact (nearW hb ha h).2 ⟨h1.symm, c, hc, h3, h2⟩
 irr a ha hab := ((nearW ha ha h).1 hab).1 rfl
theorem nodup_map_of {f : Int -> Int} : ∀ {l : List Int}, l.Nodup -> (∀ a ∈ l, ∀ b ∈ l, a ≠ b -> f a ≠ f b) -> (l.map f).Nodup
 | [], _, _ => List.nodup_nil
 | x :: l, h, hf => by
  rw [List.map_cons, List.nodup_cons]
  refine ⟨fun hm => ?_, nodup_map_of (List.nodup_cons.1 h).2 fun a ha b hb => hf a (by simp [ha]) b (by simp [hb])⟩
  obtain ⟨y, hy, he⟩ := List.mem_map.1 hm
  exact hf y (by simp [hy]) x (by simp) (fun e => (List.nodup_cons.1 h).1 (e ▸ hy)) he
end Go.Proofs.YtikppcfabnnhfaaDoor

/- Plain: how many bits a word has. -/
namespace Go.Proofs.YtikppcfabnnhfaaDoor
open Go Go.Aw
set_option linter.unusedVariables false
set_option maxRecDepth 100000
def pcn : Nat -> Nat -> Nat
 | 0, _ => 0
 | n + 1, x => x % 2 + pcn n (x / 2)
def byB (f : Nat -> Nat) : Nat -> Nat -> Nat
 | 0, _ => 0
 | n + 1, x => f (x % 256) + 256 * byB f n (x / 256)
def mk (c : Nat) : Nat -> Nat
 | 0 => 0
 | n + 1 => c + 256 * mk c n
theorem and_byte {x c m : Nat} (hc : c < 256) : x &&& (c + 256 * m) = (x % 256 &&& c) + 256 * (x / 256 &&& m) := by
 have e1 : (x % 256 &&& c) < 2 ^ 8 := Nat.lt_of_le_of_lt Nat.and_le_right (by omega)
 apply Nat.eq_of_testBit_eq
 intro i
 have hx : x = 2 ^ 8 * (x / 256) + x % 256 := by omega
 rw [Nat.testBit_and, show c + 256 * m = 2 ^ 8 * m + c by omega, Nat.testBit_two_pow_mul_add m (show c < 2 ^ 8 by omega), show (x % 256 &&& c) + 256 * (x / 256 &&& m) = 2 ^ 8 * (x / 256 &&& m) + (x % 256 &&& c) by omega, Nat.testBit_two_pow_mul_add _ e1]
 have ht : x.testBit i = if i < 8 then (x % 256).testBit i else (x / 256).testBit (i - 8) := by
  have := Nat.testBit_two_pow_mul_add (x / 256) (show x % 256 < 2 ^ 8 by omega) i
  rwa [<- hx] at this
 rw [ht]
 split <;> simp [Nat.testBit_and]
theorem byB_mod {f : Nat -> Nat} (hf : ∀ u, u < 256 -> f u < 256) {n x : Nat} : byB f (n + 1) x % 256 = f (x % 256) := by
 have := hf (x % 256) (by omega)
 rw [byB]; omega
theorem byB_div {f : Nat -> Nat} (hf : ∀ u, u < 256 -> f u < 256) {n x : Nat} : byB f (n + 1) x / 256 = byB f n (x / 256) := by
 have := hf (x % 256) (by omega)
 rw [byB]; omega
theorem byB_comp {f g : Nat -> Nat} (hf : ∀ u, u < 256 -> f u < 256) : ∀ {n x : Nat}, byB g n (byB f n x) = byB (fun u => g (f u)) n x
 | 0, _ => rfl
 | n + 1, x => by
  rw [byB, byB_mod hf, byB_div hf, byB_comp hf]
  rfl
theorem byB_lt {f : Nat -> Nat} {b : Nat} (hf : ∀ u, u < 256 -> f u ≤ b) : ∀ {n x : Nat}, byB f n x ≤ mk b n
 | 0, _ => Nat.le_refl 0
 | n + 1, x => by
  have := hf (x % 256) (by omega)
  have := byB_lt hf (n := n) (x := x / 256)
  rw [byB, mk]; omega
def s1 (u : Nat) : Nat := (u / 2 &&& 85) + (u &&& 85)
def s2 (u : Nat) : Nat := (u / 4 &&& 51) + (u &&& 51)
def s3 (u : Nat) : Nat := (u / 16 + u) % 16
theorem h1 : ∀ u, u < 512 -> u / 2 % 256 &&& 85 = (u % 256) / 2 &&& 85 := by decide +kernel
theorem h2 : ∀ u, u < 1024 -> u / 4 % 256 &&& 51 = (u % 256) / 4 &&& 51 := by decide +kernel
theorem stage1 : ∀ {n x : Nat}, (x / 2 &&& mk 85 n) + (x &&& mk 85 n) = byB s1 n x
 | 0, x => by simp [mk, byB]
 | n + 1, x => by
  have a := h1 (x % 512) (by omega)
  rw [show x % 512 / 2 % 256 = x / 2 % 256 by omega, show x % 512 % 256 = x % 256 by omega] at a
  rw [mk, and_byte (by omega), and_byte (by omega), a, byB, <- stage1, s1, show x / 2 / 256 = x / 256 / 2 by omega]
  omega
theorem stage2 : ∀ {n x : Nat}, (x / 4 &&& mk 51 n) + (x &&& mk 51 n) = byB s2 n x
 | 0, x => by simp [mk, byB]
 | n + 1, x => by
  have a := h2 (x % 1024) (by omega)
  rw [show x % 1024 / 4 % 256 = x / 4 % 256 by omega, show x % 1024 % 256 = x % 256 by omega] at a
  rw [mk, and_byte (by omega), and_byte (by omega), a, byB, <- stage2, s2, show x / 4 / 256 = x / 256 / 4 by omega]
  omega
def dig4 (u : Nat) : Prop := u % 16 ≤ 4 /\ u / 16 ≤ 4
theorem h3 : ∀ v, v < 256 -> v &&& 15 = v % 16 := by decide +kernel
theorem stage3 {f : Nat -> Nat} (hf : ∀ u, u < 256 -> dig4 (f u)) : ∀ {n x : Nat}, (byB f n x / 16 + byB f n x) &&& mk 15 n = byB (fun u => s3 (f u)) n x
 | 0, x => by simp [mk, byB]
 | n + 1, x => by
  have ih := stage3 hf (n := n) (x := x / 256)
  have d := hf (x % 256) (by omega)
  have hz : byB f n (x / 256) % 16 ≤ 4 := by
   cases n with
   | zero => rw [byB]; omega
   | succ n =>
    have d2 := hf (x / 256 % 256) (by omega)
    rw [byB]
    unfold dig4 at d2
    omega
  rw [mk, and_byte (by omega), byB, byB, s3, <- ih]
  generalize byB f n (x / 256) = q at hz
  generalize f (x % 256) = u at d
  unfold dig4 at d
  have e1 : ((u + 256 * q) / 16 + (u + 256 * q)) / 256 = q / 16 + q := by omega
  rw [e1, h3 _ (by omega)]
  omega
theorem d4 : ∀ u, u < 256 -> (s2 (s1 u) % 16 ≤ 4 /\ s2 (s1 u) / 16 ≤ 4) := by decide +kernel
theorem s1_lt : ∀ u, u < 256 -> s1 u < 256 := by decide +kernel
theorem s_pc : ∀ u, u < 256 -> s3 (s2 (s1 u)) = pcn 8 u := by decide +kernel
theorem byB_congr {f g : Nat -> Nat} (h : ∀ u, u < 256 -> f u = g u) : ∀ {n x : Nat}, byB f n x = byB g n x
 | 0, _ => rfl
 | n + 1, x => by rw [byB, byB, h _ (by omega), byB_congr h]
theorem pcn_add {b : Nat} : ∀ {a x : Nat}, pcn (a + b) x = pcn a x + pcn b (x / 2 ^ a)
 | 0, x => by simp [pcn]
 | a + 1, x => by
  rw [show a + 1 + b = (a + b) + 1 by omega, pcn, pcn_add, pcn, Nat.div_div_eq_div_mul, Nat.pow_succ, Nat.mul_comm 2]
  omega
theorem pcn_mod : ∀ {a x : Nat}, pcn a (x % 2 ^ a) = pcn a x
 | 0, _ => rfl
 | a + 1, x => by
  rw [pcn, pcn, Nat.mod_pow_succ]
  have e1 : (x % 2 ^ a + 2 ^ a * (x / 2 ^ a % 2)) % 2 = x % 2 /\ pcn a ((x % 2 ^ a + 2 ^ a * (x / 2 ^ a % 2)) / 2) = pcn a (x / 2) := by
   have h := Nat.mod_pow_succ (b := 2) (x := x) (k := a)
   rw [<- h]
   refine ⟨by rw [Nat.pow_succ]; exact Nat.mod_mul_left_mod _ _ _, ?_⟩
   rw [Nat.pow_succ, Nat.mul_comm, Nat.mod_mul_right_div_self, pcn_mod]
  rw [e1.1, e1.2]
theorem pcn_le : ∀ {n x : Nat}, pcn n x ≤ n
 | 0, _ => Nat.le_refl 0
 | n + 1, x => by
  have := pcn_le (n := n) (x := x / 2)
  rw [pcn]; omega
theorem and127 {y : Nat} : y &&& 127 = y % 128 := by
 have := Nat.and_two_pow_sub_one_eq_mod y 7
 simpa using this
theorem wrapN {y : Nat} (h : y < 18446744073709551616) : IntKind.u64.wrap (y : Int) = y := by
 show (y : Int) % 18446744073709551616 = _
 omega
theorem fdivN {y k : Nat} : (y : Int).fdiv (2 ^ k) = ((y / 2 ^ k : Nat) : Int) := by
 rw [Int.fdiv_eq_ediv_of_nonneg _ (Int.le_of_lt (Int.pow_pos (by omega)))]
 simp
end Go.Proofs.YtikppcfabnnhfaaDoor

/- Plain: how many selectors are understood. -/
namespace Go.Proofs.YtikppcfabnnhfaaDoor
open Go Go.Aw
set_option linter.unusedVariables false
set_option maxRecDepth 100000
set_option maxHeartbeats 4000000
theorem mk85 : mk 85 8 = 6148914691236517205 := by decide +kernel
theorem mk51 : mk 51 8 = 3689348814741910323 := by decide +kernel
theorem mk15 : mk 15 8 = 1085102592571150095 := by decide +kernel
theorem s1_le : ∀ u, u < 256 -> s1 u ≤ 170 := by decide +kernel
theorem s12_le : ∀ u, u < 256 -> s2 (s1 u) ≤ 68 := by decide +kernel
theorem dgB {c t u m : Nat} (h : c + 256 * t = u) (hc : c ≤ 8) (ht : t ≤ m) : u ≤ 8 + 256 * m := by omega
theorem dgD {c t u : Nat} (h : c + 256 * t = u) (hc : c ≤ 8) : u / 2 ^ 8 = t := by omega
theorem dgF {u s t : Nat} (h : u = s + 256 * t) (hc : s < 256) : u / 2 ^ 8 = t := by omega
theorem dgE {c0 c1 c2 t1 t2 t3 y : Nat} (h0 : c0 + 256 * t1 = y) (h1 : c1 + 256 * t2 = t1) (h2 : c2 + 256 * t3 = t2) (l0 : c0 ≤ 8) (l1 : c1 ≤ 8) (l2 : c2 ≤ 8) : (y + t1) / 2 ^ 16 = t2 + t3 := by
 have : y + t1 = (c0 + c1 + 256 * (c1 + c2)) + 2 ^ 16 * (t2 + t3) := by omega
 rw [this, Nat.add_mul_div_left _ _ (by omega), Nat.div_eq_of_lt (by omega), Nat.zero_add]
theorem dgS {c0 c1 c2 c3 t1 t2 t3 t4 y : Nat} (h0 : c0 + 256 * t1 = y) (h1 : c1 + 256 * t2 = t1) (h2 : c2 + 256 * t3 = t2) (h3 : c3 + 256 * t4 = t3) : y + t1 + (t2 + t3) = (c0 + c1 + c2 + c3) + 256 * (t1 + t2 + t3 + t4) := by omega
theorem dgT {c0 c1 c2 c3 t0 t1 t2 t3 t4 : Nat} (h0 : c0 + 256 * t1 = t0) (h1 : c1 + 256 * t2 = t1) (h2 : c2 + 256 * t3 = t2) (h3 : c3 + 256 * t4 = t3) : t0 + t1 + t2 + t3 = (c0 + c1 + c2 + c3) + 256 * (t1 + t2 + t3 + t4) := by omega
theorem dgU {c0 c1 c2 c3 t0 t1 t2 : Nat} (h0 : c0 + 256 * t1 = t0) (h1 : c1 + 256 * t2 = t1) (h2 : c2 + 256 * c3 = t2) : t0 + t1 + t2 + c3 = (c0 + c1 + c2 + c3) + 256 * (t1 + t2 + c3) := by omega
theorem dgV {w u s t a b : Nat} (h0 : w = s + 256 * a) (h4 : u = t + 256 * b) (h : s + t < 128) : (w + u) % 128 = s + t := by omega
theorem ones_nat {x : Nat} (hx : x < 18446744073709551616) : onesW x = (pcn 64 x : Nat) := by
 unfold onesW on6 on5 on4
 have a1 : on1 x = (byB s1 8 x : Nat) := by
  unfold on1
  rw [show min 1 IntKind.u64.bits = 1 from rfl, fdivN, show (6148914691236517205 : Int) = ((6148914691236517205 : Nat) : Int) from rfl, and_nat (by omega) (by omega), and_nat (by omega) (by omega), <- mk85, <- Int.natCast_add, show 2 ^ 1 = 2 from rfl, stage1]
  have := byB_lt s1_le (n := 8) (x := x)
  rw [show mk 170 8 = 12297829382473034410 by decide +kernel] at this
  exact wrapN (by omega)
 have b1 := byB_lt s1_le (n := 8) (x := x)
 rw [show mk 170 8 = 12297829382473034410 by decide +kernel] at b1
 have a2 : on2 (on1 x) = (byB (fun u => s2 (s1 u)) 8 x : Nat) := by
  rw [a1]
  unfold on2
  rw [show min 2 IntKind.u64.bits = 2 from rfl, fdivN, show (3689348814741910323 : Int) = ((3689348814741910323 : Nat) : Int) from rfl, and_nat (by omega) (by omega), and_nat (by omega) (by omega), <- mk51, <- Int.natCast_add, show 2 ^ 2 = 4 from rfl, stage2, byB_comp s1_lt]
  have := byB_lt s12_le (n := 8) (x := x)
  rw [show mk 68 8 = 4919131752989213764 by decide +kernel] at this
  exact wrapN (by omega)
 have b2 := byB_lt s12_le (n := 8) (x := x)
 rw [show mk 68 8 = 4919131752989213764 by decide +kernel] at b2
 have a3 : on3 (on2 (on1 x)) = (byB (pcn 8) 8 x : Nat) := by
  rw [a2]
  unfold on3
  rw [show min 4 IntKind.u64.bits = 4 from rfl, fdivN, show (1085102592571150095 : Int) = ((1085102592571150095 : Nat) : Int) from rfl, <- Int.natCast_add, wrapN (by omega), and_nat (by omega) (by omega), <- mk15, show 2 ^ 4 = 16 from rfl, stage3 d4, byB_congr s_pc]
 rw [a3]
 clear a1 a2 a3 b1 b2
 have e : pcn 64 x = pcn 8 (x % 256) + pcn 8 (x / 256 % 256) + pcn 8 (x / 256 / 256 % 256) + pcn 8 (x / 256 / 256 / 256 % 256) + pcn 8 (x / 256 / 256 / 256 / 256 % 256) + pcn 8 (x / 256 / 256 / 256 / 256 / 256 % 256) + pcn 8 (x / 256 / 256 / 256 / 256 / 256 / 256 % 256) + pcn 8 (x / 256 / 256 / 256 / 256 / 256 / 256 / 256 % 256) := by
  have m8 : ∀ y, pcn 8 (y % 256) = pcn 8 y := fun y => pcn_mod (a := 8)
  have st : ∀ b y, pcn (8 + b) y = pcn 8 y + pcn b (y / 256) := fun b y => pcn_add (a := 8)
  rw [show (64 : Nat) = 8 + (8 + (8 + (8 + (8 + (8 + (8 + 8)))))) from rfl, st, st, st, st, st, st, st]
  simp only [m8]
  omega
 rw [e]
 simp only [byB, Nat.mul_zero, Nat.add_zero]
 have l0 := pcn_le (n := 8) (x := x % 256)
 have l1 := pcn_le (n := 8) (x := x / 256 % 256)
 have l2 := pcn_le (n := 8) (x := x / 256 / 256 % 256)
 have l3 := pcn_le (n := 8) (x := x / 256 / 256 / 256 % 256)
 have l4 := pcn_le (n := 8) (x := x / 256 / 256 / 256 / 256 % 256)
 have l5 := pcn_le (n := 8) (x := x / 256 / 256 / 256 / 256 / 256 % 256)
 have l6 := pcn_le (n := 8) (x := x / 256 / 256 / 256 / 256 / 256 / 256 % 256)
 have l7 := pcn_le (n := 8) (x := x / 256 / 256 / 256 / 256 / 256 / 256 / 256 % 256)
 generalize pcn 8 (x % 256) = c0 at l0 ⊢
 generalize pcn 8 (x / 256 % 256) = c1 at l1 ⊢
 generalize pcn 8 (x / 256 / 256 % 256) = c2 at l2 ⊢
 generalize pcn 8 (x / 256 / 256 / 256 % 256) = c3 at l3 ⊢
 generalize pcn 8 (x / 256 / 256 / 256 / 256 % 256) = c4 at l4 ⊢
 generalize pcn 8 (x / 256 / 256 / 256 / 256 / 256 % 256) = c5 at l5 ⊢
 generalize pcn 8 (x / 256 / 256 / 256 / 256 / 256 / 256 % 256) = c6 at l6 ⊢
 generalize pcn 8 (x / 256 / 256 / 256 / 256 / 256 / 256 / 256 % 256) = c7 at l7 ⊢
 clear e hx x
 rw [show min 8 IntKind.u64.bits = 8 from rfl, show min 16 IntKind.u64.bits = 16 from rfl, show min 32 IntKind.u64.bits = 32 from rfl]
 generalize h6 : c6 + 256 * c7 = t6
 generalize h5 : c5 + 256 * t6 = t5
 generalize h4 : c4 + 256 * t5 = t4
 generalize h3 : c3 + 256 * t4 = t3
 generalize h2 : c2 + 256 * t3 = t2
 generalize h1 : c1 + 256 * t2 = t1
 generalize h0 : c0 + 256 * t1 = y
 have b6 := dgB h6 l6 l7
 have b5 := dgB h5 l5 b6
 have b4 := dgB h4 l4 b5
 have b3 := dgB h3 l3 b4
 have b2 := dgB h2 l2 b3
 have b1 := dgB h1 l1 b2
 have b0 := dgB h0 l0 b1
 simp only [Nat.reduceMul, Nat.reduceAdd] at b6 b5 b4 b3 b2 b1 b0
 have d1 : y / 2 ^ 8 = t1 := dgD h0 l0
 have d2 : (y + t1) / 2 ^ 16 = t2 + t3 := dgE h0 h1 h2 l0 l1 l2
 have e0 : y + t1 + (t2 + t3) = (c0 + c1 + c2 + c3) + 256 * (t1 + t2 + t3 + t4) := dgS h0 h1 h2 h3
 have e1 := dgT h1 h2 h3 h4
 have e2 := dgT h2 h3 h4 h5
 have e3 := dgT h3 h4 h5 h6
 have e4 : t4 + t5 + t6 + c7 = (c4 + c5 + c6 + c7) + 256 * (t5 + t6 + c7) := dgU h4 h5 h6
 have wb : y + t1 + (t2 + t3) ≤ 600000000000000000 := by clear d1 d2 e0 e1 e2 e3 e4 h0 h1 h2 h3 h4 h5 h6; omega
 have w5 : t5 + t6 + c7 ≤ 600000 := by clear d1 d2 e0 e1 e2 e3 e4 h0 h1 h2 h3 h4 h5 h6; omega
 have w1 : t1 + t2 + t3 + t4 ≤ 3000000000000000 := by clear d1 d2 e0 e1 e2 e3 e4 h0 h1 h2 h3 h4 h5 h6; omega
 have yb : y < 18446744073709551616 /\ y + t1 < 18446744073709551616 := by clear d1 d2 e0 e1 e2 e3 e4 h0 h1 h2 h3 h4 h5 h6; omega
 rw [fdivN, d1, <- Int.natCast_add, wrapN yb.2, fdivN, d2, <- Int.natCast_add, wrapN (by clear d1 d2 e0 e1 e2 e3 e4 h0 h1 h2 h3 h4 h5 h6; omega)]
 clear h0 h1 h2 h3 h4 h5 h6 b0 b1 b2 b3 b4 b5 b6 d1 d2 yb
 generalize t5 + t6 + c7 = u5 at e4 w5
 generalize t4 + t5 + t6 + c7 = u4 at e3 e4
 generalize t3 + t4 + t5 + t6 = u3 at e2 e3
 generalize t2 + t3 + t4 + t5 = u2 at e1 e2
 generalize t1 + t2 + t3 + t4 = u1 at e0 e1 w1
 generalize y + t1 + (t2 + t3) = w at e0 wb ⊢
 have d3 : w / 2 ^ 32 = u4 := by
  have f3 : w / 2 ^ 8 = u1 := dgF e0 (by clear e0 e1 e2 e3 e4; omega)
  have f4 : u1 / 2 ^ 8 = u2 := dgF e1 (by clear e0 e1 e2 e3 e4; omega)
  have f5 : u2 / 2 ^ 8 = u3 := dgF e2 (by clear e0 e1 e2 e3 e4; omega)
  have f6 : u3 / 2 ^ 8 = u4 := dgF e3 (by clear e0 e1 e2 e3 e4; omega)
  rw [show (2 : Nat) ^ 32 = 2 ^ 8 * 2 ^ 8 * 2 ^ 8 * 2 ^ 8 from rfl, <- Nat.div_div_eq_div_mul, <- Nat.div_div_eq_div_mul, <- Nat.div_div_eq_div_mul, f3, f4, f5, f6]
 rw [fdivN, d3, <- Int.natCast_add]
 clear d3 e1 e2 e3
 have ub : w + u4 < 9223372036854775808 := by omega
 have hv' : (w + u4) % 128 = c0 + c1 + c2 + c3 + c4 + c5 + c6 + c7 := (dgV e0 e4 (by clear e0 e4; omega)).trans (by clear e0 e4; omega)
 rw [wrapN (by clear e0 e4 hv'; omega)]
 generalize w + u4 = v at ub hv' ⊢
 have hvb := ub
 clear e0 e4 l0 l1 l2 l3 l4 l5 l6 l7
 have hi : IntKind.i64.wrap (v : Int) = v := wrap_id (by omega) (by omega)
 rw [hi, <- hv', <- and127]
 unfold bitsI
 simp only
 rw [BitVec.toNat_and, show IntKind.i64.bits = 64 from rfl]
 have t1 : (BitVec.ofInt 64 (v : Int)).toNat = v := by
  rw [BitVec.toNat_ofInt]
  show ((v : Int) % ((2 ^ 64 : Nat) : Int)).toNat = v
  rw [Int.emod_eq_of_lt (by omega) (by omega)]
  rfl
 have t2 : (BitVec.ofInt 64 (127 : Int)).toNat = 127 := by decide +kernel
 rw [t1, t2]
 have : v &&& 127 ≤ 127 := Nat.and_le_right
 exact wrap_id (by omega) (by omega)
theorem knI_app {g : List Int} : ∀ {k1 k2 : Nat} {a : Int}, knI g (k1 + k2) a = knI g k1 a ++ knI g k2 (a + k1)
 | 0, k2, a => by simp [knI]
 | k1 + 1, k2, a => by
  rw [show k1 + 1 + k2 = (k1 + k2) + 1 by omega, knI, knI_app, knI, List.append_assoc, show a + 1 + (k1 : Int) = a + ((k1 + 1 : Nat) : Int) by omega]
theorem kn_word {g : List Int} {i : Nat} {x : Nat} (hx : x < 18446744073709551616) (hg : g.getD i 0 = x) : ∀ {k j : Nat}, j + k = 64 -> (knI g k ((64 * i + j : Nat) : Int)).length = pcn k (x / 2 ^ j)
 | 0, j, _ => rfl
 | k + 1, j, h => by
  have ih := kn_word hx hg (k := k) (j := j + 1) (by omega)
  have e1 : (((64 * i + j : Nat) : Int) / 64).toNat = i := by omega
  have e2 : ((64 * i + j : Nat) : Int) % 64 = j := by omega
  have hb : hasW g 0 ((64 * i + j : Nat) : Int) = x.testBit j := by
   unfold hasW
   rw [e1, e2, Nat.zero_add, hg, bitW_nat hx (by omega) (by omega)]
   simp
  rw [knI, List.length_append, show ((64 * i + j : Nat) : Int) + 1 = ((64 * i + (j + 1) : Nat) : Int) by omega, ih, hb, pcn, Nat.testBit_eq_decide_div_mod_eq, Nat.div_div_eq_div_mul, <- Nat.pow_succ]
  congr 1
  have := Nat.mod_two_eq_zero_or_one (x / 2 ^ j)
  rcases this with h | h <;> simp [h]
theorem cnt_kn {g : List Int} (hg : allR g) : ∀ {n : Nat}, cntM g n = ((knI g (64 * n) 0).length : Int)
 | 0 => rfl
 | n + 1 => by
  obtain ⟨x, hx, hb⟩ := u64nat (allR_getD hg n)
  rw [cntM, cnt_kn hg, show 64 * (n + 1) = 64 * n + 64 by omega, knI_app, List.length_append, hx, ones_nat hb]
  have := kn_word hb hx (k := 64) (j := 0) rfl
  rw [Nat.add_zero, Nat.pow_zero, Nat.div_one] at this
  rw [Int.zero_add, this]
  omega
theorem cnt_w {w : Wd} (h : clsok w.classes) : cntM (graphW w) 8 = ((knW (graphW w)).length : Int) := by
 have g := gok_W (w := w)
 rw [cnt_kn g.2, show 64 * 8 = 500 + 12 from rfl, knI_app, List.length_append]
 have : knI (graphW w) 12 (0 + (500 : Nat)) = [] := by
  refine List.eq_nil_iff_forall_not_mem.2 fun x hx => ?_
  obtain ⟨h1, h2, h3⟩ := knI_mem.1 hx
  obtain ⟨c, hc, hm⟩ := (known5W ⟨by omega, by omega⟩ h).1 h3
  have := kn_sel h ⟨c, hc, hm⟩
  unfold selN at this
  omega
 rw [this]
 rfl
end Go.Proofs.YtikppcfabnnhfaaDoor

/- Plain: what a check takes; what ColourFew says. -/
namespace Go.Proofs.YtikppcfabnnhfaaDoor
open Go Go.Aw
set_option linter.unusedVariables false
def fitsN (g : List Int) (n : Nat) (cs : List Int) : Prop :=
 (∀ i : Nat, i < n -> i < cs.length -> (hasW g 0 i = true -> 0 ≤ cs.getD i 0) /\ (hasW g 0 i = false -> cs.getD i 0 = -1)) /\
 ∀ i j : Nat, i < n -> j < n -> i < cs.length -> j < cs.length -> 0 ≤ cs.getD i 0 -> cs.getD i 0 = cs.getD j 0 -> ¬ confG g i j
theorem set_get {cs : List Int} {n i : Nat} {v : Int} (h : n < cs.length) : (cs.set n v).getD i 0 = if i = n then v else cs.getD i 0 := by
 rw [List.getD_eq_getElem?_getD, List.getElem?_set]
 by_cases e : n = i
 ·subst e; rw [if_pos rfl, if_pos h, if_pos rfl]; rfl
 ·rw [if_neg e, if_neg (fun h => e h.symm), <- List.getD_eq_getElem?_getD]
theorem colI_fits {g : List Int} (hg : GrOk g) : ∀ {k n : Nat} {cs : List Int}, n + k = cs.length -> cs.length ≤ 500 -> colOk n cs -> fitsN g n cs -> fitsN g cs.length (colI g k n cs) /\ colOk cs.length (colI g k n cs)
 | 0, n, cs, h, hl, h1, h2 => by
  have : n = cs.length := by omega
  subst this
  exact ⟨h2, h1⟩
 | k + 1, n, cs, h, hl, h1, h2 => by
  have hs := colOk_set (g := g) h1 hl
  have hb := least_le (g := g) h1 hl
  rw [colI]
  by_cases c : hasW g 0 n = true
  ·rw [if_pos c] at hs ⊢
   have tk := takenW (g := g) (cs := cs) (s := n) (m := leastL (takW g n cs) 0) ⟨hb.1, by omega⟩ (fun c hc => by have := colOk_bd h1 hl c hc; omega)
   have lo := (least_ok (takW_r (g := g) (cs := cs) (s := n)) takW_len).2.2 (by omega)
   generalize leastL (takW g n cs) 0 = v at hs hb tk lo ⊢
   have no : ∀ i : Nat, i < cs.length -> cs.getD i 0 = v -> ¬ confG g n i := fun i hi he hc => by
    have := tk.2 ⟨i, hi, by rw [<- get_D hi]; exact he, hc⟩
    rw [lo] at this; cases this
   have sn : selN (n : Int) := ⟨by omega, by omega⟩
   have := colI_fits hg (k := k) (n := n + 1) (cs := cs.set n v) (by rw [List.length_set]; omega) (by rw [List.length_set]; omega) hs ⟨fun i hi hil => ?_, fun i j hi hj hil hjl h0 he hc => ?_⟩
   ·rwa [List.length_set] at this
   ·rw [set_get (by omega)]
    split
    ·rename_i e; subst e
     exact ⟨fun _ => hb.1, fun hf => (by rw [c] at hf; cases hf)⟩
    ·exact h2.1 i (by omega) (by rwa [List.length_set] at hil)
   ·rw [List.length_set] at hil hjl
    rw [set_get (by omega)] at h0
    rw [set_get (by omega), set_get (by omega)] at he
    by_cases e1 : i = n
    ·subst e1
     rw [if_pos rfl] at he h0
     by_cases e2 : j = i
     ·subst e2; exact hg.irr _ sn hc
     ·rw [if_neg e2] at he
      exact no j hjl he.symm hc
    ·rw [if_neg e1] at he h0
     by_cases e2 : j = n
     ·subst e2
      rw [if_pos rfl] at he
      exact no i hil he (hg.sym _ _ ⟨by omega, by omega⟩ sn hc)
     ·rw [if_neg e2] at he
      exact h2.2 i j (by omega) (by omega) hil hjl h0 he hc
  ·have c' : hasW g 0 n = false := by simpa using c
   rw [if_neg c] at hs ⊢
   refine colI_fits hg (k := k) (n := n + 1) (cs := cs) (by omega) hl hs ⟨fun i hi hil => ?_, fun i j hi hj hil hjl h0 he hc => ?_⟩
   ·by_cases e : i = n
    ·subst e
     exact ⟨fun hf => (by rw [c'] at hf; cases hf), fun _ => h1.2 i (Nat.le_refl _) hil⟩
    ·exact h2.1 i (by omega) hil
   ·have e1 : i ≠ n := fun e => by subst e; rw [h1.2 i (Nat.le_refl _) hil] at h0; omega
    have e2 : j ≠ n := fun e => by subst e; rw [he, h1.2 j (Nat.le_refl _) hjl] at h0; omega
    exact h2.2 i j (by omega) (by omega) hil hjl h0 he hc
theorem colsM_len {g : List Int} : (colsM g).length = szM g 500 := by rw [colsM, colI_len, ms_len]
theorem colsM_fits {g : List Int} (hg : GrOk g) : fitsN g (colsM g).length (colsM g) /\ colOk (colsM g).length (colsM g) := by
 have hz := szM_le g 500
 have h := colI_fits hg (k := szM g 500) (n := 0) (cs := ms (szM g 500)) (by rw [ms_len]; omega) (by rw [ms_len]; omega) colOk_ms ⟨fun i h => by omega, fun i j h => by omega⟩
 rw [ms_len] at h
 rwa [colsM_len]
structure ColsOk (g cs : List Int) : Prop where
 len : cs.length = szM g 500
 bd : ∀ c ∈ cs, -1 ≤ c /\ c < 500
 kn : ∀ i : Nat, i < cs.length -> (hasW g 0 i = true -> 0 ≤ cs.getD i 0)
 un : ∀ i : Nat, i < cs.length -> (hasW g 0 i = false -> cs.getD i 0 = -1)
 no : ∀ i j : Nat, i < cs.length -> j < cs.length -> 0 ≤ cs.getD i 0 -> cs.getD i 0 = cs.getD j 0 -> ¬ confG g i j
theorem bad_iff {g : List Int} {n c : Int} : badC g n c = false ↔ (-1 ≤ c /\ c < 500) /\ (hasW g 0 n = true -> 0 ≤ c) /\ (hasW g 0 n = false -> c = -1) := by
 unfold badC
 rw [Bool.or_eq_false_iff, Bool.or_eq_false_iff, decide_eq_false_iff_not, decide_eq_false_iff_not]
 by_cases hc : c = -1
 ·subst hc
  cases h : hasW g 0 n
  ·exact ⟨fun _ => ⟨⟨by omega, by omega⟩, fun h => (by cases h), fun _ => rfl⟩, fun _ => ⟨⟨rfl, by omega⟩, by omega⟩⟩
  ·exact ⟨fun h => (by have := h.1.1; cases this), fun h => by have := h.2.1 rfl; omega⟩
 ·have e : (c == -1) = false := beq_eq_false_iff_ne.2 hc
  rw [e]
  cases h : hasW g 0 n
  ·exact ⟨fun h => (by have := h.1.1; cases this), fun h => absurd (h.2.2 rfl) hc⟩
  ·exact ⟨fun h => ⟨⟨by omega, by omega⟩, fun _ => by omega, fun h => (by cases h)⟩, fun h => ⟨⟨rfl, by omega⟩, by omega⟩⟩
theorem anyB_iff {g : List Int} : ∀ {r : List Int} {n : Int}, anyB g r n = false ↔ ∀ i : Nat, i < r.length -> badC g (n + i) (r.getD i 0) = false
 | [], n => by simp [anyB]
 | c :: r, n => by
  rw [anyB, Bool.or_eq_false_iff, anyB_iff]
  constructor
  ·rintro ⟨h1, h2⟩ i hi
   cases i with
   | zero => simpa using h1
   | succ i =>
    have := h2 i (by simpa using hi)
    rw [show n + ((i + 1 : Nat) : Int) = n + 1 + i by omega]
    simpa using this
  ·intro h
   refine ⟨by simpa using h 0 (by simp), fun i hi => ?_⟩
   have := h (i + 1) (by simpa using hi)
   rw [show n + ((i + 1 : Nat) : Int) = n + 1 + i by omega] at this
   simpa using this
theorem clash_iff {g cs : List Int} : ∀ {r : List Int} {n : Int}, clash g cs r n = false ↔ ∀ i : Nat, i < r.length -> 0 ≤ r.getD i 0 -> hasW (takW g (n + i) cs) 0 (r.getD i 0) = false
 | [], n => by simp [clash]
 | c :: r, n => by
  rw [clash, Bool.or_eq_false_iff, clash_iff, Bool.and_eq_false_imp]
  constructor
  ·rintro ⟨h1, h2⟩ i hi h0
   cases i with
   | zero =>
    have := h1 (by simpa using h0)
    simpa using this
   | succ i =>
    have := h2 i (by simpa using hi) (by simpa using h0)
    rw [show n + ((i + 1 : Nat) : Int) = n + 1 + i by omega]
    simpa using this
  ·intro h
   refine ⟨fun h0 => by have := h 0 (by simp) (by simpa using h0); simpa using this, fun i hi h0 => ?_⟩
   have := h (i + 1) (by simpa using hi) (by simpa using h0)
   rw [show n + ((i + 1 : Nat) : Int) = n + 1 + i by omega] at this
   simpa using this
theorem getD_mem {l : List Int} {i : Nat} (h : i < l.length) : l.getD i 0 ∈ l := by
 rw [get_D h]; exact List.getElem_mem _
theorem cc_iff {g cs : List Int} : ccW g cs = 0 ↔ ColsOk g cs := by
 have hz := szM_le g 500
 unfold ccW
 constructor
 ·intro h
  split at h
  case isFalse => cases h
  rename_i h1
  split at h
  ·cases h
  rename_i h2
  split at h
  ·cases h
  rename_i h3
  have a := anyB_iff.1 (show anyB g cs 0 = false by simpa using h2)
  have b := clash_iff.1 (show clash g cs cs 0 = false by simpa using h3)
  have a' := fun i hi => bad_iff.1 (a i hi)
  simp only [Int.zero_add] at a' b
  have bd : ∀ c ∈ cs, -1 ≤ c /\ c < 500 := fun c hc => by
   obtain ⟨i, hi, rfl⟩ := List.mem_iff_getElem.1 hc
   rw [<- get_D hi]
   exact (a' i hi).1
  refine ⟨h1, bd, fun i hi => (a' i hi).2.1, fun i hi => (a' i hi).2.2, fun i j hi hj h0 he hc => ?_⟩
  have := (takenW (g := g) (cs := cs) (s := i) (m := cs.getD i 0) ⟨h0, by have := bd _ (getD_mem hi); omega⟩ (fun c hc => by have := bd c hc; omega)).2 ⟨j, hj, by rw [<- get_D hj]; exact he.symm, hc⟩
  rw [b i hi h0] at this
  cases this
 ·intro h
  rw [if_pos h.len, if_neg, if_neg]
  ·intro hc
   refine absurd (clash_iff.2 fun i hi h0 => ?_) (by rw [hc]; simp)
   cases hh : hasW (takW g (0 + i) cs) 0 (cs.getD i 0) with
   | false => rfl
   | true =>
    rw [Int.zero_add] at hh
    obtain ⟨j, hj, e, hc⟩ := (takenW (g := g) (cs := cs) (s := i) (m := cs.getD i 0) ⟨h0, by have := h.bd _ (getD_mem hi); omega⟩ (fun c hc => by have := h.bd c hc; omega)).1 hh
    exact absurd hc (h.no i j hi hj h0 (by rw [get_D hj]; exact e.symm))
  ·intro hc
   refine absurd (anyB_iff.2 fun i hi => bad_iff.2 ⟨h.bd _ (getD_mem hi), ?_, ?_⟩) (by rw [hc]; simp)
   ·rw [Int.zero_add]; exact h.kn i hi
   ·rw [Int.zero_add]; exact h.un i hi
theorem cols_ok {g : List Int} (hg : GrOk g) : ColsOk g (colsM g) := by
 obtain ⟨⟨a, b⟩, c⟩ := colsM_fits hg
 have hz := szM_le g 500
 exact ⟨colsM_len, colOk_bd c (by rw [colsM_len]; exact hz), fun i hi => (a i hi hi).1, fun i hi => (a i hi hi).2, fun i j hi hj => b i j hi hj hi hj⟩
def cntO (v : List Et) : Nat := (v.filter fun e => decide (0 ≤ e.s)).length
theorem cnt_set : ∀ {v : List Et} {p : Nat} {x e : Et}, v[p]? = some e -> e.s < 0 -> 0 ≤ x.s -> cntO (v.set p x) = cntO v + 1
 | [], _, _, _, h, _, _ => by cases h
 | y :: v, 0, x, e, h, h1, h2 => by
  cases h
  simp only [cntO, List.set_cons_zero, List.filter_cons, decide_eq_true h2, decide_eq_false (show ¬ 0 ≤ y.s by omega), if_true]
  rfl
 | y :: v, p + 1, x, e, h, h1, h2 => by
  have := cnt_set (v := v) (p := p) (x := x) (e := e) (by simpa using h) h1 h2
  simp only [cntO, List.set_cons_succ, List.filter_cons] at this ⊢
  split
  ·simp only [List.length_cons, this]
  ·exact this
theorem cnt_app {v w : List Et} : cntO (v ++ w) = cntO v + cntO w := by simp [cntO, List.filter_append]
theorem cnt_no {n : Nat} : cntO (reN n) = 0 := by
 unfold cntO reN
 rw [List.length_eq_zero_iff, List.filter_eq_nil_iff]
 intro e he
 rw [List.eq_of_mem_replicate he]
 decide
theorem noE_get {n p : Nat} {e : Et} (h : (reN n)[p]? = some e) : e = noE := List.eq_of_mem_replicate (List.mem_of_getElem? h)
def injC (cs : List Int) (c : List Et) : Prop := c.Pairwise fun e f => colAt cs e.s ≠ colAt cs f.s
theorem tu_law {cs : List Int} : ∀ {r t m : List Et}, injC cs (m ++ r) -> (∀ e ∈ m ++ r, hasC cs e /\ (colAt cs e.s).toNat < t.length) ->
  (∀ e ∈ m, t[(colAt cs e.s).toNat]? = some e) -> (∀ (i : Nat) (e : Et), t[i]? = some e -> 0 ≤ e.s -> e ∈ m /\ (colAt cs e.s).toNat = i) ->
  (∀ e ∈ m ++ r, (tuM cs r t)[(colAt cs e.s).toNat]? = some e) /\ (∀ (i : Nat) (e : Et), (tuM cs r t)[i]? = some e -> 0 ≤ e.s -> e ∈ m ++ r /\ (colAt cs e.s).toNat = i) /\ cntO (tuM cs r t) = cntO t + r.length
 | [], t, m, _, _, h1, h2 => by
  rw [List.append_nil]
  exact ⟨h1, h2, rfl⟩
 | x :: r, t, m, hi, hh, h1, h2 => by
  have e1 : m ++ x :: r = (m ++ [x]) ++ r := by simp
  rw [tuM]
  rw [e1] at hi hh ⊢
  have hx := hh x (by simp)
  have hne : ∀ e ∈ m, (colAt cs e.s).toNat ≠ (colAt cs x.s).toNat := fun e he hc => by
   unfold injC at hi
   rw [List.pairwise_append] at hi
   have := (List.pairwise_append.1 hi.1).2.2 e he x (by simp)
   have a := (hh e (by simp [he])).1
   unfold hasC at a hx
   omega
  obtain ⟨k1, k2, k3⟩ := tu_law (r := r) (t := t.set (colAt cs x.s).toNat x) (m := m ++ [x]) hi (fun e he => by rw [List.length_set]; exact hh e he) (fun e he => by
    rw [List.getElem?_set]
    rcases List.mem_append.1 he with he | he
    ·rw [if_neg (fun h => hne e he h.symm)]
     exact h1 e he
    ·rw [List.mem_singleton.1 he, if_pos rfl, if_pos hx.2]) (fun i e he h0 => by
    rw [List.getElem?_set] at he
    split at he
    ·rename_i hi'
     split at he
     ·cases he
      exact ⟨by simp, hi'⟩
     ·cases he
    ·obtain ⟨a, b⟩ := h2 i e he h0
     exact ⟨by simp [a], b⟩)
  refine ⟨k1, k2, ?_⟩
  have hlt := hx.2
  have hs : (t[(colAt cs x.s).toNat]).s < 0 := by
   rcases Int.lt_or_le (t[(colAt cs x.s).toNat]).s 0 with h | h
   ·exact h
   ·obtain ⟨a, b⟩ := h2 _ _ (List.getElem?_eq_getElem hlt) h
    exact absurd b (hne _ a)
  rw [k3, cnt_set (List.getElem?_eq_getElem hlt) hs hx.1.1, List.length_cons]
  omega
structure TabOk (cs : List Int) (c t : List Et) : Prop where
 hit : ∀ e ∈ c, t[(colAt cs e.s).toNat]? = some e
 inv : ∀ (i : Nat) (e : Et), t[i]? = some e -> 0 ≤ e.s -> e ∈ c /\ (colAt cs e.s).toNat = i
 cnt : cntO t = c.length
theorem tab_law {cs : List Int} {c : List Et} (hi : injC cs c) (hh : ∀ e ∈ c, hasC cs e) : TabOk cs c (tblM cs c) := by
 obtain ⟨a, b, d⟩ := tsM_rng (n := 0) hh (by omega) (by omega)
 have := tu_law (cs := cs) (r := c) (t := reN (tsM cs c 0).toNat) (m := []) hi (fun e he => ⟨hh e he, by
  have := d e he
  have h2 := hh e he
  unfold hasC at h2
  simp only [reN, List.length_replicate]
  omega⟩) (by simp) (fun i e he h0 => by
  rw [noE_get he] at h0
  exact absurd h0 (by decide))
 rw [List.nil_append, cnt_no, Nat.zero_add] at this
 exact ⟨this.1, this.2.1, this.2.2⟩
theorem put_law : ∀ {r : List Et} {p : Nat} {v : List Et}, (r = [] \/ p + r.length ≤ v.length) -> (∀ (i : Nat) (s e : Et), r[i]? = some s -> 0 ≤ s.s -> v[p + i]? = some e -> e.s < 0) ->
  (∀ (i : Nat) (s : Et), r[i]? = some s -> 0 ≤ s.s -> (putL r p v)[p + i]? = some s) /\ (∀ (q : Nat), (∀ (i : Nat) (s : Et), r[i]? = some s -> 0 ≤ s.s -> q ≠ p + i) -> (putL r p v)[q]? = v[q]?) /\ cntO (putL r p v) = cntO v + cntO r
 | [], p, v, _, _ => by simp [putL, cntO]
 | x :: r, p, v, hl, hf => by
  have hl' : p + (r.length + 1) ≤ v.length := hl.resolve_left (by simp)
  have hp : p < v.length := by omega
  have e0 : ((p : Int)).toNat = p := by omega
  have e1 : (p : Int) + 1 = ((p + 1 : Nat) : Int) := by omega
  rw [putL, e0, e1]
  by_cases hx : 0 ≤ x.s
  ·rw [if_pos hx]
   have hfree := hf 0 x v[p] rfl hx (by rw [Nat.add_zero]; exact List.getElem?_eq_getElem hp)
   obtain ⟨k1, k2, k3⟩ := put_law (r := r) (p := p + 1) (v := v.set p x) (.inr (by rw [List.length_set]; omega)) (fun i s e hs h0 he => by
    rw [List.getElem?_set, if_neg (by omega)] at he
    exact hf (i + 1) s e (by simpa using hs) h0 (by rw [show p + (i + 1) = p + 1 + i by omega]; exact he))
   refine ⟨fun i s hs h0 => ?_, fun q hq => ?_, ?_⟩
   ·cases i with
    | zero =>
     cases hs
     have e := k2 p (fun i s _ _ => by omega)
     rw [List.getElem?_set, if_pos rfl, if_pos hp] at e
     exact e
    | succ i =>
     rw [show p + (i + 1) = p + 1 + i by omega]
     exact k1 i s (by simpa using hs) h0
   ·have hqp : q ≠ p := by have := hq 0 x rfl hx; omega
    rw [k2 q (fun i s hs h0 => by have := hq (i + 1) s (by simpa using hs) h0; omega), List.getElem?_set, if_neg (fun h => hqp h.symm)]
   ·rw [k3, cnt_set (List.getElem?_eq_getElem hp) hfree hx]
    have : cntO (x :: r) = cntO r + 1 := by simp [cntO, hx]
    omega
  ·rw [if_neg hx]
   obtain ⟨k1, k2, k3⟩ := put_law (r := r) (p := p + 1) (v := v) (.inr (by omega)) (fun i s e hs h0 he => hf (i + 1) s e (by simpa using hs) h0 (by rw [show p + (i + 1) = p + 1 + i by omega]; exact he))
   refine ⟨fun i s hs h0 => ?_, fun q hq => ?_, ?_⟩
   ·cases i with
    | zero => cases hs; exact absurd h0 hx
    | succ i =>
     rw [show p + (i + 1) = p + 1 + i by omega]
     exact k1 i s (by simpa using hs) h0
   ·exact k2 q (fun i s hs h0 => by have := hq (i + 1) s (by simpa using hs) h0; omega)
   ·rw [k3]
    have : cntO (x :: r) = cntO r := by simp [cntO, hx]
    omega
theorem fit_iff {vec : List Et} : ∀ {t : List Et} {p : Nat}, fitL vec t p = true ↔ ∀ (i : Nat) (s e : Et), t[i]? = some s -> 0 ≤ s.s -> vec[p + i]? = some e -> e.s < 0
 | [], p => by simp [fitL]
 | x :: t, p => by
  rw [fitL, show (p : Int) + 1 = ((p + 1 : Nat) : Int) by omega]
  have ih := fit_iff (vec := vec) (t := t) (p := p + 1)
  have e0 : ((p : Int)).toNat = p := by omega
  rw [e0]
  constructor
  ·intro h i s e hs h0 he
   split at h
   ·cases h
   ·rename_i hc
    cases i with
    | zero =>
     cases hs
     obtain ⟨hp, rfl⟩ := List.getElem?_eq_some_iff.1 he
     rw [Nat.add_zero] at hp
     have hg : vec.getD p ⟨0, 0⟩ = vec[p] := by rw [List.getD_eq_getElem?_getD, List.getElem?_eq_getElem hp]; rfl
     rw [hg] at hc
     have : ¬ 0 ≤ (vec[p]).s := fun h => hc ⟨h0, by omega, h⟩
     simp only [Nat.add_zero]
     omega
    | succ i => exact ih.1 h i s e (by simpa using hs) h0 (by rw [show p + 1 + i = p + (i + 1) by omega]; exact he)
  ·intro h
   rw [if_neg, ih]
   ·intro i s e hs h0 he
    exact h (i + 1) s e (by simpa using hs) h0 (by rw [show p + (i + 1) = p + 1 + i by omega]; exact he)
   ·rintro ⟨h0, hp, h1⟩
    have hp' : p < vec.length := by omega
    have hg : vec.getD p ⟨0, 0⟩ = vec[p] := by rw [List.getD_eq_getElem?_getD, List.getElem?_eq_getElem hp']; rfl
    rw [hg] at h1
    have := h 0 x vec[p] rfl h0 (List.getElem?_eq_getElem hp')
    omega
theorem fAt_ok {ok : Int -> Bool} : ∀ {k : Nat} {a : Int}, ok (a + k) = true -> ok (fAt ok k a) = true
 | 0, a, h => by simpa [fAt] using h
 | k + 1, a, h => by
  rw [fAt]
  split
  ·rename_i h; exact h
  ·exact fAt_ok (by rw [show a + 1 + (k : Int) = a + ((k + 1 : Nat) : Int) by omega]; exact h)
theorem place_ok {offs : List Int} {vec t : List Et} : okA offs vec t (placeA offs vec t) = true /\ 0 ≤ placeA offs vec t := by
 obtain ⟨h1, h2⟩ := top_fold (offs := offs) (n := vec.length)
 unfold placeA
 refine ⟨fAt_ok ?_, (fAt_rng (k := (topM offs vec).toNat) (a := 0)).1⟩
 have e : (0 : Int) + ((topM offs vec).toNat : Int) = topM offs vec := by unfold topM; omega
 rw [e, okA, Bool.and_eq_true]
 refine ⟨?_, fitL_far h1⟩
 rw [Bool.not_eq_true']
 cases hc : offs.contains (topM offs vec) with
 | false => rfl
 | true =>
  have := h2 _ (List.contains_iff_mem.1 hc)
  unfold topM at this
  omega
end Go.Proofs.YtikppcfabnnhfaaDoor

