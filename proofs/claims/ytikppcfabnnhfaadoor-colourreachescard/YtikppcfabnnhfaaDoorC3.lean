/- A part of the proof of ColourReachesCardSaid. -/
import Derived.Test.YtikppcfabnnhfaaDoorTie
import Derived.Test.YtikppcfabnnhfaaDoorCards
import Derived.Lib.LaidTab
import Derived.LaidMore
import Derived.LaidLaws
import Derived.ProofKit
import Derived.Test.YtikppcfabnnhfaaDoorC2
/- CheckColours. -/
namespace Go.Proofs.YtikppcfabnnhfaaDoor
open Go Go.Aw
set_option linter.unusedSimpArgs false
set_option linter.unusedVariables false
set_option maxRecDepth 100000
set_option maxHeartbeats 40000000
def badC (g : List Int) (n c : Int) : Bool := ((c == -1) == hasW g 0 n) || decide (c < -1) || decide (500 ≤ c)
def anyB (g : List Int) : List Int -> Int -> Bool
 | [], _ => false
 | c :: r, n => badC g n c || anyB g r (n + 1)
theorem bad_loop {g cs : List Int} (hg : g.length = 4008) (hl : cs.length ≤ 500) : ∀ (r m : List Int), cs = m ++ r ->
  ∃ e : Int, E.L 62 5 [gR g, .ro 1 (cs.map (AV.int .i64)), .int .i64 0, .ro 1 (cs.map (AV.int .i64)), .int .i64 cs.length, .int .i64 m.length] [] = some ((if anyB g r m.length then .ret else .exit 0, [gR g, .ro 1 (cs.map (AV.int .i64)), .int .i64 (if anyB g r m.length then 3 else 0), .ro 1 (cs.map (AV.int .i64)), .int .i64 cs.length, .int .i64 e], []), True) := by
 intro r
 induction r with
 | nil =>
  intro m h
  rw [List.append_nil] at h
  subst h
  refine ⟨cs.length, ?_⟩
  rw [l62_5]
  simp (maxSteps := 100000000) only [ivc, anf, nilR, eq_self, Nat.reduceEqDiff, Nat.reduceLT, Nat.reduceAdd, Nat.reduceBEq, Int.reduceNeg, reduceCtorEq, ↓reduceIte, tyb, gR, Int.lt_irrefl, anyB]
 | cons x r ih =>
  intro m h
  have hn : m.length + (r.length + 1) = cs.length := by rw [h]; simp
  have hi' : (m.length : Int) < cs.length := by omega
  have hgd := getD_map (f := AV.int .i64) (show cs[m.length]? = some x by rw [h]; simp)
  have hw : IntKind.i64.wrap ((m.length : Int) + 1) = m.length + 1 := wrap_id (by omega) (by omega)
  have hc : (0 ≤ (m.length : Int)) = True := eq_true (by omega)
  have a := hasr_ev (l := g) (c := 0) (n := m.length) (by omega) (by omega) (by omega)
  by_cases hb : badC g m.length x = true
  ·refine ⟨m.length, ?_⟩
   have he : anyB g (x :: r) m.length = true := by rw [anyB, hb]; rfl
   rw [he]
   have hb2 : (((x == -1) == hasW g 0 m.length) || decide (x < -1) || decide (500 ≤ x)) = true := hb
   rw [l62_5]
   cases h1 : ((x == -1) == hasW g 0 m.length) with
   | true => simp (maxSteps := 100000000) only [ivc, anf, vop, nilR, eq_self, Nat.reduceEqDiff, Nat.reduceLT, Nat.reduceAdd, Nat.reduceBEq, Int.reduceNeg, reduceCtorEq, ↓reduceIte, tyb, gR, hi', hgd, hc, a, h1]
   | false =>
    rw [h1] at hb2
    by_cases h2 : x < -1
    ·simp (maxSteps := 100000000) only [ivc, anf, vop, nilR, eq_self, Nat.reduceEqDiff, Nat.reduceLT, Nat.reduceAdd, Nat.reduceBEq, Int.reduceNeg, reduceCtorEq, ↓reduceIte, tyb, gR, hi', hgd, hc, a, h1, h2]
    ·have h3 : 500 ≤ x := by simpa [h2] using hb2
     simp (maxSteps := 100000000) only [ivc, anf, vop, nilR, eq_self, Nat.reduceEqDiff, Nat.reduceLT, Nat.reduceAdd, Nat.reduceBEq, Int.reduceNeg, reduceCtorEq, ↓reduceIte, tyb, gR, hi', hgd, hc, a, h1, h2, h3]
  ·obtain ⟨e, ih'⟩ := ih (m ++ [x]) (by simp [h])
   refine ⟨e, ?_⟩
   have hb' : badC g m.length x = false := by simpa using hb
   have he : anyB g (x :: r) m.length = anyB g r (m.length + 1) := by rw [anyB, hb']; rfl
   rw [he]
   simp only [List.length_append, List.length_cons, List.length_nil, Nat.zero_add, Int.natCast_add, Int.cast_ofNat_Int, gR] at ih'
   have hb2 : (((x == -1) == hasW g 0 m.length) || decide (x < -1) || decide (500 ≤ x)) = false := hb'
   rw [Bool.or_eq_false_iff, Bool.or_eq_false_iff] at hb2
   obtain ⟨⟨h1, h2⟩, h3⟩ := hb2
   have h2' : ¬ x < -1 := by simpa using h2
   have h3' : ¬ 500 ≤ x := by simpa using h3
   rw [l62_5]
   simp (maxSteps := 100000000) only [ivc, anf, vop, nilR, eq_self, Nat.reduceEqDiff, Nat.reduceLT, Nat.reduceAdd, Nat.reduceBEq, Int.reduceNeg, reduceCtorEq, ↓reduceIte, tyb, gR, hi', hgd, hw, hc, a, h1, h2', h3', ih']
def clash (g cs : List Int) : List Int -> Int -> Bool
 | [], _ => false
 | c :: r, n => (decide (0 ≤ c) && hasW (takW g n cs) 0 c) || clash g cs r (n + 1)
theorem clash_loop {g cs : List Int} (hg : g.length = 4008) (hl : cs.length ≤ 500) (hcs : ∀ c ∈ cs, c < 500) : ∀ (r m : List Int), cs = m ++ r ->
  ∃ e : Int, E.L 62 11 [gR g, .ro 1 (cs.map (AV.int .i64)), .int .i64 0, .ro 1 (cs.map (AV.int .i64)), .int .i64 cs.length, .int .i64 m.length] [] = some ((if clash g cs r m.length then .ret else .exit 2, [gR g, .ro 1 (cs.map (AV.int .i64)), .int .i64 (if clash g cs r m.length then 250 else 0), .ro 1 (cs.map (AV.int .i64)), .int .i64 cs.length, .int .i64 e], []), True) := by
 intro r
 induction r with
 | nil =>
  intro m h
  rw [List.append_nil] at h
  subst h
  refine ⟨cs.length, ?_⟩
  rw [l62_11]
  simp (maxSteps := 100000000) only [ivc, anf, nilR, eq_self, Nat.reduceEqDiff, Nat.reduceLT, Nat.reduceAdd, Nat.reduceBEq, reduceCtorEq, ↓reduceIte, tyb, gR, Int.lt_irrefl, clash]
 | cons x r ih =>
  intro m h
  have hn : m.length + (r.length + 1) = cs.length := by rw [h]; simp
  have hi' : (m.length : Int) < cs.length := by omega
  have hx := hcs x (by rw [h]; simp)
  have hgd := getD_map (f := AV.int .i64) (show cs[m.length]? = some x by rw [h]; simp)
  have hw : IntKind.i64.wrap ((m.length : Int) + 1) = m.length + 1 := wrap_id (by omega) (by omega)
  have hc : (0 ≤ (m.length : Int)) = True := eq_true (by omega)
  have a := taken_ev (g := g) (cs := cs) (s := m.length) hg ⟨by omega, by omega⟩ (by omega) (fun c hc => by have := hcs c hc; omega)
  have hT8 : (takW g m.length cs).length = 8 := takW_len
  obtain ⟨e, ih'⟩ := ih (m ++ [x]) (by simp [h])
  simp only [List.length_append, List.length_cons, List.length_nil, Nat.zero_add, Int.natCast_add, Int.cast_ofNat_Int, gR] at ih'
  by_cases h0 : 0 ≤ x
  ·have b := hasr_ev (l := takW g m.length cs) (c := 0) (n := x) h0 (by omega) (by omega)
   by_cases hh : hasW (takW g m.length cs) 0 x = true
   ·refine ⟨m.length, ?_⟩
    have he : clash g cs (x :: r) m.length = true := by rw [clash, hh]; simp [h0]
    rw [he]
    rw [hh] at b
    generalize takW g m.length cs = T at a b hT8
    have k1 := take8 hT8
    have k2 := put8 hT8
    simp only [gR] at a
    rw [l62_11]
    simp (maxSteps := 100000000) only [ivc, anf, nilR, salloc, eq_self, Nat.reduceEqDiff, Nat.reduceLT, Nat.reduceLeDiff, Nat.reduceAdd, Nat.reduceBEq, reduceCtorEq, ↓reduceIte, tyb, ↓zrep, zs_len, t90z, gR, agg_flats, agg_imm, hi', hgd, hc, a, b, h0, hT8, k2]
   ·refine ⟨e, ?_⟩
    have hh' : hasW (takW g m.length cs) 0 x = false := by simpa using hh
    have he : clash g cs (x :: r) m.length = clash g cs r (m.length + 1) := by rw [clash, hh']; simp
    rw [he]
    rw [hh'] at b
    generalize takW g m.length cs = T at a b hT8
    have k1 := take8 hT8
    have k2 := put8 hT8
    simp only [gR] at a
    rw [l62_11]
    simp (maxSteps := 100000000) only [ivc, anf, nilR, salloc, eq_self, Nat.reduceEqDiff, Nat.reduceLT, Nat.reduceLeDiff, Nat.reduceAdd, Nat.reduceBEq, reduceCtorEq, ↓reduceIte, tyb, ↓zrep, zs_len, t90z, gR, agg_flats, agg_imm, hi', hgd, hw, hc, a, b, h0, hT8, k2, ih']
  ·refine ⟨e, ?_⟩
   have he : clash g cs (x :: r) m.length = clash g cs r (m.length + 1) := by rw [clash]; simp [h0]
   rw [he]
   generalize takW g m.length cs = T at a hT8
   have k1 := take8 hT8
   have k2 := put8 hT8
   simp only [gR] at a
   rw [l62_11]
   simp (maxSteps := 100000000) only [ivc, anf, nilR, salloc, eq_self, Nat.reduceEqDiff, Nat.reduceLT, Nat.reduceLeDiff, Nat.reduceAdd, Nat.reduceBEq, reduceCtorEq, ↓reduceIte, tyb, ↓zrep, zs_len, t90z, gR, agg_flats, hi', hgd, hw, hc, a, h0, hT8, k2, ih']
def ccW (g cs : List Int) : Int := if cs.length = szM g 500 then if anyB g cs 0 then 3 else if clash g cs cs 0 then 250 else 0 else 4
theorem anyB_lt {g : List Int} : ∀ {l : List Int} {n : Int}, anyB g l n = false -> ∀ c ∈ l, -1 ≤ c /\ c < 500 := by
 intro l
 induction l with
 | nil => intro n _ c h; cases h
 | cons x l ih =>
  intro n h c hc
  rw [anyB, Bool.or_eq_false_iff] at h
  rcases List.mem_cons.1 hc with e | hc
  ·subst e
   have h1 := h.1
   simp only [badC, Bool.or_eq_false_iff, decide_eq_false_iff_not] at h1
   omega
  ·exact ih h.2 c hc
theorem cc62_ev {g cs : List Int} (hg : g.length = 4008) : E.F 62 [gR g, .ro 1 (cs.map (AV.int .i64))] [] = some ((.int .i64 (ccW g cs), []), True) := by
 have h1 := size_ev hg
 have hsz := szM_le g 500
 by_cases h : cs.length = szM g 500
 ·have hb : ((cs.length : Int) != (cs.length : Nat)) = false := by simp
  have hl5 : cs.length ≤ 500 := h ▸ hsz
  obtain ⟨e, l1⟩ := bad_loop hg hl5 cs [] rfl
  rw [<- h] at h1
  simp only [gR, List.length_nil, Int.natCast_zero] at h1 l1
  by_cases h2 : anyB g cs 0 = true
  ·have hcc : ccW g cs = 3 := by unfold ccW; rw [if_pos h, if_pos h2]
   simp only [h2, if_true] at l1
   rw [hcc, e62]
   simp (maxSteps := 100000000) only [ivc, anf, vlen, vbuiltin, nilR, eq_self, Nat.reduceEqDiff, Nat.reduceLT, Nat.reduceLeDiff, Nat.reduceAdd, Nat.reduceBEq, Int.reduceNeg, reduceCtorEq, ↓reduceIte, tyb, gR, h1, l1]
  ·have h2' : anyB g cs 0 = false := by simpa using h2
   obtain ⟨e2, l2⟩ := clash_loop hg hl5 (fun c hc => (anyB_lt h2' c hc).2) cs [] rfl
   simp only [gR, List.length_nil, Int.natCast_zero] at l2
   simp only [h2', Bool.false_eq_true, if_false] at l1
   by_cases h3 : clash g cs cs 0 = true
   ·have hcc : ccW g cs = 250 := by unfold ccW; rw [if_pos h, if_neg h2, if_pos h3]
    simp only [h3, if_true] at l2
    rw [hcc, e62]
    simp (maxSteps := 100000000) only [ivc, anf, vlen, vbuiltin, nilR, eq_self, Nat.reduceEqDiff, Nat.reduceLT, Nat.reduceLeDiff, Nat.reduceAdd, Nat.reduceBEq, Int.reduceNeg, reduceCtorEq, ↓reduceIte, tyb, gR, h1, l1, l2]
   ·have h3' : clash g cs cs 0 = false := by simpa using h3
    have hcc : ccW g cs = 0 := by unfold ccW; rw [if_pos h, if_neg h2, if_neg h3]
    simp only [h3', Bool.false_eq_true, if_false] at l2
    rw [hcc, e62]
    simp (maxSteps := 100000000) only [ivc, anf, vlen, vbuiltin, nilR, eq_self, Nat.reduceEqDiff, Nat.reduceLT, Nat.reduceLeDiff, Nat.reduceAdd, Nat.reduceBEq, Int.reduceNeg, reduceCtorEq, ↓reduceIte, tyb, gR, h1, l1, l2]
 ·have hb : ((cs.length : Int) != (szM g 500 : Nat)) = true := by simp; omega
  have hcc : ccW g cs = 4 := by unfold ccW; rw [if_neg h]
  simp only [gR] at h1
  rw [hcc, e62]
  simp (maxSteps := 100000000) only [ivc, anf, vlen, vbuiltin, nilR, eq_self, Nat.reduceEqDiff, Nat.reduceLT, Nat.reduceLeDiff, Nat.reduceAdd, Nat.reduceBEq, Int.reduceNeg, reduceCtorEq, ↓reduceIte, tyb, gR, h1, hb]
theorem cc_ev {w : Wd} {cs : List Int} (ok : ckM w = 0 -> okW w) : E.F 26 [wdV w, .ro 1 (cs.map (AV.int .i64))] [] = some ((.int .i64 (if ckM w = 0 then ccW (graphW w) cs else ckM w), []), True) := by
 have h1 := check_ev (w := w)
 rw [e26]
 by_cases h : ckM w = 0
 ·rw [if_pos h]
  rw [h] at h1
  have h2 := graph_ev (ok h)
  have hg : (graphW w).length = 4008 := graphW_len
  generalize graphW w = g at h2 hg ⊢
  have h3 := cc62_ev (cs := cs) hg
  simp only [wdV] at h1 h2
  simp only [gO, gR] at h2 h3
  simp (maxSteps := 100000000) only [ivc, anf, nilR, salloc, eq_self, Nat.reduceEqDiff, Nat.reduceLT, Nat.reduceLeDiff, Nat.reduceAdd, Nat.reduceMul, Nat.reduceBEq, reduceCtorEq, ↓reduceIte, tyb, wdV, ldb, agg_imm, h1, h2, h3]
 ·rw [if_neg h]
  have h' : (ckM w != 0) = true := by simp [h]
  simp only [wdV] at h1
  simp (maxSteps := 100000000) only [ivc, anf, nilR, salloc, eq_self, Nat.reduceEqDiff, Nat.reduceLT, Nat.reduceLeDiff, Nat.reduceAdd, Nat.reduceBEq, reduceCtorEq, ↓reduceIte, tyb, wdV, h1, h']
def colAt (cs : List Int) (s : Int) : Int := cs.getD s.toNat 0
def hasC (cs : List Int) (e : Et) : Prop := 0 ≤ e.s /\ e.s < cs.length /\ 0 ≤ colAt cs e.s /\ colAt cs e.s < 500
def tsM (cs : List Int) : List Et -> Int -> Int
 | [], n => n
 | x :: r, n => tsM cs r (maxI n (colAt cs x.s + 1))
theorem ts_loop {w : Wd} {cs : List Int} {k : Int} {c : List Et} (hl : c.length ≤ 1000) (hc : ∀ e ∈ c, hasC cs e) : ∀ (r m : List Et) (n : Int), c = m ++ r ->
  E.L 55 4 [.ro 1 (cs.map (AV.int .i64)), .int .i64 k, .ptr 60000 0 0, .int .i64 n, .ro 2 (c.map enV), .int .i64 c.length, .int .i64 m.length] (wO w) = some ((.exit 0, [.ro 1 (cs.map (AV.int .i64)), .int .i64 k, .ptr 60000 0 0, .int .i64 (tsM cs r n), .ro 2 (c.map enV), .int .i64 c.length, .int .i64 c.length], wO w), True) := by
 intro r
 induction r with
 | nil =>
  intro m n h
  rw [List.append_nil] at h
  subst h
  rw [l55_4]
  simp (maxSteps := 100000000) only [ivc, anf, nilR, eq_self, Nat.reduceEqDiff, Nat.reduceLT, Nat.reduceLeDiff, Nat.reduceAdd, Nat.reduceBEq, reduceCtorEq, ↓reduceIte, tyb, wO, wdV, Int.lt_irrefl, tsM]
 | cons x r ih =>
  intro m n h
  have hn : m.length + (r.length + 1) = c.length := by rw [h]; simp
  have hi' : (m.length : Int) < c.length := by omega
  have hx := hc x (by rw [h]; simp)
  obtain ⟨x1, x2, x3, x4⟩ := hx
  have hgd := getD_map (f := enV) (show c[m.length]? = some x by rw [h]; simp)
  have hw : IntKind.i64.wrap ((m.length : Int) + 1) = m.length + 1 := wrap_id (by omega) (by omega)
  have hw2 : IntKind.i64.wrap (colAt cs x.s + 1) = colAt cs x.s + 1 := wrap_id (by omega) (by omega)
  have hc0 : (0 ≤ (m.length : Int)) = True := eq_true (by omega)
  have q : (0 ≤ x.s /\ x.s < cs.length) = True := eq_true ⟨x1, x2⟩
  have g : (cs.map (AV.int .i64)).getD x.s.toNat .junk = .int .i64 (colAt cs x.s) := getI (by omega)
  have ih' := ih (m ++ [x]) (maxI n (colAt cs x.s + 1)) (by simp [h])
  simp only [List.length_append, List.length_cons, List.length_nil, Nat.zero_add, Int.natCast_add, Int.cast_ofNat_Int, wO, wdV, maxI] at ih'
  rw [l55_4]
  simp (maxSteps := 100000000) only [ivc, anf, vop, vbuiltin, nilR, salloc, eq_self, Nat.reduceEqDiff, Nat.reduceLT, Nat.reduceLeDiff, Nat.reduceAdd, Nat.reduceBEq, reduceCtorEq, ↓reduceIte, tyb, wO, wdV, enV, hi', hgd, hw, hw2, hc0, q, g, ih', tsM, maxI]
def tuM (cs : List Int) : List Et -> List Et -> List Et
 | [], t => t
 | x :: r, t => tuM cs r (t.set (colAt cs x.s).toNat x)
theorem tuM_len {cs : List Int} : ∀ {r t : List Et}, (tuM cs r t).length = t.length
 | [], _ => rfl
 | _ :: r, t => by rw [tuM, tuM_len, List.length_set]
theorem tu_loop {cs : List Int} {c : List Et} {n : Nat} (hl : c.length ≤ 1000) (hc : ∀ e ∈ c, hasC cs e /\ colAt cs e.s < n) : ∀ (r m t : List Et), c = m ++ r -> t.length = n ->
  E.L 55 10 [.ro 1 (cs.map (AV.int .i64)), .sl 60000 0 n, .ro 2 (c.map enV), .int .i64 c.length, .int .i64 m.length] [(60000, ⟨false, 2, t.map enV⟩)] = some ((.exit 2, [.ro 1 (cs.map (AV.int .i64)), .sl 60000 0 n, .ro 2 (c.map enV), .int .i64 c.length, .int .i64 c.length], [(60000, ⟨false, 2, (tuM cs r t).map enV⟩)]), True) := by
 intro r
 induction r with
 | nil =>
  intro m t h ht
  rw [List.append_nil] at h
  subst h
  rw [l55_10]
  simp (maxSteps := 100000000) only [ivc, anf, nilR, eq_self, Nat.reduceEqDiff, Nat.reduceLT, Nat.reduceLeDiff, Nat.reduceAdd, Nat.reduceBEq, reduceCtorEq, ↓reduceIte, tyb, Int.lt_irrefl, tuM]
 | cons x r ih =>
  intro m t h ht
  have hn : m.length + (r.length + 1) = c.length := by rw [h]; simp
  have hi' : (m.length : Int) < c.length := by omega
  obtain ⟨⟨x1, x2, x3, x4⟩, x5⟩ := hc x (by rw [h]; simp)
  have hgd := getD_map (f := enV) (show c[m.length]? = some x by rw [h]; simp)
  have hw : IntKind.i64.wrap ((m.length : Int) + 1) = m.length + 1 := wrap_id (by omega) (by omega)
  have hc0 : (0 ≤ (m.length : Int)) = True := eq_true (by omega)
  have q : (0 ≤ x.s /\ x.s < cs.length) = True := eq_true ⟨x1, x2⟩
  have q2 : (0 ≤ colAt cs x.s /\ colAt cs x.s < n) = True := eq_true ⟨x3, x5⟩
  have g : (cs.map (AV.int .i64)).getD x.s.toNat .junk = .int .i64 (colAt cs x.s) := getI (by omega)
  have g2 : (t.map enV).getD (colAt cs x.s).toNat .junk = .agg [.int .i64 (t.getD (colAt cs x.s).toNat ⟨0, 0⟩).s, .int .i64 (t.getD (colAt cs x.s).toNat ⟨0, 0⟩).m] := by
   have : (colAt cs x.s).toNat < t.length := by omega
   simp [List.getD_eq_getElem?_getD, List.getElem?_eq_getElem this, enV]
  have g3 : (t.map enV).set (colAt cs x.s).toNat (.agg [.int .i64 x.s, .int .i64 x.m]) = (t.set (colAt cs x.s).toNat x).map enV := set_map (f := enV)
  have ih' := ih (m ++ [x]) (t.set (colAt cs x.s).toNat x) (by simp [h]) (by rw [List.length_set, ht])
  simp only [List.length_append, List.length_cons, List.length_nil, Nat.zero_add, Int.natCast_add, Int.cast_ofNat_Int] at ih'
  rw [l55_10]
  simp (maxSteps := 100000000) only [ivc, anf, vop, nilR, salloc, eq_self, Nat.reduceEqDiff, Nat.reduceLT, Nat.reduceLeDiff, Nat.reduceAdd, Nat.reduceBEq, reduceCtorEq, ↓reduceIte, tyb, enV, hi', hgd, hw, hc0, q, q2, g, g2, g3, ih', tuM]
def noE : Et := ⟨-1, -1⟩
def reN (n : Nat) : List Et := List.replicate n noE
theorem rep_no {n : Nat} (hn : n ≤ 1000000) : E.F 59 [.sl 100000 0 1, .int .i64 n] [(100000, ⟨false, 2, [.agg [.int .i64 (-1), .int .i64 (-1)]]⟩)] = some ((.sl 200000 0 n, [(200000, ⟨false, 2, (reN n).map enV⟩), (100000, ⟨false, 2, [.agg [.int .i64 (-1), .int .i64 (-1)]]⟩)]), True) := rep2_ev (x := noE) hn
def tblM (cs : List Int) (c : List Et) : List Et := tuM cs c (reN (tsM cs c 0).toNat)
theorem tsM_rng {cs : List Int} : ∀ {c : List Et} {n : Int}, (∀ e ∈ c, hasC cs e) -> 0 ≤ n -> n ≤ 500 -> n ≤ tsM cs c n /\ tsM cs c n ≤ 500 /\ ∀ e ∈ c, colAt cs e.s < tsM cs c n
 | [], n, _, h0, h1 => ⟨Int.le_refl _, h1, fun e he => by cases he⟩
 | x :: c, n, h, h0, h1 => by
  have hx := h x (by simp)
  have hm : n ≤ maxI n (colAt cs x.s + 1) /\ maxI n (colAt cs x.s + 1) ≤ 500 /\ colAt cs x.s < maxI n (colAt cs x.s + 1) := by
   have := hx.2.2
   unfold maxI
   split <;> omega
  obtain ⟨a1, a2, a3⟩ := tsM_rng (c := c) (n := maxI n (colAt cs x.s + 1)) (fun e he => h e (by simp [he])) (by omega) hm.2.1
  rw [tsM]
  refine ⟨by omega, a2, fun e he => ?_⟩
  rcases List.mem_cons.1 he with rfl | he
  ·omega
  ·exact a3 e he
theorem table_ev {w : Wd} {cs : List Int} {k : Nat} {c : List Et} (hk : w.classes[k]? = some c) (hl : c.length ≤ 1000) (hc : ∀ e ∈ c, hasC cs e) (hn : w.classes.length ≤ 1000) :
  E.F 55 [wdV w, .ro 1 (cs.map (AV.int .i64)), .int .i64 k] [] = some ((.sl 200000 0 (tblM cs c).length, [(200000, ⟨false, 2, (tblM cs c).map enV⟩)]), True) := by
 obtain ⟨a1, a2, a3⟩ := tsM_rng (n := 0) hc (by omega) (by omega)
 have hkl := (List.getElem?_eq_some_iff.1 hk).1
 have h1 := ts_loop (w := w) (k := k) hl hc c [] 0 rfl
 have hlen : (tblM cs c).length = (tsM cs c 0).toNat := by rw [tblM, tuM_len, reN, List.length_replicate]
 have h2 := tu_loop (n := (tsM cs c 0).toNat) hl (fun e he => ⟨hc e he, by have := a3 e he; omega⟩) c [] (reN (tsM cs c 0).toNat) rfl (by rw [reN, List.length_replicate])
 have h3 := rep_no (n := (tsM cs c 0).toNat) (by omega)
 have e1 : (((tsM cs c 0).toNat : Nat) : Int) = tsM cs c 0 := by omega
 rw [e1] at h3
 have hgd := getD_map (f := clV) hk
 have q : (0 ≤ (k : Int) /\ (k : Int) < w.classes.length) = True := eq_true (by omega)
 rw [hlen]
 unfold tblM
 generalize (tsM cs c 0).toNat = N at h2 h3 ⊢
 simp only [List.length_nil, Int.natCast_zero, wO, wdV] at h1 h2
 rw [e55]
 simp (maxSteps := 100000000) only [ivc, anf, vop, vlen, vbuiltin, salloc, eq_self, Nat.reduceEqDiff, Nat.reduceLT, Nat.reduceLeDiff, Nat.reduceAdd, Nat.reduceMul, Nat.reduceBEq, Int.reduceNeg, reduceCtorEq, ↓reduceIte, tyb, wdV, clV, hgd, q, h1, h2, h3]
def i64r (x : Int) : Prop := -9223372036854775808 ≤ x /\ x ≤ 9223372036854775807
theorem getS {l : List Et} {i : Nat} (h : i < l.length) : (l.map enV).getD i .junk = .agg [.int .i64 (l.getD i ⟨0, 0⟩).s, .int .i64 (l.getD i ⟨0, 0⟩).m] := by
 simp [List.getD_eq_getElem?_getD, List.getElem?_eq_getElem h, enV]
def placeM (n : Int) (offs l : List Int) (c s : Int) : Option Int :=
 if c < 0 \/ (offs.length : Int) ≤ c \/ s < 0 \/ (l.length : Int) ≤ s \/ l.getD s.toNat 0 < 0 then none
 else if 0 ≤ offs.getD c.toNat 0 + l.getD s.toNat 0 /\ offs.getD c.toNat 0 + l.getD s.toNat 0 < n /\ offs.getD c.toNat 0 ≤ n then some (offs.getD c.toNat 0 + l.getD s.toNat 0) else none
def lookM (v : List Et) (offs l : List Int) (c s : Int) : Int := match placeM v.length offs l c s with
 | none => -1
 | some p => if (v.getD p.toNat ⟨0, 0⟩).s = s then (v.getD p.toNat ⟨0, 0⟩).m else -1
theorem look_ev {v : List Et} {offs l : List Int} {c s : Int} (hv : v.length ≤ 1000000) (ho : ∀ x ∈ offs, i64r x) (hl : ∀ x ∈ l, i64r x) :
  E.F 12 [.ro 2 (v.map enV), .ro 1 (offs.map (AV.int .i64)), .ro 1 (l.map (AV.int .i64)), .int .i64 c, .int .i64 s] [] = some ((.int .i64 (lookM v offs l c s), []), True) := by
 rw [e12]
 by_cases a1 : c < 0
 ·have e : lookM v offs l c s = -1 := by unfold lookM placeM; rw [if_pos (by omega)]
  rw [e]
  simp (maxSteps := 100000000) only [ivc, anf, vlen, vbuiltin, nilR, eq_self, Nat.reduceEqDiff, Nat.reduceLT, Nat.reduceLeDiff, Nat.reduceAdd, Nat.reduceBEq, Int.reduceLT, Int.reduceNeg, reduceCtorEq, ↓reduceIte, tyb, a1]
 by_cases a2 : (offs.length : Int) ≤ c
 ·have e : lookM v offs l c s = -1 := by unfold lookM placeM; rw [if_pos (by omega)]
  rw [e]
  simp (maxSteps := 100000000) only [ivc, anf, vlen, vbuiltin, nilR, eq_self, Nat.reduceEqDiff, Nat.reduceLT, Nat.reduceLeDiff, Nat.reduceAdd, Nat.reduceBEq, Int.reduceLT, Int.reduceNeg, reduceCtorEq, ↓reduceIte, tyb, a1, a2]
 by_cases a3 : s < 0
 ·have e : lookM v offs l c s = -1 := by unfold lookM placeM; rw [if_pos (by omega)]
  rw [e]
  simp (maxSteps := 100000000) only [ivc, anf, vlen, vbuiltin, nilR, eq_self, Nat.reduceEqDiff, Nat.reduceLT, Nat.reduceLeDiff, Nat.reduceAdd, Nat.reduceBEq, Int.reduceLT, Int.reduceNeg, reduceCtorEq, ↓reduceIte, tyb, a1, a2, a3]
 by_cases a4 : (l.length : Int) ≤ s
 ·have e : lookM v offs l c s = -1 := by unfold lookM placeM; rw [if_pos (by omega)]
  rw [e]
  simp (maxSteps := 100000000) only [ivc, anf, vlen, vbuiltin, nilR, eq_self, Nat.reduceEqDiff, Nat.reduceLT, Nat.reduceLeDiff, Nat.reduceAdd, Nat.reduceBEq, Int.reduceLT, Int.reduceNeg, reduceCtorEq, ↓reduceIte, tyb, a1, a2, a3, a4]
 have k1 := getI (l := l) (i := s.toNat) (by omega)
 have k2 := getI (l := offs) (i := c.toNat) (by omega)
 have r1 : i64r (l.getD s.toNat 0) := hl _ (by rw [List.getD_eq_getElem?_getD, List.getElem?_eq_getElem (by omega : s.toNat < l.length)]; exact List.getElem_mem _)
 have r2 : i64r (offs.getD c.toNat 0) := ho _ (by rw [List.getD_eq_getElem?_getD, List.getElem?_eq_getElem (by omega : c.toNat < offs.length)]; exact List.getElem_mem _)
 have b1 : (0 ≤ s /\ s < l.length) = True := eq_true (by omega)
 have b2 : (0 ≤ c /\ c < offs.length) = True := eq_true (by omega)
 unfold lookM placeM
 generalize l.getD s.toNat 0 = x at k1 r1 ⊢
 generalize offs.getD c.toNat 0 = o at k2 r2 ⊢
 unfold i64r at r1 r2
 by_cases a5 : x < 0
 ·rw [if_pos (by omega)]
  simp (maxSteps := 100000000) only [ivc, anf, vlen, vbuiltin, nilR, eq_self, Nat.reduceEqDiff, Nat.reduceLT, Nat.reduceLeDiff, Nat.reduceAdd, Nat.reduceBEq, Int.reduceNeg, reduceCtorEq, ↓reduceIte, tyb, a1, a2, a3, a4, b1, k1, a5]
 rw [if_neg (by omega)]
 have w1 : IntKind.i64.wrap (0 - x) = -x := by rw [Int.zero_sub]; exact wrap_id (by omega) (by omega)
 by_cases a6 : o < -x
 ·rw [if_neg (by omega)]
  simp (maxSteps := 100000000) only [ivc, anf, vop, vlen, vbuiltin, nilR, eq_self, Nat.reduceEqDiff, Nat.reduceLT, Nat.reduceLeDiff, Nat.reduceAdd, Nat.reduceBEq, Int.reduceNeg, reduceCtorEq, ↓reduceIte, tyb, a1, a2, a3, a4, b1, b2, k1, k2, a5, w1, a6]
 by_cases a7 : (v.length : Int) < o
 ·rw [if_neg (by omega)]
  simp (maxSteps := 100000000) only [ivc, anf, vop, vlen, vbuiltin, nilR, eq_self, Nat.reduceEqDiff, Nat.reduceLT, Nat.reduceLeDiff, Nat.reduceAdd, Nat.reduceBEq, Int.reduceNeg, reduceCtorEq, ↓reduceIte, tyb, a1, a2, a3, a4, b1, b2, k1, k2, a5, w1, a6, a7]
 have tail : ∀ φ : Prop, (0 ≤ o + x /\ o + x < v.length /\ o ≤ v.length) -> True := fun _ _ => trivial
 by_cases a8 : 0 ≤ o
 ·have w2 : IntKind.i64.wrap ((v.length : Int) - o) = v.length - o := wrap_id (by omega) (by omega)
  have w3 : IntKind.i64.wrap ((v.length : Int) - o - 1) = v.length - o - 1 := wrap_id (by omega) (by omega)
  by_cases a9 : (v.length : Int) - o - 1 < x
  ·rw [if_neg (by omega)]
   simp (maxSteps := 100000000) only [ivc, anf, vop, vlen, vbuiltin, nilR, eq_self, Nat.reduceEqDiff, Nat.reduceLT, Nat.reduceLeDiff, Nat.reduceAdd, Nat.reduceBEq, Int.reduceNeg, reduceCtorEq, ↓reduceIte, tyb, a1, a2, a3, a4, b1, b2, k1, k2, a5, w1, w2, w3, a6, a7, a8, a9]
  ·have w4 : IntKind.i64.wrap (o + x) = o + x := wrap_id (by omega) (by omega)
   have c1 : ¬ o + x < 0 := by omega
   have c2 : ¬ (v.length : Int) ≤ o + x := by omega
   have c3 : (0 ≤ o + x /\ o + x < v.length) = True := eq_true (by omega)
   have k3 := getS (l := v) (i := (o + x).toNat) (by omega)
   rw [if_pos (by omega)]
   by_cases d : (v.getD (o + x).toNat ⟨0, 0⟩).s = s
   ·have d' : ((v.getD (o + x).toNat ⟨0, 0⟩).s != s) = false := by rw [d]; simp
    simp only [if_pos d]
    simp (maxSteps := 100000000) only [ivc, anf, vop, vlen, vbuiltin, nilR, eq_self, Nat.reduceEqDiff, Nat.reduceLT, Nat.reduceLeDiff, Nat.reduceAdd, Nat.reduceBEq, Int.reduceNeg, reduceCtorEq, ↓reduceIte, tyb, a1, a2, a3, a4, b1, b2, k1, k2, k3, a5, w1, w2, w3, w4, a6, a7, a8, a9, c1, c2, c3, d']
   ·have d' : ((v.getD (o + x).toNat ⟨0, 0⟩).s != s) = true := bne_iff_ne.2 d
    simp only [if_neg d]
    simp (maxSteps := 100000000) only [ivc, anf, vop, vlen, vbuiltin, nilR, eq_self, Nat.reduceEqDiff, Nat.reduceLT, Nat.reduceLeDiff, Nat.reduceAdd, Nat.reduceBEq, Int.reduceNeg, reduceCtorEq, ↓reduceIte, tyb, a1, a2, a3, a4, b1, b2, k1, k2, k3, a5, w1, w2, w3, w4, a6, a7, a8, a9, c1, c2, c3, d']
 ·have w4 : IntKind.i64.wrap (o + x) = o + x := wrap_id (by omega) (by omega)
  have c1 : ¬ o + x < 0 := by omega
  by_cases c2 : (v.length : Int) ≤ o + x
  ·rw [if_neg (by omega)]
   by_cases a9 : IntKind.i64.wrap (IntKind.i64.wrap ((v.length : Int) - o) - 1) < x
   ·simp (maxSteps := 100000000) only [ivc, anf, vop, vlen, vbuiltin, nilR, eq_self, Nat.reduceEqDiff, Nat.reduceLT, Nat.reduceLeDiff, Nat.reduceAdd, Nat.reduceBEq, Int.reduceNeg, reduceCtorEq, ↓reduceIte, tyb, a1, a2, a3, a4, b1, b2, k1, k2, a5, w1, w4, a6, a7, a8, a9, c1, c2]
   ·simp (maxSteps := 100000000) only [ivc, anf, vop, vlen, vbuiltin, nilR, eq_self, Nat.reduceEqDiff, Nat.reduceLT, Nat.reduceLeDiff, Nat.reduceAdd, Nat.reduceBEq, Int.reduceNeg, reduceCtorEq, ↓reduceIte, tyb, a1, a2, a3, a4, b1, b2, k1, k2, a5, w1, w4, a6, a7, a8, a9, c1, c2]
  ·have c3 : (0 ≤ o + x /\ o + x < v.length) = True := eq_true (by omega)
   have k3 := getS (l := v) (i := (o + x).toNat) (by omega)
   rw [if_pos (by omega)]
   by_cases d : (v.getD (o + x).toNat ⟨0, 0⟩).s = s
   ·have d' : ((v.getD (o + x).toNat ⟨0, 0⟩).s != s) = false := by rw [d]; simp
    simp only [if_pos d]
    by_cases a9 : IntKind.i64.wrap (IntKind.i64.wrap ((v.length : Int) - o) - 1) < x
    ·simp (maxSteps := 100000000) only [ivc, anf, vop, vlen, vbuiltin, nilR, eq_self, Nat.reduceEqDiff, Nat.reduceLT, Nat.reduceLeDiff, Nat.reduceAdd, Nat.reduceBEq, Int.reduceNeg, reduceCtorEq, ↓reduceIte, tyb, a1, a2, a3, a4, b1, b2, k1, k2, k3, a5, w1, w4, a6, a7, a8, a9, c1, c2, c3, d']
    ·simp (maxSteps := 100000000) only [ivc, anf, vop, vlen, vbuiltin, nilR, eq_self, Nat.reduceEqDiff, Nat.reduceLT, Nat.reduceLeDiff, Nat.reduceAdd, Nat.reduceBEq, Int.reduceNeg, reduceCtorEq, ↓reduceIte, tyb, a1, a2, a3, a4, b1, b2, k1, k2, k3, a5, w1, w4, a6, a7, a8, a9, c1, c2, c3, d']
   ·have d' : ((v.getD (o + x).toNat ⟨0, 0⟩).s != s) = true := bne_iff_ne.2 d
    simp only [if_neg d]
    by_cases a9 : IntKind.i64.wrap (IntKind.i64.wrap ((v.length : Int) - o) - 1) < x
    ·simp (maxSteps := 100000000) only [ivc, anf, vop, vlen, vbuiltin, nilR, eq_self, Nat.reduceEqDiff, Nat.reduceLT, Nat.reduceLeDiff, Nat.reduceAdd, Nat.reduceBEq, Int.reduceNeg, reduceCtorEq, ↓reduceIte, tyb, a1, a2, a3, a4, b1, b2, k1, k2, k3, a5, w1, w4, a6, a7, a8, a9, c1, c2, c3, d']
    ·simp (maxSteps := 100000000) only [ivc, anf, vop, vlen, vbuiltin, nilR, eq_self, Nat.reduceEqDiff, Nat.reduceLT, Nat.reduceLeDiff, Nat.reduceAdd, Nat.reduceBEq, Int.reduceNeg, reduceCtorEq, ↓reduceIte, tyb, a1, a2, a3, a4, b1, b2, k1, k2, k3, a5, w1, w4, a6, a7, a8, a9, c1, c2, c3, d']
def lenS : List (List Et) -> Int
 | [] => 0
 | c :: r => c.length + lenS r
def lenB : List Bd -> Int
 | [] => 0
 | b :: r => b.ss.length + b.ms.length + b.cs.length + lenB r
theorem sm6_loop {w : Wd} {k : Int} (hl : w.classes.length ≤ 210) (hs : ∀ c ∈ w.classes, (c.length : Int) ≤ 1000000000000000) : ∀ (r m : List (List Et)) (n : Int) (b : Bool), w.classes = m ++ r -> 0 ≤ n -> n + r.length * 1000000000000000 ≤ 4000000000000000000 ->
  E.L 14 6 [.ptr 60000 0 0, .int .i64 n, .int .i64 k, .bool b, .int .i64 m.length] (wO w) = some ((.exit 0, [.ptr 60000 0 0, .int .i64 (n + lenS r), .int .i64 k, .bool (b || r.any bigC), .int .i64 w.classes.length], wO w), True) := by
 intro r
 induction r with
 | nil =>
  intro m n b h _ _
  rw [List.append_nil] at h
  rw [l14_6]
  simp (maxSteps := 100000000) only [ivc, anf, vop, vlen, vbuiltin, nilR, eq_self, Nat.reduceEqDiff, Nat.reduceLT, Nat.reduceLeDiff, Nat.reduceAdd, Nat.reduceBEq, reduceCtorEq, ↓reduceIte, tyb, wO, wdV, h, Int.lt_irrefl, List.any_nil, lenS, Int.add_zero]
 | cons x r ih =>
  intro m n b h h0 hb
  have hn : m.length + (r.length + 1) = w.classes.length := by rw [h]; simp
  have hi' : (m.length : Int) < w.classes.length := by omega
  have hg := getD_map (f := clV) (show w.classes[m.length]? = some x by rw [h]; simp)
  have hw : IntKind.i64.wrap ((m.length : Int) + 1) = m.length + 1 := wrap_id (by omega) (by omega)
  have hc : (0 ≤ (m.length : Int)) = True := eq_true (by omega)
  have hx : (x.length : Int) ≤ 1000000000000000 := hs x (by rw [h]; simp)
  rw [List.length_cons] at hb
  have hw2 : IntKind.i64.wrap (n + x.length) = n + x.length := wrap_id (by omega) (by omega)
  have ih' := ih (m ++ [x]) (n + x.length) (b || bigC x) (by simp [h]) (by omega) (by omega)
  have e : n + x.length + lenS r = n + (x.length + lenS r) := by omega
  simp only [List.length_append, List.length_cons, List.length_nil, Nat.zero_add, Int.natCast_add, Int.cast_ofNat_Int, wO, wdV, e] at ih'
  rw [l14_6]
  cases b with
  | true =>
   simp only [Bool.true_or] at ih'
   simp (maxSteps := 100000000) only [ivc, anf, vop, vlen, vbuiltin, nilR, eq_self, Nat.reduceEqDiff, Nat.reduceLT, Nat.reduceLeDiff, Nat.reduceAdd, Nat.reduceBEq, Int.reduceLT, reduceCtorEq, ↓reduceIte, tyb, wO, wdV, clV, hi', hg, hw, hc, hw2, ih', lenS]
  | false =>
   simp only [Bool.false_or, bigC] at ih'
   simp (maxSteps := 100000000) only [ivc, anf, vop, vlen, vbuiltin, nilR, eq_self, Nat.reduceEqDiff, Nat.reduceLT, Nat.reduceLeDiff, Nat.reduceAdd, Nat.reduceBEq, reduceCtorEq, ↓reduceIte, tyb, wO, wdV, clV, hi', hg, hw, hc, hw2, ih', lenS, List.any_cons, bigC]
theorem sm11_loop {w : Wd} {n : Int} (hl : w.bodies.length ≤ 510) (hs : ∀ b ∈ w.bodies, (b.ss.length : Int) ≤ 1000000000000000 /\ (b.ms.length : Int) ≤ 1000000000000000 /\ (b.cs.length : Int) ≤ 1000000000000000) : ∀ (r m : List Bd) (k : Int) (b : Bool), w.bodies = m ++ r -> 0 ≤ k -> k + r.length * 3000000000000000 ≤ 4000000000000000000 ->
  E.L 14 11 [.ptr 60000 0 0, .int .i64 n, .int .i64 k, .bool b, .int .i64 m.length] (wO w) = some ((.exit 2, [.ptr 60000 0 0, .int .i64 n, .int .i64 (k + lenB r), .bool (b || r.any bigB), .int .i64 w.bodies.length], wO w), True) := by
 intro r
 induction r with
 | nil =>
  intro m n b h _ _
  rw [List.append_nil] at h
  rw [l14_11]
  simp (maxSteps := 100000000) only [ivc, anf, vop, vlen, vbuiltin, nilR, eq_self, Nat.reduceEqDiff, Nat.reduceLT, Nat.reduceLeDiff, Nat.reduceAdd, Nat.reduceBEq, reduceCtorEq, ↓reduceIte, tyb, wO, wdV, h, Int.lt_irrefl, List.any_nil, lenB, Int.add_zero]
 | cons x r ih =>
  intro m k b h h0 hb
  have hn : m.length + (r.length + 1) = w.bodies.length := by rw [h]; simp
  have hi' : (m.length : Int) < w.bodies.length := by omega
  have hg := getD_map (f := bdV) (show w.bodies[m.length]? = some x by rw [h]; simp)
  have hw : IntKind.i64.wrap ((m.length : Int) + 1) = m.length + 1 := wrap_id (by omega) (by omega)
  have hc : (0 ≤ (m.length : Int)) = True := eq_true (by omega)
  obtain ⟨x1, x2, x3⟩ := hs x (by rw [h]; simp)
  rw [List.length_cons] at hb
  have w1 : IntKind.i64.wrap ((x.ss.length : Int) + x.ms.length) = (x.ss.length : Int) + x.ms.length := wrap_id (by omega) (by omega)
  have w2 : IntKind.i64.wrap ((x.ss.length : Int) + x.ms.length + x.cs.length) = (x.ss.length : Int) + x.ms.length + x.cs.length := wrap_id (by omega) (by omega)
  have w3 : IntKind.i64.wrap (k + ((x.ss.length : Int) + x.ms.length + x.cs.length)) = k + ((x.ss.length : Int) + x.ms.length + x.cs.length) := wrap_id (by omega) (by omega)
  have ih' := ih (m ++ [x]) (k + ((x.ss.length : Int) + x.ms.length + x.cs.length)) (b || bigB x) (by simp [h]) (by omega) (by omega)
  have e : k + ((x.ss.length : Int) + x.ms.length + x.cs.length) + lenB r = k + ((x.ss.length : Int) + x.ms.length + x.cs.length + lenB r) := by omega
  simp only [List.length_append, List.length_cons, List.length_nil, Nat.zero_add, Int.natCast_add, Int.cast_ofNat_Int, wO, wdV, e] at ih'
  rw [l14_11]
  cases b with
  | true =>
   simp only [Bool.true_or] at ih'
   simp (maxSteps := 100000000) only [ivc, anf, vop, vlen, vbuiltin, nilR, salloc, eq_self, Nat.reduceEqDiff, Nat.reduceLT, Nat.reduceLeDiff, Nat.reduceAdd, Nat.reduceBEq, Int.reduceLT, reduceCtorEq, ↓reduceIte, tyb, wO, wdV, bdV, hi', hg, hw, hc, w1, w2, w3, ih', lenB]
  | false =>
   have big : bigB x = (decide ((100 : Int) < x.ss.length) || decide ((100 : Int) < x.ms.length) || decide ((100 : Int) < x.cs.length)) := rfl
   simp only [Bool.false_or, big] at ih'
   rw [List.any_cons, big]
   by_cases b1 : (100 : Int) < x.ss.length
   ·simp only [b1, decide_true, Bool.true_or] at ih'
    simp (maxSteps := 100000000) only [ivc, anf, vop, vlen, vbuiltin, nilR, salloc, eq_self, Nat.reduceEqDiff, Nat.reduceLT, Nat.reduceLeDiff, Nat.reduceAdd, Nat.reduceBEq, Int.reduceLT, reduceCtorEq, ↓reduceIte, tyb, wO, wdV, bdV, hi', hg, hw, hc, w1, w2, w3, ih', lenB, b1]
   ·by_cases b2 : (100 : Int) < x.ms.length
    ·simp only [b1, b2, decide_true, Bool.true_or, Bool.or_true] at ih'
     simp (maxSteps := 100000000) only [ivc, anf, vop, vlen, vbuiltin, nilR, salloc, eq_self, Nat.reduceEqDiff, Nat.reduceLT, Nat.reduceLeDiff, Nat.reduceAdd, Nat.reduceBEq, Int.reduceLT, reduceCtorEq, ↓reduceIte, tyb, wO, wdV, bdV, hi', hg, hw, hc, w1, w2, w3, ih', lenB, b1, b2]
    ·simp only [b1, b2, decide_false, Bool.false_or] at ih'
     simp (maxSteps := 100000000) only [ivc, anf, vop, vlen, vbuiltin, nilR, salloc, eq_self, Nat.reduceEqDiff, Nat.reduceLT, Nat.reduceLeDiff, Nat.reduceAdd, Nat.reduceBEq, reduceCtorEq, ↓reduceIte, tyb, wO, wdV, bdV, hi', hg, hw, hc, w1, w2, w3, ih', lenB, b1, b2]
def manyM (w : Wd) : Bool := decide ((200 : Int) < w.classes.length) || decide ((500 : Int) < w.bodies.length) || decide ((64 : Int) < w.roots.length) || w.classes.any bigC || w.bodies.any bigB
def smallM (w : Wd) : Bool :=
 if (210 : Int) < w.classes.length \/ (510 : Int) < w.bodies.length \/ (70 : Int) < w.roots.length then false
 else if manyM w then decide (lenS w.classes < 500) && decide (lenB w.bodies < 500)
 else decide ((w.classes.length : Int) ≤ 12) && decide (lenS w.classes ≤ 60) && decide ((w.bodies.length : Int) ≤ 30) && decide (lenB w.bodies ≤ 100) && decide ((w.roots.length : Int) ≤ 10)
def inpW (w : Wd) : Prop := (∀ c ∈ w.classes, (c.length : Int) ≤ 1000000000000000) /\ ∀ b ∈ w.bodies, (b.ss.length : Int) ≤ 1000000000000000 /\ (b.ms.length : Int) ≤ 1000000000000000 /\ (b.cs.length : Int) ≤ 1000000000000000
theorem small_ev {w : Wd} (hw : inpW w) : E.F 14 [wdV w] [] = some ((.bool (smallM w), []), True) := by
 rw [e14]
 unfold smallM
 by_cases a1 : (210 : Int) < w.classes.length
 ·rw [if_pos (.inl a1)]
  simp (maxSteps := 100000000) only [ivc, anf, vop, vlen, vbuiltin, nilR, salloc, eq_self, Nat.reduceEqDiff, Nat.reduceLT, Nat.reduceLeDiff, Nat.reduceAdd, Nat.reduceBEq, Int.reduceLT, reduceCtorEq, ↓reduceIte, tyb, wdV, a1]
 by_cases a2 : (510 : Int) < w.bodies.length
 ·rw [if_pos (.inr (.inl a2))]
  simp (maxSteps := 100000000) only [ivc, anf, vop, vlen, vbuiltin, nilR, salloc, eq_self, Nat.reduceEqDiff, Nat.reduceLT, Nat.reduceLeDiff, Nat.reduceAdd, Nat.reduceBEq, Int.reduceLT, reduceCtorEq, ↓reduceIte, tyb, wdV, a1, a2]
 by_cases a3 : (70 : Int) < w.roots.length
 ·rw [if_pos (.inr (.inr a3))]
  simp (maxSteps := 100000000) only [ivc, anf, vop, vlen, vbuiltin, nilR, salloc, eq_self, Nat.reduceEqDiff, Nat.reduceLT, Nat.reduceLeDiff, Nat.reduceAdd, Nat.reduceBEq, reduceCtorEq, ↓reduceIte, tyb, wdV, a1, a2, a3]
 rw [if_neg (by omega)]
 have lp1 := fun b => sm6_loop (w := w) (k := 0) (by omega) hw.1 w.classes [] 0 b rfl (by omega) (by omega)
 have lp2 := fun n b => sm11_loop (w := w) (n := n) (by omega) hw.2 w.bodies [] 0 b rfl (by omega) (by omega)
 simp only [List.length_nil, Int.natCast_zero, Int.zero_add, wO, wdV] at lp1 lp2
 unfold manyM
 have hb : ((200 : Int) < w.classes.length /\ True /\ True) \/ (¬ (200 : Int) < w.classes.length /\ (500 : Int) < w.bodies.length /\ True) \/ (¬ (200 : Int) < w.classes.length /\ ¬ (500 : Int) < w.bodies.length /\ (64 : Int) < w.roots.length) \/ (¬ (200 : Int) < w.classes.length /\ ¬ (500 : Int) < w.bodies.length /\ ¬ (64 : Int) < w.roots.length) := by
  by_cases x1 : (200 : Int) < w.classes.length
  ·exact .inl ⟨x1, trivial, trivial⟩
  by_cases x2 : (500 : Int) < w.bodies.length
  ·exact .inr (.inl ⟨x1, x2, trivial⟩)
  by_cases x3 : (64 : Int) < w.roots.length
  ·exact .inr (.inr (.inl ⟨x1, x2, x3⟩))
  exact .inr (.inr (.inr ⟨x1, x2, x3⟩))
 rcases hb with ⟨b1, b2, b3⟩ | ⟨b1, b2, b3⟩ | ⟨b1, b2, b3⟩ | ⟨b1, b2, b3⟩
 rotate_right
 ·cases hA : w.classes.any bigC
  ·cases hB : w.bodies.any bigB
   ·by_cases q1 : (w.classes.length : Int) ≤ 12
    ·by_cases q2 : lenS w.classes ≤ 60
     ·by_cases q3 : (w.bodies.length : Int) ≤ 30
      ·by_cases q4 : lenB w.bodies ≤ 100
       ·simp (maxSteps := 100000000) only [ivc, anf, vop, vlen, vbuiltin, nilR, salloc, eq_self, Nat.reduceEqDiff, Nat.reduceLT, Nat.reduceLeDiff, Nat.reduceAdd, Nat.reduceBEq, reduceCtorEq, ↓reduceIte, tyb, wdV, a1, a2, a3, b1, b2, b3, lp1, lp2, hA, hB, q1, q2, q3, q4]
       ·simp (maxSteps := 100000000) only [ivc, anf, vop, vlen, vbuiltin, nilR, salloc, eq_self, Nat.reduceEqDiff, Nat.reduceLT, Nat.reduceLeDiff, Nat.reduceAdd, Nat.reduceBEq, Int.reduceLE, reduceCtorEq, ↓reduceIte, tyb, wdV, a1, a2, a3, b1, b2, b3, lp1, lp2, hA, hB, q1, q2, q3, q4]
      ·simp (maxSteps := 100000000) only [ivc, anf, vop, vlen, vbuiltin, nilR, salloc, eq_self, Nat.reduceEqDiff, Nat.reduceLT, Nat.reduceLeDiff, Nat.reduceAdd, Nat.reduceBEq, Int.reduceLE, reduceCtorEq, ↓reduceIte, tyb, wdV, a1, a2, a3, b1, b2, b3, lp1, lp2, hA, hB, q1, q2, q3]
     ·simp (maxSteps := 100000000) only [ivc, anf, vop, vlen, vbuiltin, nilR, salloc, eq_self, Nat.reduceEqDiff, Nat.reduceLT, Nat.reduceLeDiff, Nat.reduceAdd, Nat.reduceBEq, Int.reduceLE, reduceCtorEq, ↓reduceIte, tyb, wdV, a1, a2, a3, b1, b2, b3, lp1, lp2, hA, hB, q1, q2]
    ·simp (maxSteps := 100000000) only [ivc, anf, vop, vlen, vbuiltin, nilR, salloc, eq_self, Nat.reduceEqDiff, Nat.reduceLT, Nat.reduceLeDiff, Nat.reduceAdd, Nat.reduceBEq, Int.reduceLE, reduceCtorEq, ↓reduceIte, tyb, wdV, a1, a2, a3, b1, b2, b3, lp1, lp2, hA, hB, q1]
   ·by_cases q1 : lenS w.classes < 500
    ·simp (maxSteps := 100000000) only [ivc, anf, vop, vlen, vbuiltin, nilR, salloc, eq_self, Nat.reduceEqDiff, Nat.reduceLT, Nat.reduceLeDiff, Nat.reduceAdd, Nat.reduceBEq, reduceCtorEq, ↓reduceIte, tyb, wdV, a1, a2, a3, b1, b2, b3, lp1, lp2, hA, hB, q1]
    ·simp (maxSteps := 100000000) only [ivc, anf, vop, vlen, vbuiltin, nilR, salloc, eq_self, Nat.reduceEqDiff, Nat.reduceLT, Nat.reduceLeDiff, Nat.reduceAdd, Nat.reduceBEq, reduceCtorEq, ↓reduceIte, tyb, wdV, a1, a2, a3, b1, b2, b3, lp1, lp2, hA, hB, q1]
  ·by_cases q1 : lenS w.classes < 500
   ·simp (maxSteps := 100000000) only [ivc, anf, vop, vlen, vbuiltin, nilR, salloc, eq_self, Nat.reduceEqDiff, Nat.reduceLT, Nat.reduceLeDiff, Nat.reduceAdd, Nat.reduceBEq, reduceCtorEq, ↓reduceIte, tyb, wdV, a1, a2, a3, b1, b2, b3, lp1, lp2, hA, q1]
   ·simp (maxSteps := 100000000) only [ivc, anf, vop, vlen, vbuiltin, nilR, salloc, eq_self, Nat.reduceEqDiff, Nat.reduceLT, Nat.reduceLeDiff, Nat.reduceAdd, Nat.reduceBEq, reduceCtorEq, ↓reduceIte, tyb, wdV, a1, a2, a3, b1, b2, b3, lp1, lp2, hA, q1]
 all_goals
  by_cases q1 : lenS w.classes < 500
  ·simp (maxSteps := 100000000) only [ivc, anf, vop, vlen, vbuiltin, nilR, salloc, eq_self, Nat.reduceEqDiff, Nat.reduceLT, Nat.reduceLeDiff, Nat.reduceAdd, Nat.reduceBEq, reduceCtorEq, ↓reduceIte, tyb, wdV, a1, a2, a3, b1, b2, b3, lp1, lp2, q1]
  ·simp (maxSteps := 100000000) only [ivc, anf, vop, vlen, vbuiltin, nilR, salloc, eq_self, Nat.reduceEqDiff, Nat.reduceLT, Nat.reduceLeDiff, Nat.reduceAdd, Nat.reduceBEq, reduceCtorEq, ↓reduceIte, tyb, wdV, a1, a2, a3, b1, b2, b3, lp1, lp2, q1]
end Go.Proofs.YtikppcfabnnhfaaDoor

/- What all rows of this seat share: the table, types of what comes in. -/
namespace Go.Proofs.YtikppcfabnnhfaaDoor
open Go Go.Aw
set_option maxRecDepth 100000
theorem own : ownKnob Tryd.prog.godebug = none := by kernel_rfl
theorem laidOut : laidOutB Tryd.prog = true := by kernel_rfl
def laidL : List (String × DataW Unit) := [("math/bits.deBruijn64tab", Rows.laid_math_bits_deBruijn64tab)]
theorem gT : Tryd.prog.globalNamed "math/bits.deBruijn64tab" = some 0 := by kernel_rfl
theorem tab_laid {W : World} (h : laidMetH Tryd.prog laidL W) : ∀ g, RV ⟨noμ, oldB W⟩ noH W (G g) (.pointer (some ⟨g, 0, none⟩)) := by
 have h' : laidMet Tryd.prog (("math/bits.deBruijn64tab", Lib.tabData .u8 tab) :: []) W := by
  rw [MakeChecks.laidMetH_plain _ _ _ (by kernel_rfl)] at h
  exact h
 have ht := Lib.tabIs_of_head (t := 147) (e := 5) (n := 64) gT (by kernel_rfl) (by kernel_rfl) Tryd.underlying5 (by kernel_rfl) (by kernel_rfl) h'
 intro g
 by_cases hg : g = 0
 ·subst hg
  exact rop_table (by decide) fun i hi => ht.cell gT i hi
 ·rw [show G g = .junk from if_neg hg]
  exact .junk _
theorem door_met (os : Os) (args : Array Value) : laidMetH Tryd.prog laidL ((World.doorLaid Tryd.prog 400 os).forCall (fun _ _ => 0) ⟨#[], args, []⟩).memory :=
 laidMetH_of_parts3 (fuel := 8) (laidMet_of_run' 8 (by kernel_rfl) (by kernel_rfl)) (by kernel_rfl) (by kernel_rfl)
theorem wf64 {x : Int} (h : (Lit.int .i64 x).wf = true) : i64r x := by
 simp only [Lit.wf, Bool.and_eq_true, decide_eq_true_eq] at h
 exact h
theorem ints_of {n : Nat} {xs : List AV} (h : typed Tryd.prog n 23 xs) : ∃ l : List Int, (∀ x ∈ l, i64r x) /\ l.length ≤ maxLen /\ (l.length : Int) ≤ 17592186044416 /\ xs = [.ro 1 (l.map (AV.int .i64))] := by
 obtain ⟨m, es, hl, hb, he, rfl⟩ := typed_slice Tryd.underlying23 h
 obtain ⟨l, h1, rfl⟩ := list_map_of (f := AV.int .i64) (Q := fun x => i64r x) (es := es) fun y hy => by
  obtain ⟨k, hk, e⟩ := typed_int Tryd.underlying3 (he y hy).1
  have h2 := (he y hy).2
  simp only [isE, Tryd.underlying3] at h2
  rw [h2] at e
  exact ⟨k, wf64 hk, by simpa using e⟩
 rw [show Tryd.prog.bytesOf 3 = 8 by kernel_rfl, List.length_map] at hb
 exact ⟨l, h1, by simpa using hl, by unfold reachBytes at hb; omega, rfl⟩
theorem int_of {n : Nat} {xs : List AV} (h : typed Tryd.prog n 3 xs) : ∃ x, i64r x /\ xs = [.int .i64 x] := by
 obtain ⟨k, hk, e⟩ := typed_int Tryd.underlying3 h
 exact ⟨k, wf64 hk, e⟩
theorem pairs_of {u e n : Nat} {xs : List AV} {fs : Array Field} (hu : Tryd.prog.underlying u = some (.slice e)) (he : Tryd.prog.underlying e = some (.struct fs)) (hts : fs.toList.map (·.type) = [3, 3]) (hc : Tryd.prog.cellsOf e = 2) (hy : Tryd.prog.bytesOf e = 16) (h : typed Tryd.prog n u xs) :
  ∃ l : List Et, (∀ x ∈ l, i64r x.s /\ i64r x.m) /\ l.length ≤ maxLen /\ (l.length : Int) ≤ 17592186044416 /\ xs = [clV l] := by
 obtain ⟨m, es, hl, hb, hh, rfl⟩ := typed_slice hu h
 obtain ⟨l, h1, rfl⟩ := list_map_of (f := enV) (Q := fun x => i64r x.s /\ i64r x.m) (es := es) fun y hy => by
  obtain ⟨cs, rfl⟩ := isE_struct he (hh y hy).2
  obtain ⟨m, y0, r0, e0, h0, y1, r1, rfl, h1, rfl⟩ := typed_struct he (hh _ hy).1 hts
  obtain ⟨a, wa, rfl⟩ := int_of h0
  obtain ⟨b, wb, rfl⟩ := int_of h1
  exact ⟨⟨a, b⟩, ⟨wa, wb⟩, by show AV.agg cs = _; rw [show cs = _ from e0]; rfl⟩
 rw [hy, List.length_map] at hb
 exact ⟨l, h1, by simpa using hl, by unfold reachBytes at hb; omega, by rw [hc]; rfl⟩
def inpR (w : Wd) : Prop := (∀ c ∈ w.classes, ∀ e ∈ c, i64r e.s /\ i64r e.m) /\ (∀ b ∈ w.bodies, (∀ x ∈ b.ss, i64r x) /\ (∀ x ∈ b.ms, i64r x) /\ ∀ x ∈ b.cs, i64r x) /\ ∀ x ∈ w.roots, i64r x
theorem world_of {n : Nat} {xs : List AV} (h : typed Tryd.prog n 35 xs) : ∃ w : Wd, inpW w /\ inpR w /\ AV.agg xs = wdV w := by
 obtain ⟨m, y0, r0, rfl, h0, y1, r1, rfl, h1, y2, r2, rfl, h2, rfl⟩ := typed_struct Tryd.underlying35 h rfl
 obtain ⟨m0, es0, _, _, he0, rfl⟩ := typed_slice Tryd.underlying32 h0
 obtain ⟨m1, es1, _, _, he1, rfl⟩ := typed_slice Tryd.underlying33 h1
 obtain ⟨l2, q2, _, _, rfl⟩ := ints_of h2
 obtain ⟨cs, q0, rfl⟩ := list_map_of (f := clV) (Q := fun c => (∀ e ∈ c, i64r e.s /\ i64r e.m) /\ (c.length : Int) ≤ 1000000000000000) (es := es0) fun y hy => by
  obtain ⟨c, c1, _, c2, e⟩ := pairs_of Tryd.underlying36 Tryd.underlying71 rfl (by kernel_rfl) (by kernel_rfl) (he0 y hy).1
  have h3 := (he0 y hy).2
  simp only [isE, Tryd.underlying36] at h3
  rw [h3] at e
  exact ⟨c, ⟨c1, by omega⟩, by simpa using e⟩
 obtain ⟨bs, q1, rfl⟩ := list_map_of (f := bdV) (Q := fun b => ((∀ x ∈ b.ss, i64r x) /\ (∀ x ∈ b.ms, i64r x) /\ ∀ x ∈ b.cs, i64r x) /\ (b.ss.length : Int) ≤ 1000000000000000 /\ (b.ms.length : Int) ≤ 1000000000000000 /\ (b.cs.length : Int) ≤ 1000000000000000) (es := es1) fun y hy => by
  obtain ⟨cs, rfl⟩ := isE_struct Tryd.underlying83 (he1 y hy).2
  obtain ⟨m, z0, s0, e0, g0, z1, s1, rfl, g1, z2, s2, rfl, g2, rfl⟩ := typed_struct Tryd.underlying83 (he1 _ hy).1 rfl
  obtain ⟨a, wa, _, la, rfl⟩ := ints_of g0
  obtain ⟨b, wb, _, lb, rfl⟩ := ints_of g1
  obtain ⟨c, wc, _, lc, rfl⟩ := ints_of g2
  exact ⟨⟨a, b, c⟩, ⟨⟨wa, wb, wc⟩, by dsimp only; omega⟩, by show AV.agg cs = _; rw [show cs = _ from e0]; rfl⟩
 refine ⟨⟨cs, bs, l2⟩, ⟨fun c hc => (q0 c hc).2, fun b hb => (q1 b hb).2⟩, ⟨fun c hc => (q0 c hc).1, fun b hb => (q1 b hb).1, q2⟩, ?_⟩
 rw [show Tryd.prog.cellsOf 36 = 1 by kernel_rfl, show Tryd.prog.cellsOf 83 = 3 by kernel_rfl]
 rfl
end Go.Proofs.YtikppcfabnnhfaaDoor

/- The reference's Check. -/
namespace Go.Proofs.YtikppcfabnnhfaaDoor
open Go Go.Aw
set_option linter.unusedSimpArgs false
set_option linter.unusedVariables false
set_option maxRecDepth 100000
set_option maxHeartbeats 40000000
theorem be_loop {l : List Int} {n : Int} (hl : l.length ≤ 1000000) : ∀ (r m : List Int), l = m ++ r ->
  ∃ e : Int, E.L 66 3 [.ro 1 (l.map (AV.int .i64)), .int .i64 n, .bool false, .int .i64 m.length] [] = some ((if r.all (inR n) then .exit 0 else .ret, [.ro 1 (l.map (AV.int .i64)), .int .i64 n, .bool false, .int .i64 e], []), True) := by
 intro r
 induction r with
 | nil =>
  intro m h
  rw [List.append_nil] at h
  subst h
  refine ⟨l.length, ?_⟩
  have q : ((l.length : Int) < l.length) = False := eq_false (by omega)
  rw [l66_3]
  simp (maxSteps := 100000000) only [ivc, anf, vlen, vbuiltin, nilR, eq_self, Nat.reduceEqDiff, Nat.reduceLT, Nat.reduceBEq, reduceCtorEq, ↓reduceIte, tyb, q]
 | cons x r ih =>
  intro m h
  have hn : m.length + (r.length + 1) = l.length := by rw [h]; simp
  have hi' : (m.length : Int) < l.length := by omega
  have hg := getD_map (f := AV.int .i64) (show l[m.length]? = some x by rw [h]; simp)
  have hw : IntKind.i64.wrap ((m.length : Int) + 1) = m.length + 1 := wrap_id (by omega) (by omega)
  have hc : (0 ≤ (m.length : Int) /\ (m.length : Int) < l.length) = True := eq_true (by omega)
  obtain ⟨e, ih'⟩ := ih (m ++ [x]) (by simp [h])
  simp only [List.length_append, List.length_cons, List.length_nil, Nat.zero_add, Int.natCast_add, Int.cast_ofNat_Int] at ih'
  by_cases b1 : x < 0
  ·refine ⟨m.length, ?_⟩
   rw [l66_3]
   simp (maxSteps := 100000000) only [ivc, anf, vlen, vbuiltin, nilR, eq_self, Nat.reduceEqDiff, Nat.reduceLT, Nat.reduceBEq, reduceCtorEq, ↓reduceIte, tyb, hi', hg, b1, inR]
   try exact some_true (by omega)
  ·by_cases b2 : n ≤ x
   ·refine ⟨m.length, ?_⟩
    rw [l66_3]
    simp (maxSteps := 100000000) only [ivc, anf, vlen, vbuiltin, nilR, eq_self, Nat.reduceEqDiff, Nat.reduceLT, Nat.reduceBEq, reduceCtorEq, ↓reduceIte, tyb, hi', hg, b1, b2, inR]
    try exact some_true (by omega)
   ·refine ⟨e, ?_⟩
    rw [l66_3]
    simp (maxSteps := 100000000) only [ivc, anf, vlen, vbuiltin, nilR, eq_self, Nat.reduceEqDiff, Nat.reduceLT, Nat.reduceBEq, reduceCtorEq, ↓reduceIte, tyb, hi', hg, hw, b1, b2, inR, ih']
    try exact some_true (by omega)
theorem below_ev {l : List Int} {n : Int} (hl : l.length ≤ 1000000) : E.F 66 [.ro 1 (l.map (AV.int .i64)), .int .i64 n] [] = some ((.bool (l.all (inR n)), []), True) := by
 obtain ⟨e, lp⟩ := be_loop (n := n) hl l [] rfl
 simp only [List.length_nil, Int.natCast_zero] at lp
 rw [e66]
 cases hb : l.all (inR n) with
 | true =>
  simp only [hb, if_true] at lp
  simp (maxSteps := 100000000) only [ivc, anf, eq_self, Nat.reduceEqDiff, Nat.reduceLT, Nat.reduceLeDiff, Nat.reduceAdd, Nat.reduceBEq, reduceCtorEq, ↓reduceIte, lp]
 | false =>
  simp only [hb, Bool.false_eq_true, if_false] at lp
  simp (maxSteps := 100000000) only [ivc, anf, eq_self, Nat.reduceEqDiff, Nat.reduceLT, Nat.reduceLeDiff, Nat.reduceAdd, Nat.reduceBEq, reduceCtorEq, ↓reduceIte, lp]
theorem rk5_loop {w : Wd} (hl : w.classes.length ≤ 1000) : ∀ (r m : List (List Et)), w.classes = m ++ r ->
  ∃ e : Int, E.L 30 5 [.ptr 60000 0 0, .int .i64 0, .int .i64 m.length] (wO w) = some ((if r.any bigC then .ret else .exit 0, [.ptr 60000 0 0, .int .i64 (if r.any bigC then 4 else 0), .int .i64 e], wO w), True) := by
 intro r
 induction r with
 | nil =>
  intro m h
  rw [List.append_nil] at h
  refine ⟨m.length, ?_⟩
  rw [l30_5]
  simp (maxSteps := 100000000) only [ivc, anf, vop, vlen, vbuiltin, nilR, eq_self, Nat.reduceEqDiff, Nat.reduceLT, Nat.reduceLeDiff, Nat.reduceAdd, Nat.reduceBEq, reduceCtorEq, ↓reduceIte, tyb, wO, wdV, h, Int.lt_irrefl, List.any_nil]
 | cons x r ih =>
  intro m h
  have hn : m.length + (r.length + 1) = w.classes.length := by rw [h]; simp
  have hi' : (m.length : Int) < w.classes.length := by omega
  have hg := getD_map (f := clV) (show w.classes[m.length]? = some x by rw [h]; simp)
  have hw : IntKind.i64.wrap ((m.length : Int) + 1) = m.length + 1 := wrap_id (by omega) (by omega)
  have hc : (0 ≤ (m.length : Int) /\ (m.length : Int) < w.classes.length) = True := eq_true (by omega)
  obtain ⟨e, ih'⟩ := ih (m ++ [x]) (by simp [h])
  simp only [List.length_append, List.length_cons, List.length_nil, Nat.zero_add, Int.natCast_add, Int.cast_ofNat_Int, wO, wdV] at ih'
  by_cases b : (100 : Int) < x.length
  ·refine ⟨m.length, ?_⟩
   have hb : bigC x = true := decide_eq_true b
   rw [l30_5]
   simp (maxSteps := 100000000) only [ivc, anf, vop, vlen, vbuiltin, nilR, eq_self, Nat.reduceEqDiff, Nat.reduceLT, Nat.reduceLeDiff, Nat.reduceAdd, Nat.reduceBEq, reduceCtorEq, ↓reduceIte, tyb, wO, wdV, clV, hi', hg, b, List.any_cons, hb]
   try exact some_true (by omega)
  ·refine ⟨e, ?_⟩
   have hb : bigC x = false := decide_eq_false b
   rw [l30_5]
   simp (maxSteps := 100000000) only [ivc, anf, vop, vlen, vbuiltin, nilR, eq_self, Nat.reduceEqDiff, Nat.reduceLT, Nat.reduceLeDiff, Nat.reduceAdd, Nat.reduceBEq, reduceCtorEq, ↓reduceIte, tyb, wO, wdV, clV, hi', hg, hw, b, List.any_cons, hb, ih']
   try exact some_true (by omega)
theorem rk10_loop {w : Wd} (hl : w.bodies.length ≤ 1000) : ∀ (r m : List Bd), w.bodies = m ++ r ->
  ∃ e : Int, E.L 30 10 [.ptr 60000 0 0, .int .i64 0, .int .i64 m.length] (wO w) = some ((if r.any bigB then .ret else .exit 2, [.ptr 60000 0 0, .int .i64 (if r.any bigB then 4 else 0), .int .i64 e], wO w), True) := by
 intro r
 induction r with
 | nil =>
  intro m h
  rw [List.append_nil] at h
  refine ⟨m.length, ?_⟩
  rw [l30_10]
  simp (maxSteps := 100000000) only [ivc, anf, vop, vlen, vbuiltin, nilR, eq_self, Nat.reduceEqDiff, Nat.reduceLT, Nat.reduceLeDiff, Nat.reduceAdd, Nat.reduceBEq, reduceCtorEq, ↓reduceIte, tyb, wO, wdV, h, Int.lt_irrefl, List.any_nil]
 | cons x r ih =>
  intro m h
  have hn : m.length + (r.length + 1) = w.bodies.length := by rw [h]; simp
  have hi' : (m.length : Int) < w.bodies.length := by omega
  have hg := getD_map (f := bdV) (show w.bodies[m.length]? = some x by rw [h]; simp)
  have hw : IntKind.i64.wrap ((m.length : Int) + 1) = m.length + 1 := wrap_id (by omega) (by omega)
  have hc : (0 ≤ (m.length : Int) /\ (m.length : Int) < w.bodies.length) = True := eq_true (by omega)
  obtain ⟨e, ih'⟩ := ih (m ++ [x]) (by simp [h])
  simp only [List.length_append, List.length_cons, List.length_nil, Nat.zero_add, Int.natCast_add, Int.cast_ofNat_Int, wO, wdV] at ih'
  have big : bigB x = (decide ((100 : Int) < x.ss.length) || decide ((100 : Int) < x.ms.length) || decide ((100 : Int) < x.cs.length)) := rfl
  by_cases b1 : (100 : Int) < x.ss.length
  ·refine ⟨m.length, ?_⟩
   rw [l30_10]
   simp (maxSteps := 100000000) only [ivc, anf, vop, vlen, vbuiltin, nilR, salloc, eq_self, Nat.reduceEqDiff, Nat.reduceLT, Nat.reduceLeDiff, Nat.reduceAdd, Nat.reduceBEq, Int.reduceLT, reduceCtorEq, ↓reduceIte, tyb, wO, wdV, bdV, hi', hg, b1, List.any_cons, big]
   try exact some_true (by omega)
  ·by_cases b2 : (100 : Int) < x.ms.length
   ·refine ⟨m.length, ?_⟩
    rw [l30_10]
    simp (maxSteps := 100000000) only [ivc, anf, vop, vlen, vbuiltin, nilR, salloc, eq_self, Nat.reduceEqDiff, Nat.reduceLT, Nat.reduceLeDiff, Nat.reduceAdd, Nat.reduceBEq, Int.reduceLT, reduceCtorEq, ↓reduceIte, tyb, wO, wdV, bdV, hi', hg, b1, b2, List.any_cons, big]
    try exact some_true (by omega)
   ·by_cases b3 : (100 : Int) < x.cs.length
    ·refine ⟨m.length, ?_⟩
     rw [l30_10]
     simp (maxSteps := 100000000) only [ivc, anf, vop, vlen, vbuiltin, nilR, salloc, eq_self, Nat.reduceEqDiff, Nat.reduceLT, Nat.reduceLeDiff, Nat.reduceAdd, Nat.reduceBEq, reduceCtorEq, ↓reduceIte, tyb, wO, wdV, bdV, hi', hg, b1, b2, b3, List.any_cons, big]
     try exact some_true (by omega)
    ·refine ⟨e, ?_⟩
     rw [l30_10]
     simp (maxSteps := 100000000) only [ivc, anf, vop, vlen, vbuiltin, nilR, salloc, eq_self, Nat.reduceEqDiff, Nat.reduceLT, Nat.reduceLeDiff, Nat.reduceAdd, Nat.reduceBEq, reduceCtorEq, ↓reduceIte, tyb, wO, wdV, bdV, hi', hg, hw, b1, b2, b3, List.any_cons, big, ih']
     try exact some_true (by omega)
theorem rk27_loop {w : Wd} (hl : w.bodies.length ≤ 1000) (hs : ∀ b ∈ w.bodies, b.ss.length ≤ 1000 /\ b.ms.length ≤ 1000 /\ b.cs.length ≤ 1000) : ∀ (r m : List Bd), w.bodies = m ++ r ->
  ∃ e : Int, E.L 30 27 [.ptr 60000 0 0, .int .i64 0, .int .i64 m.length] (wO w) = some ((if r.any (badB w.bodies.length w.classes.length) then .ret else .exit 8, [.ptr 60000 0 0, .int .i64 (if r.any (badB w.bodies.length w.classes.length) then 3 else 0), .int .i64 e], wO w), True) := by
 intro r
 induction r with
 | nil =>
  intro m h
  rw [List.append_nil] at h
  refine ⟨m.length, ?_⟩
  rw [l30_27]
  simp (maxSteps := 100000000) only [ivc, anf, vop, vlen, vbuiltin, nilR, eq_self, Nat.reduceEqDiff, Nat.reduceLT, Nat.reduceLeDiff, Nat.reduceAdd, Nat.reduceBEq, reduceCtorEq, ↓reduceIte, tyb, wO, wdV, h, Int.lt_irrefl, List.any_nil]
 | cons x r ih =>
  intro m h
  have hn : m.length + (r.length + 1) = w.bodies.length := by rw [h]; simp
  have hi' : (m.length : Int) < w.bodies.length := by omega
  have hg := getD_map (f := bdV) (show w.bodies[m.length]? = some x by rw [h]; simp)
  have hw : IntKind.i64.wrap ((m.length : Int) + 1) = m.length + 1 := wrap_id (by omega) (by omega)
  have hc : (0 ≤ (m.length : Int) /\ (m.length : Int) < w.bodies.length) = True := eq_true (by omega)
  obtain ⟨x1, x2, x3⟩ := hs x (by rw [h]; simp)
  have k1 := below_ev (l := x.ss) (n := 500) (by omega)
  have k2 := below_ev (l := x.ms) (n := w.bodies.length) (by omega)
  have k3 := below_ev (l := x.cs) (n := w.classes.length) (by omega)
  obtain ⟨e, ih'⟩ := ih (m ++ [x]) (by simp [h])
  simp only [List.length_append, List.length_cons, List.length_nil, Nat.zero_add, Int.natCast_add, Int.cast_ofNat_Int, wO, wdV] at ih'
  cases b1 : x.ss.all (inR 500) with
  | false =>
   rw [b1] at k1
   refine ⟨m.length, ?_⟩
   rw [l30_27]
   simp (maxSteps := 100000000) only [ivc, anf, vop, vlen, vbuiltin, nilR, salloc, eq_self, Nat.reduceEqDiff, Nat.reduceLT, Nat.reduceLeDiff, Nat.reduceAdd, Nat.reduceBEq, reduceCtorEq, ↓reduceIte, tyb, wO, wdV, bdV, hi', hg, k1, List.any_cons, badB, b1]
   try exact some_true (by omega)
  | true =>
   rw [b1] at k1
   cases b2 : x.ms.all (inR w.bodies.length) with
   | false =>
    rw [b2] at k2
    refine ⟨m.length, ?_⟩
    rw [l30_27]
    simp (maxSteps := 100000000) only [ivc, anf, vop, vlen, vbuiltin, nilR, salloc, eq_self, Nat.reduceEqDiff, Nat.reduceLT, Nat.reduceLeDiff, Nat.reduceAdd, Nat.reduceBEq, reduceCtorEq, ↓reduceIte, tyb, wO, wdV, bdV, hi', hg, k1, k2, List.any_cons, badB, b1, b2]
    try exact some_true (by omega)
   | true =>
    rw [b2] at k2
    cases b3 : x.cs.all (inR w.classes.length) with
    | false =>
     rw [b3] at k3
     refine ⟨m.length, ?_⟩
     rw [l30_27]
     simp (maxSteps := 100000000) only [ivc, anf, vop, vlen, vbuiltin, nilR, salloc, eq_self, Nat.reduceEqDiff, Nat.reduceLT, Nat.reduceLeDiff, Nat.reduceAdd, Nat.reduceBEq, reduceCtorEq, ↓reduceIte, tyb, wO, wdV, bdV, hi', hg, k1, k2, k3, List.any_cons, badB, b1, b2, b3]
     try exact some_true (by omega)
    | true =>
     rw [b3] at k3
     refine ⟨e, ?_⟩
     rw [l30_27]
     simp (maxSteps := 100000000) only [ivc, anf, vop, vlen, vbuiltin, nilR, salloc, eq_self, Nat.reduceEqDiff, Nat.reduceLT, Nat.reduceLeDiff, Nat.reduceAdd, Nat.reduceBEq, reduceCtorEq, ↓reduceIte, tyb, wO, wdV, bdV, hi', hg, hw, k1, k2, k3, List.any_cons, badB, b1, b2, b3, ih']
     try exact some_true (by omega)
def rkP (m : List Et) : Option Int := m.getLast?.map Et.s
theorem rkP_app {m : List Et} {x : Et} : rkP (m ++ [x]) = some x.s := by simp [rkP]
theorem badE_iff' {nb : Int} {e : Et} : badE nb e = false ↔ (0 ≤ e.s /\ e.s < 500) /\ 0 ≤ e.m /\ e.m < nb := by
 simp only [badE, Bool.or_eq_false_iff, decide_eq_false_iff_not]
 omega
theorem ckC_bad {nb : Int} {p : Option Int} {e : Et} {r : List Et} (h : badE nb e = true) : ckC nb p (e :: r) = 3 := by
 cases p <;> exact if_pos h
theorem ckC_no1 {nb : Int} {e : Et} {r : List Et} (h : badE nb e = false) : ckC nb none (e :: r) = ckC nb (some e.s) r := by
 show (if badE nb e = true then (3 : Int) else if false = true then 7 else ckC nb (some e.s) r) = _
 rw [h]
 rfl
theorem ckC_le {nb q : Int} {e : Et} {r : List Et} (h : badE nb e = false) (g : e.s ≤ q) : ckC nb (some q) (e :: r) = 7 := by
 show (if badE nb e = true then (3 : Int) else if decide (e.s ≤ q) = true then 7 else ckC nb (some e.s) r) = _
 rw [h, decide_eq_true g]
 rfl
theorem ckC_gt {nb q : Int} {e : Et} {r : List Et} (h : badE nb e = false) (g : ¬ e.s ≤ q) : ckC nb (some q) (e :: r) = ckC nb (some e.s) r := by
 show (if badE nb e = true then (3 : Int) else if decide (e.s ≤ q) = true then 7 else ckC nb (some e.s) r) = _
 rw [h, decide_eq_false g]
 rfl
theorem rk20_loop {w : Wd} {k : Int} {l : List Et} (hl : l.length ≤ 1000000) (hb : w.bodies.length ≤ 1000) : ∀ (r m : List Et), l = m ++ r ->
  ∃ e : Int, E.L 30 20 [.ptr 60000 0 0, .int .i64 0, .int .i64 k, .ro 2 (l.map enV), .int .i64 m.length] (wO w) = some ((if ckC w.bodies.length (rkP m) r = 0 then .exit 6 else .ret, [.ptr 60000 0 0, .int .i64 (ckC w.bodies.length (rkP m) r), .int .i64 k, .ro 2 (l.map enV), .int .i64 e], wO w), True) := by
 intro r
 induction r with
 | nil =>
  intro m h
  rw [List.append_nil] at h
  subst h
  refine ⟨l.length, ?_⟩
  have q : ((l.length : Int) < l.length) = False := eq_false (by omega)
  rw [l30_20, show ckC w.bodies.length (rkP l) [] = 0 from rfl]
  simp (maxSteps := 100000000) only [ivc, anf, vlen, vbuiltin, nilR, eq_self, Nat.reduceEqDiff, Nat.reduceLT, Nat.reduceLeDiff, Nat.reduceAdd, Nat.reduceBEq, reduceCtorEq, ↓reduceIte, tyb, wO, wdV, q]
 | cons x r ih =>
  intro m h
  have hn : m.length + (r.length + 1) = l.length := by rw [h]; simp
  have hi' : (m.length : Int) < l.length := by omega
  have hg := getD_map (f := enV) (show l[m.length]? = some x by rw [h]; simp)
  have hw : IntKind.i64.wrap ((m.length : Int) + 1) = m.length + 1 := wrap_id (by omega) (by omega)
  have hc : (0 ≤ (m.length : Int) /\ (m.length : Int) < l.length) = True := eq_true (by omega)
  obtain ⟨e, ih'⟩ := ih (m ++ [x]) (by simp [h])
  rw [rkP_app] at ih'
  simp only [List.length_append, List.length_cons, List.length_nil, Nat.zero_add, Int.natCast_add, Int.cast_ofNat_Int, wO, wdV] at ih'
  by_cases c1 : x.s < 0
  ·refine ⟨m.length, ?_⟩
   rw [ckC_bad (by simp [badE, c1]), l30_20]
   simp (maxSteps := 100000000) only [ivc, anf, vop, vlen, vbuiltin, nilR, eq_self, Nat.reduceEqDiff, Nat.reduceLT, Nat.reduceLeDiff, Nat.reduceAdd, Nat.reduceBEq, Int.reduceEq, reduceCtorEq, ↓reduceIte, tyb, wO, wdV, enV, hi', hg, c1]
   try exact some_true (by omega)
  by_cases c2 : (499 : Int) < x.s
  ·refine ⟨m.length, ?_⟩
   rw [ckC_bad (by simp [badE]; omega), l30_20]
   simp (maxSteps := 100000000) only [ivc, anf, vop, vlen, vbuiltin, nilR, eq_self, Nat.reduceEqDiff, Nat.reduceLT, Nat.reduceLeDiff, Nat.reduceAdd, Nat.reduceBEq, Int.reduceEq, reduceCtorEq, ↓reduceIte, tyb, wO, wdV, enV, hi', hg, c1, c2]
   try exact some_true (by omega)
  by_cases c3 : x.m < 0
  ·refine ⟨m.length, ?_⟩
   rw [ckC_bad (by simp [badE]; omega), l30_20]
   simp (maxSteps := 100000000) only [ivc, anf, vop, vlen, vbuiltin, nilR, eq_self, Nat.reduceEqDiff, Nat.reduceLT, Nat.reduceLeDiff, Nat.reduceAdd, Nat.reduceBEq, Int.reduceEq, reduceCtorEq, ↓reduceIte, tyb, wO, wdV, enV, hi', hg, c1, c2, c3]
   try exact some_true (by omega)
  by_cases c4 : (w.bodies.length : Int) ≤ x.m
  ·refine ⟨m.length, ?_⟩
   rw [ckC_bad (by simp [badE]; omega), l30_20]
   simp (maxSteps := 100000000) only [ivc, anf, vop, vlen, vbuiltin, nilR, eq_self, Nat.reduceEqDiff, Nat.reduceLT, Nat.reduceLeDiff, Nat.reduceAdd, Nat.reduceBEq, Int.reduceEq, reduceCtorEq, ↓reduceIte, tyb, wO, wdV, enV, hi', hg, c1, c2, c3, c4]
   try exact some_true (by omega)
  have good : badE w.bodies.length x = false := badE_iff'.2 ⟨by omega, by omega⟩
  cases hq : m.getLast? with
  | none =>
   have hm : m = [] := List.getLast?_eq_none_iff.1 hq
   subst hm
   have e1 : rkP [] = none := rfl
   rw [e1, ckC_no1 good]
   refine ⟨e, ?_⟩
   simp only [List.length_nil, Int.natCast_zero, Int.zero_add] at ih' hg hw hc hi' ⊢
   generalize ckC w.bodies.length (some x.s) r = er at ih' ⊢
   rw [l30_20]
   simp (maxSteps := 100000000) only [ivc, anf, vop, vlen, vbuiltin, nilR, eq_self, Nat.reduceEqDiff, Nat.reduceLT, Nat.reduceLeDiff, Nat.reduceAdd, Nat.reduceBEq, Int.reduceLE, Int.reduceNeg, Int.reduceToNat, Int.reduceAdd, Int.reduceSub, reduceCtorEq, ↓reduceIte, tyb, wO, wdV, enV, hi', hg, hw, c1, c2, c3, c4, Int.lt_irrefl, ih']
   try exact some_true (by omega)
  | some q =>
   have e1 : rkP m = some q.s := by unfold rkP; rw [hq]; rfl
   rw [e1]
   have hml : 0 < m.length := by
    cases m with
    | nil => cases hq
    | cons _ _ => simp
   have hlq : l[m.length - 1]? = some q := by
    rw [h, List.getElem?_append, if_pos (by omega)]
    rw [List.getLast?_eq_getElem?] at hq
    exact hq
   have hg2 := getD_map (f := enV) hlq
   have p1 : (0 < (m.length : Int)) = True := eq_true (by omega)
   have p2 : IntKind.i64.wrap ((m.length : Int) - 1) = m.length - 1 := wrap_id (by omega) (by omega)
   have p3 : (0 ≤ (m.length : Int) - 1 /\ (m.length : Int) - 1 < l.length) = True := eq_true (by omega)
   have p4 : ((m.length : Int) - 1).toNat = m.length - 1 := by omega
   by_cases c5 : x.s ≤ q.s
   ·refine ⟨m.length, ?_⟩
    rw [ckC_le good c5, l30_20]
    simp (maxSteps := 100000000) only [ivc, anf, vop, vlen, vbuiltin, nilR, eq_self, Nat.reduceEqDiff, Nat.reduceLT, Nat.reduceLeDiff, Nat.reduceAdd, Nat.reduceBEq, Int.reduceEq, reduceCtorEq, ↓reduceIte, tyb, wO, wdV, enV, hi', hg, hg2, c1, c2, c3, c4, c5, p1, p2, p3, p4]
    try exact some_true (by omega)
   ·refine ⟨e, ?_⟩
    rw [ckC_gt good c5]
    generalize ckC w.bodies.length (some x.s) r = er at ih' ⊢
    rw [l30_20]
    simp (maxSteps := 100000000) only [ivc, anf, vop, vlen, vbuiltin, nilR, eq_self, Nat.reduceEqDiff, Nat.reduceLT, Nat.reduceLeDiff, Nat.reduceAdd, Nat.reduceBEq, reduceCtorEq, ↓reduceIte, tyb, wO, wdV, enV, hi', hg, hg2, hw, c1, c2, c3, c4, c5, p1, p2, p3, p4, ih']
    try exact some_true (by omega)
theorem rk16_loop {w : Wd} (hl : w.classes.length ≤ 1000) (hb : w.bodies.length ≤ 1000) (hs : ∀ c ∈ w.classes, c.length ≤ 1000) : ∀ (r m : List (List Et)), w.classes = m ++ r ->
  ∃ e : Int, E.L 30 16 [.ptr 60000 0 0, .int .i64 0, .int .i64 m.length] (wO w) = some ((if ckCs w.bodies.length r = 0 then .exit 4 else .ret, [.ptr 60000 0 0, .int .i64 (ckCs w.bodies.length r), .int .i64 e], wO w), True) := by
 intro r
 induction r with
 | nil =>
  intro m h
  rw [List.append_nil] at h
  refine ⟨m.length, ?_⟩
  rw [l30_16, show ckCs w.bodies.length [] = 0 from rfl]
  simp (maxSteps := 100000000) only [ivc, anf, vop, vlen, vbuiltin, nilR, eq_self, Nat.reduceEqDiff, Nat.reduceLT, Nat.reduceLeDiff, Nat.reduceAdd, Nat.reduceBEq, reduceCtorEq, ↓reduceIte, tyb, wO, wdV, h, Int.lt_irrefl]
 | cons x r ih =>
  intro m h
  have hn : m.length + (r.length + 1) = w.classes.length := by rw [h]; simp
  have hi' : (m.length : Int) < w.classes.length := by omega
  have hg := getD_map (f := clV) (show w.classes[m.length]? = some x by rw [h]; simp)
  have hw : IntKind.i64.wrap ((m.length : Int) + 1) = m.length + 1 := wrap_id (by omega) (by omega)
  have hc : (0 ≤ (m.length : Int) /\ (m.length : Int) < w.classes.length) = True := eq_true (by omega)
  have hx : x.length ≤ 1000 := hs x (by rw [h]; simp)
  obtain ⟨e1, lp⟩ := rk20_loop (w := w) (k := m.length) (l := x) (by omega) hb x [] rfl
  rw [show rkP [] = none from rfl] at lp
  obtain ⟨e, ih'⟩ := ih (m ++ [x]) (by simp [h])
  simp only [List.length_append, List.length_cons, List.length_nil, Nat.zero_add, Int.natCast_add, Int.cast_ofNat_Int, wO, wdV] at ih' lp
  rw [ckCs]
  by_cases hz : ckC w.bodies.length none x = 0
  ·refine ⟨e, ?_⟩
   rw [hz] at lp
   rw [if_pos hz, l30_16]
   simp (maxSteps := 100000000) only [ivc, anf, vop, vlen, vbuiltin, nilR, eq_self, Nat.reduceEqDiff, Nat.reduceLT, Nat.reduceLeDiff, Nat.reduceAdd, Nat.reduceBEq, reduceCtorEq, ↓reduceIte, tyb, wO, wdV, clV, hi', hg, hw, lp, ih']
   try exact some_true (by omega)
  ·refine ⟨m.length, ?_⟩
   rw [if_neg hz, if_neg hz, l30_16]
   rw [if_neg hz] at lp
   generalize ckC w.bodies.length none x = er at lp
   simp (maxSteps := 100000000) only [ivc, anf, vop, vlen, vbuiltin, nilR, eq_self, Nat.reduceEqDiff, Nat.reduceLT, Nat.reduceLeDiff, Nat.reduceAdd, Nat.reduceBEq, reduceCtorEq, ↓reduceIte, tyb, wO, wdV, clV, hi', hg, lp]
   try exact some_true (by omega)
theorem rcheck_ev {w : Wd} : E.F 30 [wdV w] [] = some ((.int .i64 (ckM w), []), True) := by
 rw [e30]
 unfold ckM
 by_cases a1 : (200 : Int) < w.classes.length
 ·rw [if_pos (.inl a1)]
  simp (maxSteps := 100000000) only [ivc, anf, vop, vlen, vbuiltin, nilR, salloc, eq_self, Nat.reduceEqDiff, Nat.reduceLT, Nat.reduceLeDiff, Nat.reduceAdd, Nat.reduceBEq, Int.reduceLT, reduceCtorEq, ↓reduceIte, tyb, wdV, a1]
 by_cases a2 : (500 : Int) < w.bodies.length
 ·rw [if_pos (.inr (.inl a2))]
  simp (maxSteps := 100000000) only [ivc, anf, vop, vlen, vbuiltin, nilR, salloc, eq_self, Nat.reduceEqDiff, Nat.reduceLT, Nat.reduceLeDiff, Nat.reduceAdd, Nat.reduceBEq, Int.reduceLT, reduceCtorEq, ↓reduceIte, tyb, wdV, a1, a2]
 by_cases a3 : (64 : Int) < w.roots.length
 ·rw [if_pos (.inr (.inr a3))]
  simp (maxSteps := 100000000) only [ivc, anf, vop, vlen, vbuiltin, nilR, salloc, eq_self, Nat.reduceEqDiff, Nat.reduceLT, Nat.reduceLeDiff, Nat.reduceAdd, Nat.reduceBEq, reduceCtorEq, ↓reduceIte, tyb, wdV, a1, a2, a3]
 rw [if_neg (by omega)]
 obtain ⟨x5, h5⟩ := rk5_loop (w := w) (by omega) w.classes [] rfl
 obtain ⟨x10, h10⟩ := rk10_loop (w := w) (by omega) w.bodies [] rfl
 simp only [wO, wdV, List.length_nil, Int.natCast_zero] at h5 h10
 by_cases b1 : w.classes.any bigC = true
 ·rw [if_pos b1]
  simp only [b1, if_true] at h5
  simp (maxSteps := 100000000) only [ivc, anf, vop, vlen, vbuiltin, nilR, salloc, eq_self, Nat.reduceEqDiff, Nat.reduceLT, Nat.reduceLeDiff, Nat.reduceAdd, Nat.reduceBEq, reduceCtorEq, ↓reduceIte, tyb, wdV, a1, a2, a3, h5]
 rw [if_neg b1]
 have b1' : w.classes.any bigC = false := by simpa using b1
 simp only [b1', Bool.false_eq_true, if_false] at h5
 by_cases b2 : w.bodies.any bigB = true
 ·rw [if_pos b2]
  simp only [b2, if_true] at h10
  simp (maxSteps := 100000000) only [ivc, anf, vop, vlen, vbuiltin, nilR, salloc, eq_self, Nat.reduceEqDiff, Nat.reduceLT, Nat.reduceLeDiff, Nat.reduceAdd, Nat.reduceBEq, reduceCtorEq, ↓reduceIte, tyb, wdV, a1, a2, a3, h5, h10]
 rw [if_neg b2]
 have b2' : w.bodies.any bigB = false := by simpa using b2
 simp only [b2', Bool.false_eq_true, if_false] at h10
 have s1 : ∀ c ∈ w.classes, c.length ≤ 1000 := fun c hc => by
  have := List.any_eq_false.1 b1' c hc
  simp only [bigC, decide_eq_true_eq] at this
  omega
 have s2 : ∀ b ∈ w.bodies, b.ss.length ≤ 1000 /\ b.ms.length ≤ 1000 /\ b.cs.length ≤ 1000 := fun b hb => by
  have := List.any_eq_false.1 b2' b hb
  simp only [bigB, Bool.or_eq_true, decide_eq_true_eq] at this
  omega
 obtain ⟨x16, h16⟩ := rk16_loop (w := w) (by omega) (by omega) s1 w.classes [] rfl
 simp only [wO, wdV, List.length_nil, Int.natCast_zero] at h16
 by_cases c1 : ckCs w.bodies.length w.classes = 0
 ·rw [if_neg (by simpa using c1)]
  rw [c1] at h16
  simp only [if_true] at h16
  obtain ⟨x27, h27⟩ := rk27_loop (w := w) (by omega) s2 w.bodies [] rfl
  simp only [wO, wdV, List.length_nil, Int.natCast_zero] at h27
  by_cases c2 : w.bodies.any (badB w.bodies.length w.classes.length) = true
  ·rw [if_pos c2]
   simp only [c2, if_true] at h27
   simp (maxSteps := 100000000) only [ivc, anf, vop, vlen, vbuiltin, nilR, salloc, eq_self, Nat.reduceEqDiff, Nat.reduceLT, Nat.reduceLeDiff, Nat.reduceAdd, Nat.reduceBEq, reduceCtorEq, ↓reduceIte, tyb, wdV, a1, a2, a3, h5, h10, h16, h27]
  ·rw [if_neg c2]
   have c2' : w.bodies.any (badB w.bodies.length w.classes.length) = false := by simpa using c2
   simp only [c2', Bool.false_eq_true, if_false] at h27
   have g3 := below_ev (l := w.roots) (n := w.bodies.length) (by omega)
   by_cases c3 : w.roots.all (inR w.bodies.length) = true
   ·rw [if_pos c3]
    rw [c3] at g3
    simp (maxSteps := 100000000) only [ivc, anf, vop, vlen, vbuiltin, nilR, salloc, eq_self, Nat.reduceEqDiff, Nat.reduceLT, Nat.reduceLeDiff, Nat.reduceAdd, Nat.reduceBEq, reduceCtorEq, ↓reduceIte, tyb, wdV, a1, a2, a3, g3, h5, h10, h16, h27]
   ·rw [if_neg c3]
    have c3' : w.roots.all (inR w.bodies.length) = false := by simpa using c3
    rw [c3'] at g3
    simp (maxSteps := 100000000) only [ivc, anf, vop, vlen, vbuiltin, nilR, salloc, eq_self, Nat.reduceEqDiff, Nat.reduceLT, Nat.reduceLeDiff, Nat.reduceAdd, Nat.reduceBEq, reduceCtorEq, ↓reduceIte, tyb, wdV, a1, a2, a3, g3, h5, h10, h16, h27]
 ·rw [if_pos c1]
  rw [if_neg c1] at h16
  generalize ckCs w.bodies.length w.classes = er at h16 ⊢
  simp (maxSteps := 100000000) only [ivc, anf, vop, vlen, vbuiltin, nilR, salloc, eq_self, Nat.reduceEqDiff, Nat.reduceLT, Nat.reduceLeDiff, Nat.reduceAdd, Nat.reduceBEq, reduceCtorEq, ↓reduceIte, tyb, wdV, a1, a2, a3, h5, h10, h16]
end Go.Proofs.YtikppcfabnnhfaaDoor

/- Plain: sets of numbers. -/
namespace Go.Proofs.YtikppcfabnnhfaaDoor
open Go Go.Aw
set_option linter.unusedSimpArgs false
set_option linter.unusedVariables false
def u64r (x : Int) : Prop := 0 ≤ x /\ x < 18446744073709551616
theorem ofNat_u64 {x : Nat} (h : x < 18446744073709551616) : (BitVec.ofInt IntKind.u64.bits (x : Int)).toNat = x := by
 rw [BitVec.toNat_ofInt]
 show ((x : Int) % ((2 ^ 64 : Nat) : Int)).toNat = x
 rw [Int.emod_eq_of_lt (by omega) (by omega)]
 rfl
theorem and_nat {x y : Nat} (hx : x < 18446744073709551616) (hy : y < 18446744073709551616) : bitsI .and .u64 x y = ((x &&& y : Nat) : Int) := by
 unfold bitsI
 simp only
 rw [BitVec.toNat_and, ofNat_u64 hx, ofNat_u64 hy]
 have h : x &&& y ≤ y := Nat.and_le_right
 show ((x &&& y : Nat) : Int) % 18446744073709551616 = _
 exact Int.emod_eq_of_lt (by omega) (by omega)
theorem or_nat {x y : Nat} (hx : x < 18446744073709551616) (hy : y < 18446744073709551616) : bitsI .or .u64 x y = ((x ||| y : Nat) : Int) := by
 unfold bitsI
 simp only
 rw [BitVec.toNat_or, ofNat_u64 hx, ofNat_u64 hy]
 have h : x ||| y < 2 ^ 64 := Nat.or_lt_two_pow hx hy
 show ((x ||| y : Nat) : Int) % 18446744073709551616 = _
 exact Int.emod_eq_of_lt (by omega) (by omega)
theorem bitW_nat {x : Nat} {j : Int} (hx : x < 18446744073709551616) (h0 : 0 ≤ j) (h1 : j < 64) : bitW x j = x.testBit j.toNat := by
 unfold bitW
 have e1 : min j.toNat IntKind.u64.bits = j.toNat := Nat.min_eq_left (show j.toNat ≤ 64 by omega)
 have e2 : ((x : Int)).fdiv (2 ^ j.toNat) = ((x / 2 ^ j.toNat : Nat) : Int) := by
  rw [Int.fdiv_eq_ediv_of_nonneg _ (Int.le_of_lt (Int.pow_pos (by omega)))]
  simp
 have e3 : x / 2 ^ j.toNat ≤ x := Nat.div_le_self _ _
 rw [e1, e2, show (1 : Int) = ((1 : Nat) : Int) from rfl, and_nat (by omega) (by omega), Nat.and_one_is_mod, Nat.testBit_eq_decide_div_mod_eq]
 rw [Bool.eq_iff_iff, beq_iff_eq, decide_eq_true_eq]
 omega
theorem orW_nat {x : Nat} {j : Int} (hx : x < 18446744073709551616) (h0 : 0 ≤ j) (h1 : j < 64) : orW x j = ((x ||| 2 ^ j.toNat : Nat) : Int) := by
 unfold orW
 have e1 : min j.toNat IntKind.u64.bits = j.toNat := Nat.min_eq_left (show j.toNat ≤ 64 by omega)
 have e4 : (2 : Nat) ^ j.toNat < 2 ^ 64 := Nat.pow_lt_pow_right (by omega) (by omega)
 have e2 : IntKind.u64.wrap (1 * 2 ^ j.toNat) = ((2 ^ j.toNat : Nat) : Int) := by
  show (1 * (2 : Int) ^ j.toNat) % 18446744073709551616 = _
  rw [Int.one_mul]
  have : ((2 : Int) ^ j.toNat) = ((2 ^ j.toNat : Nat) : Int) := by simp
  rw [this]
  generalize 2 ^ j.toNat = p at e4
  exact Int.emod_eq_of_lt (by omega) (by omega)
 rw [e1, e2, or_nat hx e4]
theorem u64nat {x : Int} (h : u64r x) : ∃ n : Nat, x = n /\ n < 18446744073709551616 := ⟨x.toNat, by have := h.1; omega, by have := h.1; have := h.2; omega⟩
theorem orW_r {x j : Int} (h : u64r x) (h0 : 0 ≤ j) (h1 : j < 64) : u64r (orW x j) := by
 obtain ⟨n, rfl, hn⟩ := u64nat h
 rw [orW_nat hn h0 h1]
 have e4 : (2 : Nat) ^ j.toNat < 2 ^ 64 := Nat.pow_lt_pow_right (by omega) (by omega)
 have : n ||| 2 ^ j.toNat < 2 ^ 64 := Nat.or_lt_two_pow hn e4
 exact ⟨by omega, by omega⟩
theorem bit_or {x j i : Int} (h : u64r x) (h0 : 0 ≤ j) (h1 : j < 64) (h2 : 0 ≤ i) (h3 : i < 64) : bitW (orW x j) i = (bitW x i || decide (j = i)) := by
 obtain ⟨n, rfl, hn⟩ := u64nat h
 have hr := orW_r h h0 h1
 rw [orW_nat hn h0 h1] at hr ⊢
 rw [bitW_nat (by have := hr.2; omega) h2 h3, bitW_nat hn h2 h3, Nat.testBit_or, Nat.testBit_two_pow]
 congr 1
 by_cases e : j = i
 ·subst e; simp
 ·have : j.toNat ≠ i.toNat := by omega
  simp [this, e]
def allR (l : List Int) : Prop := ∀ x ∈ l, u64r x
theorem allR_getD {l : List Int} (h : allR l) (i : Nat) : u64r (l.getD i 0) := by
 rw [List.getD_eq_getElem?_getD]
 cases e : l[i]? with
 | none => exact ⟨by simp, by simp⟩
 | some x => exact h x (List.mem_of_getElem? e)
theorem addW_r {l : List Int} {c : Nat} {n : Int} (h : allR l) : allR (addW l c n) := by
 intro x hx
 unfold addW at hx
 rcases List.mem_or_eq_of_mem_set hx with hx | hx
 ·exact h x hx
 ·subst hx
  exact orW_r (allR_getD h _) (by omega) (by omega)
theorem zs_r (n : Nat) : allR (zs n) := fun x hx => by
 have := List.eq_of_mem_replicate hx
 subst this
 exact ⟨by omega, by omega⟩
theorem has_add {l : List Int} {a b : Nat} {n m : Int} (h : allR l) (ha : 8 * a + 8 ≤ l.length) (hn : 0 ≤ n /\ n < 512) (hm : 0 ≤ m /\ m < 512) :
  hasW (addW l (8 * a) n) (8 * b) m = (hasW l (8 * b) m || decide (a = b /\ n = m)) := by
 unfold hasW addW
 by_cases e : 8 * a + (n / 64).toNat = 8 * b + (m / 64).toNat
 ·have e1 : a = b := by omega
  have e2 : n / 64 = m / 64 := by omega
  have e3 : (l.set (8 * a + (n / 64).toNat) (orW (l.getD (8 * a + (n / 64).toNat) 0) (n % 64))).getD (8 * b + (m / 64).toNat) 0 = orW (l.getD (8 * a + (n / 64).toNat) 0) (n % 64) := by
   rw [e, List.getD_eq_getElem?_getD, List.getElem?_set]
   have : 8 * b + (m / 64).toNat < l.length := by omega
   simp [this]
  rw [e3, bit_or (allR_getD h _) (by omega) (by omega) (by omega) (by omega), e]
  congr 1
  rw [Bool.eq_iff_iff, decide_eq_true_eq, decide_eq_true_eq]
  omega
 ·have e3 : (l.set (8 * a + (n / 64).toNat) (orW (l.getD (8 * a + (n / 64).toNat) 0) (n % 64))).getD (8 * b + (m / 64).toNat) 0 = l.getD (8 * b + (m / 64).toNat) 0 := by
   rw [List.getD_eq_getElem?_getD, List.getElem?_set, if_neg e, <- List.getD_eq_getElem?_getD]
  rw [e3]
  have : ¬ (a = b /\ n = m) := by
   rintro ⟨rfl, rfl⟩
   exact e rfl
  simp [this]
theorem has_zs {n b : Nat} {m : Int} (hm : 0 ≤ m) : hasW (zs n) b m = false := by
 unfold hasW
 have : (zs n).getD (b + (m / 64).toNat) 0 = 0 := by
  rw [List.getD_eq_getElem?_getD, zs, List.getElem?_replicate]
  split <;> rfl
 rw [this, show (0 : Int) = ((0 : Nat) : Int) from rfl, bitW_nat (by omega) (by omega) (by omega)]
 simp
def gok (g : List Int) : Prop := g.length = 4008 /\ allR g
theorem gok_add {g : List Int} {c : Nat} {n : Int} (h : gok g) : gok (addW g c n) := ⟨by rw [addW_len]; exact h.1, addW_r h.2⟩
theorem nb_eq (s : Int) : 8 + s.toNat * 8 = 8 * (s.toNat + 1) := by omega
theorem nb_eq' (s : Int) : nb s = 8 * (s.toNat + 1) := by unfold nb; omega
def selN (s : Int) : Prop := 0 ≤ s /\ s < 500
theorem near_add {g : List Int} {s n a b : Int} (h : gok g) (hs : selN s) (hn : selN n) (ha : selN a) (hb : selN b) : hasW (addW g (8 + s.toNat * 8) n) (nb a) b = (hasW g (nb a) b || decide (s = a /\ n = b)) := by
 rw [nb_eq, nb_eq', has_add h.2 (by have := h.1; have := hs.2; omega) ⟨hn.1, by have := hn.2; omega⟩ ⟨hb.1, by have := hb.2; omega⟩]
 congr 1
 rw [Bool.eq_iff_iff, decide_eq_true_eq, decide_eq_true_eq]
 have := hs.1; have := ha.1
 omega
theorem near_known {g : List Int} {n a b : Int} (h : gok g) (hn : selN n) (ha : selN a) (hb : selN b) : hasW (addW g 0 n) (nb a) b = hasW g (nb a) b := by
 rw [show (0 : Nat) = 8 * 0 from rfl, nb_eq', has_add h.2 (by have := h.1; omega) ⟨hn.1, by have := hn.2; omega⟩ ⟨hb.1, by have := hb.2; omega⟩]
 simp
theorem known_add {g : List Int} {n m : Int} (h : gok g) (hn : selN n) (hm : 0 ≤ m /\ m < 512) : hasW (addW g 0 n) 0 m = (hasW g 0 m || decide (n = m)) := by
 have e := has_add (a := 0) (b := 0) (n := n) (m := m) h.2 (by have := h.1; omega) ⟨hn.1, by have := hn.2; omega⟩ hm
 rw [show 8 * 0 = 0 from rfl] at e
 rw [e]
 simp
theorem known_near {g : List Int} {s n m : Int} (h : gok g) (hs : selN s) (hn : selN n) (hm : 0 ≤ m /\ m < 512) : hasW (addW g (8 + s.toNat * 8) n) 0 m = hasW g 0 m := by
 have e := has_add (a := s.toNat + 1) (b := 0) (n := n) (m := m) h.2 (by have := h.1; have := hs.2; omega) ⟨hn.1, by have := hn.2; omega⟩ hm
 rw [show 8 * 0 = 0 from rfl, <- nb_eq] at e
 rw [e]
 simp
theorem gok_pair {g : List Int} {x y : Et} (h : gok g) : gok (pairM g x y) := gok_add (gok_add h)
theorem near_pair {g : List Int} {x y : Et} {a b : Int} (h : gok g) (hx : selN x.s) (hy : selN y.s) (ha : selN a) (hb : selN b) : hasW (pairM g x y) (nb a) b = true ↔ hasW g (nb a) b = true \/ (x.s = a /\ y.s = b) \/ (y.s = a /\ x.s = b) := by
 unfold pairM
 rw [near_add (gok_add h) hy hx ha hb, near_add h hx hy ha hb, Bool.or_eq_true, Bool.or_eq_true, decide_eq_true_eq, decide_eq_true_eq, or_assoc]
theorem known_pair {g : List Int} {x y : Et} {m : Int} (h : gok g) (hx : selN x.s) (hy : selN y.s) (hm : 0 ≤ m /\ m < 512) : hasW (pairM g x y) 0 m = hasW g 0 m := by
 unfold pairM
 rw [known_near (gok_add h) hy hx hm, known_near h hx hy hm]
theorem gok_pairs {x : Et} : ∀ {p : List Et} {g : List Int}, gok g -> gok (p.foldl (pairM · x ·) g)
 | [], _, h => h
 | _ :: p, _, h => gok_pairs (p := p) (gok_pair h)
theorem near_pairs {x : Et} {a b : Int} (hx : selN x.s) (ha : selN a) (hb : selN b) : ∀ {p : List Et} {g : List Int}, gok g -> (∀ y ∈ p, selN y.s) -> (hasW (p.foldl (pairM · x ·) g) (nb a) b = true ↔ hasW g (nb a) b = true \/ ∃ y ∈ p, (x.s = a /\ y.s = b) \/ (y.s = a /\ x.s = b))
 | [], g, h, _ => by simp
 | y :: p, g, h, hp => by
  rw [List.foldl_cons, near_pairs hx ha hb (gok_pair h) (fun z hz => hp z (by simp [hz])), near_pair h hx (hp y (by simp)) ha hb, or_assoc]
  simp only [List.mem_cons, exists_eq_or_imp]
theorem known_pairs {x : Et} {m : Int} (hx : selN x.s) (hm : 0 ≤ m /\ m < 512) : ∀ {p : List Et} {g : List Int}, gok g -> (∀ y ∈ p, selN y.s) -> hasW (p.foldl (pairM · x ·) g) 0 m = hasW g 0 m
 | [], g, h, _ => rfl
 | y :: p, g, h, hp => by
  rw [List.foldl_cons, known_pairs hx hm (gok_pair h) (fun z hz => hp z (by simp [hz])), known_pair h hx (hp y (by simp)) hm]
theorem gok_ents : ∀ {r p : List Et} {g : List Int}, gok g -> gok (entsM p r g)
 | [], _, _, h => h
 | _ :: r, _, _, h => gok_ents (r := r) (gok_pairs (gok_add h))
theorem known_ents {m : Int} (hm : 0 ≤ m /\ m < 512) : ∀ {r p : List Et} {g : List Int}, gok g -> (∀ y ∈ p, selN y.s) -> (∀ y ∈ r, selN y.s) -> (hasW (entsM p r g) 0 m = true ↔ hasW g 0 m = true \/ ∃ y ∈ r, y.s = m)
 | [], p, g, h, _, _ => by simp [entsM]
 | x :: r, p, g, h, hp, hr => by
  have hx := hr x (by simp)
  rw [entsM, known_ents hm (gok_pairs (gok_add h)) (fun y hy => by rcases List.mem_append.1 hy with hy | hy; exact hp y hy; rw [List.mem_singleton] at hy; exact hy ▸ hx) (fun y hy => hr y (by simp [hy])), known_pairs hx hm (gok_add h) hp, known_add h hx hm, Bool.or_eq_true, decide_eq_true_eq, or_assoc]
  simp only [List.mem_cons, exists_eq_or_imp]
theorem near_ents {a b : Int} (ha : selN a) (hb : selN b) : ∀ {r p : List Et} {g : List Int}, gok g -> (∀ y ∈ p, selN y.s) -> (∀ y ∈ r, selN y.s) -> ((p ++ r).map Et.s).Nodup ->
  (hasW (entsM p r g) (nb a) b = true ↔ hasW g (nb a) b = true \/ (a ≠ b /\ ∃ x ∈ p ++ r, ∃ y ∈ p ++ r, x.s = a /\ y.s = b /\ (x ∈ r \/ y ∈ r)))
 | [], p, g, h, _, _, _ => by simp [entsM]
 | x :: r, p, g, h, hp, hr, hnd => by
  have hx := hr x (by simp)
  have e : (p ++ [x]) ++ r = p ++ x :: r := by simp
  rw [entsM, near_ents ha hb (gok_pairs (gok_add h)) (fun y hy => by rcases List.mem_append.1 hy with hy | hy; exact hp y hy; rw [List.mem_singleton] at hy; exact hy ▸ hx) (fun y hy => hr y (by simp [hy])) (by rw [e]; exact hnd), near_pairs hx ha hb (gok_add h) hp, near_known h hx ha hb, e, or_assoc]
  have hne : ∀ y ∈ p, y.s ≠ x.s := fun y hy he => by
   rw [List.map_append, List.nodup_append] at hnd
   exact hnd.2.2 y.s (List.mem_map.2 ⟨y, hy, rfl⟩) x.s (by simp) he
  refine or_congr_right ?_
  constructor
  ·rintro (⟨y, hy, h1⟩ | ⟨hab, u, hu, v, hv, h1, h2, h3⟩)
   ·have hny := hne y hy
    rcases h1 with ⟨rfl, rfl⟩ | ⟨rfl, rfl⟩
    ·exact ⟨fun he => hny he.symm, x, by simp, y, by simp [hy], rfl, rfl, .inl (by simp)⟩
    ·exact ⟨hny, y, by simp [hy], x, by simp, rfl, rfl, .inr (by simp)⟩
   ·exact ⟨hab, u, hu, v, hv, h1, h2, h3.imp (fun h => by simp [h]) (fun h => by simp [h])⟩
  ·rintro ⟨hab, u, hu, v, hv, rfl, rfl, h3⟩
   by_cases c1 : u ∈ r \/ v ∈ r
   ·exact .inr ⟨hab, u, hu, v, hv, rfl, rfl, c1⟩
   ·have c2 : u ∉ r := fun h => c1 (.inl h)
    have c3 : v ∉ r := fun h => c1 (.inr h)
    have d1 : u = x \/ u ∈ p := by
     rcases List.mem_append.1 hu with h | h
     ·exact .inr h
     ·rcases List.mem_cons.1 h with h | h
      ·exact .inl h
      ·exact absurd h c2
    have d2 : v = x \/ v ∈ p := by
     rcases List.mem_append.1 hv with h | h
     ·exact .inr h
     ·rcases List.mem_cons.1 h with h | h
      ·exact .inl h
      ·exact absurd h c3
    have d3 : u = x \/ v = x := by
     rcases h3 with h | h
     ·rcases List.mem_cons.1 h with h | h
      ·exact .inl h
      ·exact absurd h c2
     ·rcases List.mem_cons.1 h with h | h
      ·exact .inr h
      ·exact absurd h c3
    left
    rcases d3 with h | h
    ·subst h
     rcases d2 with h | h
     ·exact absurd (by rw [h]) hab
     ·exact ⟨v, h, .inl ⟨rfl, rfl⟩⟩
    ·subst h
     rcases d1 with h | h
     ·exact absurd (by rw [h]) hab
     ·exact ⟨u, h, .inr ⟨rfl, rfl⟩⟩
theorem near_class {c : List Et} {g : List Int} {a b : Int} (ha : selN a) (hb : selN b) (h : gok g) (hc : ∀ y ∈ c, selN y.s) (hnd : (c.map Et.s).Nodup) :
  hasW (entsM [] c g) (nb a) b = true ↔ hasW g (nb a) b = true \/ (a ≠ b /\ a ∈ c.map Et.s /\ b ∈ c.map Et.s) := by
 rw [near_ents (p := []) ha hb h (fun y hy => by cases hy) hc hnd]
 refine or_congr_right (and_congr_right fun _ => ?_)
 simp only [List.nil_append, List.mem_map]
 constructor
 ·rintro ⟨x, hx, y, hy, h1, h2, _⟩
  exact ⟨⟨x, hx, h1⟩, ⟨y, hy, h2⟩⟩
 ·rintro ⟨⟨x, hx, h1⟩, ⟨y, hy, h2⟩⟩
  exact ⟨x, hx, y, hy, h1, h2, .inl hx⟩
theorem gok_zs : gok (zs 4008) := ⟨zs_len 4008, zs_r 4008⟩
def clsok (cs : List (List Et)) : Prop := ∀ c ∈ cs, (∀ y ∈ c, selN y.s) /\ (c.map Et.s).Nodup
theorem known_graph {m : Int} (hm : 0 ≤ m /\ m < 512) : ∀ {cs : List (List Et)} {g : List Int}, gok g -> clsok cs -> (hasW (graphM cs g) 0 m = true ↔ hasW g 0 m = true \/ ∃ c ∈ cs, m ∈ c.map Et.s)
 | [], g, h, _ => by simp [graphM]
 | c :: cs, g, h, hc => by
  have := known_graph hm (cs := cs) (gok_ents (r := c) (p := []) h) (fun d hd => hc d (by simp [hd]))
  simp only [graphM, List.foldl_cons] at this ⊢
  rw [this, known_ents hm h (fun y hy => by cases hy) (hc c (by simp)).1, or_assoc]
  simp only [List.mem_cons, exists_eq_or_imp, List.mem_map]
theorem near_graph {a b : Int} (ha : selN a) (hb : selN b) : ∀ {cs : List (List Et)} {g : List Int}, gok g -> clsok cs -> (hasW (graphM cs g) (nb a) b = true ↔ hasW g (nb a) b = true \/ ∃ c ∈ cs, a ≠ b /\ a ∈ c.map Et.s /\ b ∈ c.map Et.s)
 | [], g, h, _ => by simp [graphM]
 | c :: cs, g, h, hc => by
  have := near_graph ha hb (cs := cs) (gok_ents (r := c) (p := []) h) (fun d hd => hc d (by simp [hd]))
  simp only [graphM, List.foldl_cons] at this ⊢
  rw [this, near_class ha hb h (hc c (by simp)).1 (hc c (by simp)).2, or_assoc]
  simp only [List.mem_cons, exists_eq_or_imp]
theorem known5W {w : Wd} {m : Int} (hm : 0 ≤ m /\ m < 512) (hc : clsok w.classes) : hasW (graphW w) 0 m = true ↔ ∃ c ∈ w.classes, m ∈ c.map Et.s := by
 rw [graphW, known_graph hm gok_zs hc, has_zs hm.1]
 simp
theorem knownW {w : Wd} {m : Int} (hm : selN m) (hc : clsok w.classes) : hasW (graphW w) 0 m = true ↔ ∃ c ∈ w.classes, m ∈ c.map Et.s := known5W ⟨hm.1, by have := hm.2; omega⟩ hc
theorem nearW {w : Wd} {a b : Int} (ha : selN a) (hb : selN b) (hc : clsok w.classes) : hasW (graphW w) (nb a) b = true ↔ a ≠ b /\ ∃ c ∈ w.classes, a ∈ c.map Et.s /\ b ∈ c.map Et.s := by
 rw [graphW, near_graph ha hb gok_zs hc, has_zs hb.1]
 constructor
 ·rintro (h | ⟨c, hc, h1, h2, h3⟩)
  ·cases h
  ·exact ⟨h1, c, hc, h2, h3⟩
 ·rintro ⟨h1, c, hc, h2, h3⟩
  exact .inr ⟨c, hc, h1, h2, h3⟩
def goodE (nb : Int) (e : Et) : Prop := (0 ≤ e.s /\ e.s < 500) /\ 0 ≤ e.m /\ e.m < nb
theorem badE_iff {nb : Int} {e : Et} : badE nb e = false ↔ goodE nb e := by
 simp only [badE, goodE, Bool.or_eq_false_iff, decide_eq_false_iff_not]
 omega
theorem ckC_some {nb : Int} : ∀ {l : List Et} {q : Int}, ckC nb (some q) l = 0 ↔ (∀ e ∈ l, goodE nb e) /\ ((q :: l.map Et.s).Pairwise (· < ·))
 | [], q => by simp [ckC]
 | e :: l, q => by
  rw [ckC]
  by_cases h : badE nb e = true
  ·rw [if_pos h]
   constructor
   ·intro h; cases h
   ·rintro ⟨h1, _⟩
    rw [badE_iff.2 (h1 e (by simp))] at h
    cases h
  ·have h' : badE nb e = false := by simpa using h
   have hg := badE_iff.1 h'
   rw [if_neg h]
   simp only [decide_eq_true_eq]
   by_cases h2 : e.s ≤ q
   ·rw [if_pos h2]
    constructor
    ·intro h; cases h
    ·rintro ⟨_, h3⟩
     have := (List.pairwise_cons.1 h3).1 e.s (by simp)
     omega
   ·rw [if_neg h2, ckC_some]
    constructor
    ·rintro ⟨h3, h4⟩
     refine ⟨fun x hx => ?_, ?_⟩
     ·rcases List.mem_cons.1 hx with rfl | hx
      ·exact hg
      ·exact h3 x hx
     ·rw [List.map_cons]
      refine List.pairwise_cons.2 ⟨fun x hx => ?_, h4⟩
      rcases List.mem_cons.1 hx with rfl | hx
      ·omega
      ·have := (List.pairwise_cons.1 h4).1 x hx
       omega
    ·rintro ⟨h3, h4⟩
     exact ⟨fun x hx => h3 x (by simp [hx]), (List.pairwise_cons.1 h4).2⟩
theorem ckC_none {nb : Int} {l : List Et} : ckC nb none l = 0 ↔ (∀ e ∈ l, goodE nb e) /\ ((l.map Et.s).Pairwise (· < ·)) := by
 match l with
 | [] => simp [ckC]
 | e :: l =>
  rw [ckC]
  by_cases h : badE nb e = true
  ·rw [if_pos h]
   constructor
   ·intro h; cases h
   ·rintro ⟨h1, _⟩
    rw [badE_iff.2 (h1 e (by simp))] at h
    cases h
  ·have h' : badE nb e = false := by simpa using h
   have hg := badE_iff.1 h'
   rw [if_neg h]
   simp only [Bool.false_eq_true, if_false]
   rw [ckC_some]
   constructor
   ·rintro ⟨h3, h4⟩
    refine ⟨fun x hx => ?_, h4⟩
    rcases List.mem_cons.1 hx with rfl | hx
    ·exact hg
    ·exact h3 x hx
   ·rintro ⟨h3, h4⟩
    exact ⟨fun x hx => h3 x (by simp [hx]), h4⟩
theorem ckCs_iff {nb : Int} : ∀ {cs : List (List Et)}, ckCs nb cs = 0 ↔ ∀ c ∈ cs, ckC nb none c = 0
 | [] => by simp [ckCs]
 | c :: cs => by
  rw [ckCs]
  by_cases h : ckC nb none c = 0
  ·rw [if_pos h, ckCs_iff]
   simp [h]
  ·rw [if_neg h]
   simp [h]
structure Good (w : Wd) : Prop where
 nc : w.classes.length ≤ 200
 nb : w.bodies.length ≤ 500
 nr : w.roots.length ≤ 64
 len : ∀ c ∈ w.classes, c.length ≤ 100
 ent : ∀ c ∈ w.classes, ∀ e ∈ c, goodE w.bodies.length e
 asc : ∀ c ∈ w.classes, (c.map Et.s).Pairwise (· < ·)
 bl : ∀ b ∈ w.bodies, b.ss.length ≤ 100 /\ b.ms.length ≤ 100 /\ b.cs.length ≤ 100
 br : ∀ b ∈ w.bodies, (∀ x ∈ b.ss, 0 ≤ x /\ x < 500) /\ (∀ x ∈ b.ms, 0 ≤ x /\ x < w.bodies.length) /\ (∀ x ∈ b.cs, 0 ≤ x /\ x < w.classes.length)
 rr : ∀ x ∈ w.roots, 0 ≤ x /\ x < w.bodies.length
theorem inR_all {n : Int} {l : List Int} : l.all (inR n) = true ↔ ∀ x ∈ l, 0 ≤ x /\ x < n := by
 rw [List.all_eq_true]
 refine forall_congr' fun x => forall_congr' fun _ => ?_
 simp only [inR, Bool.not_eq_true', Bool.or_eq_false_iff, decide_eq_false_iff_not]
 omega
theorem good_of {w : Wd} (h : ckM w = 0) : Good w := by
 unfold ckM at h
 split at h
 ·cases h
 rename_i h1
 split at h
 ·cases h
 rename_i h2
 split at h
 ·cases h
 rename_i h3
 split at h
 ·rename_i h4; exact absurd h h4
 rename_i h4
 split at h
 ·cases h
 rename_i h5
 split at h
 case isFalse => cases h
 rename_i h6
 have c1 := ckCs_iff.1 (Classical.not_not.1 h4)
 have h2' : w.classes.any bigC = false := by simpa using h2
 have h3' : w.bodies.any bigB = false := by simpa using h3
 have h5' : w.bodies.any (badB w.bodies.length w.classes.length) = false := by simpa using h5
 refine ⟨by omega, by omega, by omega, fun c hc => ?_, fun c hc => (ckC_none.1 (c1 c hc)).1, fun c hc => (ckC_none.1 (c1 c hc)).2, fun b hb => ?_, fun b hb => ?_, inR_all.1 h6⟩
 ·have := List.any_eq_false.1 h2' c hc
  simp only [bigC, decide_eq_true_eq] at this
  omega
 ·have := List.any_eq_false.1 h3' b hb
  simp only [bigB, Bool.or_eq_true, decide_eq_true_eq] at this
  omega
 ·have := List.any_eq_false.1 h5' b hb
  simp only [badB, Bool.or_eq_true, Bool.not_eq_true', not_or, Bool.not_eq_false] at this
  exact ⟨inR_all.1 this.1.1, inR_all.1 this.1.2, inR_all.1 this.2⟩
theorem okW_of {w : Wd} (h : ckM w = 0) : okW w := by
 have g := good_of h
 exact ⟨g.nc, fun c hc => ⟨g.len c hc, fun e he => (g.ent c hc e he).1⟩⟩
theorem pw_nodup {l : List Int} (h : l.Pairwise (· < ·)) : l.Nodup := h.imp (fun h e => by omega)
theorem clsok_of {w : Wd} (g : Good w) : clsok w.classes := fun c hc => ⟨fun e he => (g.ent c hc e he).1, pw_nodup (g.asc c hc)⟩
end Go.Proofs.YtikppcfabnnhfaaDoor

/- The reference's method, conflict, most. -/
namespace Go.Proofs.YtikppcfabnnhfaaDoor
open Go Go.Aw
set_option linter.unusedSimpArgs false
set_option linter.unusedVariables false
set_option maxRecDepth 100000
set_option maxHeartbeats 40000000
def mthL : List Et -> Int -> Int
 | [], _ => -1
 | e :: r, s => if e.s == s then e.m else mthL r s
theorem m83_loop {w : Wd} {k : Nat} {c : List Et} {s : Int} (hk : w.classes[k]? = some c) (hn : w.classes.length ≤ 1000) (hl : c.length ≤ 1000) : ∀ (r m : List Et), c = m ++ r ->
  ∃ e : Int, E.L 83 3 [.int .i64 k, .int .i64 s, .ptr 60000 0 0, .int .i64 0, .int .i64 m.length] (wO w) = some ((if (r.any fun e => e.s == s) then .ret else .exit 0, [.int .i64 k, .int .i64 s, .ptr 60000 0 0, .int .i64 (if (r.any fun e => e.s == s) then mthL r s else 0), .int .i64 e], wO w), True) := by
 have hkl := (List.getElem?_eq_some_iff.1 hk).1
 have hg2 := getD_map (f := clV) hk
 have q2 : (0 ≤ (k : Int) /\ (k : Int) < w.classes.length) = True := eq_true (by omega)
 intro r
 induction r with
 | nil =>
  intro m h
  rw [List.append_nil] at h
  subst h
  have q : ((c.length : Int) < c.length) = False := eq_false (by omega)
  refine ⟨c.length, ?_⟩
  rw [l83_3]
  simp (maxSteps := 100000000) only [ivc, anf, vop, vlen, vbuiltin, nilR, eq_self, Nat.reduceEqDiff, Nat.reduceLT, Nat.reduceLeDiff, Nat.reduceAdd, Nat.reduceBEq, reduceCtorEq, ↓reduceIte, tyb, wO, wdV, clV, hg2, q2, q, List.any_nil]
 | cons x r ih =>
  intro m h
  have hn : m.length + (r.length + 1) = c.length := by rw [h]; simp
  have hi' : (m.length : Int) < c.length := by omega
  have hg := getD_map (f := enV) (show c[m.length]? = some x by rw [h]; simp)
  have hw : IntKind.i64.wrap ((m.length : Int) + 1) = m.length + 1 := wrap_id (by omega) (by omega)
  have hc : (0 ≤ (m.length : Int) /\ (m.length : Int) < c.length) = True := eq_true (by omega)
  obtain ⟨e, ih'⟩ := ih (m ++ [x]) (by simp [h])
  simp only [List.length_append, List.length_cons, List.length_nil, Nat.zero_add, Int.natCast_add, Int.cast_ofNat_Int, wO, wdV] at ih'
  cases b : (x.s == s) with
  | true =>
   refine ⟨m.length, ?_⟩
   rw [l83_3]
   simp (maxSteps := 100000000) only [ivc, anf, vop, vlen, vbuiltin, nilR, eq_self, Nat.reduceEqDiff, Nat.reduceLT, Nat.reduceLeDiff, Nat.reduceAdd, Nat.reduceBEq, reduceCtorEq, ↓reduceIte, tyb, wO, wdV, clV, enV, hg2, q2, hi', hg, b, List.any_cons, mthL]
   exact some_true (by omega)
  | false =>
   refine ⟨e, ?_⟩
   rw [l83_3]
   simp (maxSteps := 100000000) only [ivc, anf, vop, vlen, vbuiltin, nilR, eq_self, Nat.reduceEqDiff, Nat.reduceLT, Nat.reduceLeDiff, Nat.reduceAdd, Nat.reduceBEq, reduceCtorEq, ↓reduceIte, tyb, wO, wdV, clV, enV, hg2, q2, hi', hg, hw, b, List.any_cons, mthL, ih']
   exact some_true (by omega)
theorem mth_none {s : Int} : ∀ {c : List Et}, (c.any fun e => e.s == s) = false -> mthL c s = -1
 | [], _ => rfl
 | e :: r, h => by
  rw [List.any_cons, Bool.or_eq_false_iff] at h
  rw [mthL, h.1]
  exact mth_none h.2
theorem meth_ev {w : Wd} {k : Nat} {c : List Et} {s : Int} (hk : w.classes[k]? = some c) (hn : w.classes.length ≤ 1000) (hl : c.length ≤ 1000) : E.F 83 [wdV w, .int .i64 k, .int .i64 s] [] = some ((.int .i64 (mthL c s), []), True) := by
 obtain ⟨e, lp⟩ := m83_loop (s := s) hk hn hl c [] rfl
 simp only [List.length_nil, Int.natCast_zero, wO, wdV] at lp
 rw [e83]
 cases b : (c.any fun e => e.s == s) with
 | true =>
  simp only [b, if_true] at lp
  simp (maxSteps := 100000000) only [ivc, anf, salloc, eq_self, Nat.reduceEqDiff, Nat.reduceLT, Nat.reduceLeDiff, Nat.reduceAdd, Nat.reduceBEq, Int.reduceNeg, reduceCtorEq, ↓reduceIte, wdV, lp]
 | false =>
  simp only [b, Bool.false_eq_true, if_false] at lp
  rw [mth_none b]
  simp (maxSteps := 100000000) only [ivc, anf, salloc, eq_self, Nat.reduceEqDiff, Nat.reduceLT, Nat.reduceLeDiff, Nat.reduceAdd, Nat.reduceBEq, Int.reduceNeg, reduceCtorEq, ↓reduceIte, wdV, lp]
def cf1 (a b : Int) (c : List Et) : Bool := (a != b) && (decide (0 ≤ mthL c a) && decide (0 ≤ mthL c b))
def cfB (w : Wd) (a b : Int) : Bool := w.classes.any (cf1 a b)
theorem cf54_loop {w : Wd} {a b : Int} (hl : w.classes.length ≤ 1000) (hs : ∀ c ∈ w.classes, c.length ≤ 1000) : ∀ (r m : List (List Et)), w.classes = m ++ r ->
  ∃ e : Int, E.L 54 3 [.int .i64 a, .int .i64 b, .ptr 60000 0 0, .bool false, .int .i64 m.length] (wO w) = some ((if r.any (cf1 a b) then .ret else .exit 0, [.int .i64 a, .int .i64 b, .ptr 60000 0 0, .bool (r.any (cf1 a b)), .int .i64 e], wO w), True) := by
 intro r
 induction r with
 | nil =>
  intro m h
  rw [List.append_nil] at h
  refine ⟨m.length, ?_⟩
  rw [l54_3]
  simp (maxSteps := 100000000) only [ivc, anf, vop, vlen, vbuiltin, nilR, eq_self, Nat.reduceEqDiff, Nat.reduceLT, Nat.reduceLeDiff, Nat.reduceAdd, Nat.reduceBEq, reduceCtorEq, ↓reduceIte, tyb, wO, wdV, h, Int.lt_irrefl, List.any_nil]
 | cons x r ih =>
  intro m h
  have hn : m.length + (r.length + 1) = w.classes.length := by rw [h]; simp
  have hi' : (m.length : Int) < w.classes.length := by omega
  have hm : w.classes[m.length]? = some x := by rw [h]; simp
  have hw : IntKind.i64.wrap ((m.length : Int) + 1) = m.length + 1 := wrap_id (by omega) (by omega)
  have v1 := meth_ev (s := a) hm hl (hs x (List.mem_of_getElem? hm))
  have v2 := meth_ev (s := b) hm hl (hs x (List.mem_of_getElem? hm))
  obtain ⟨e, ih'⟩ := ih (m ++ [x]) (by simp [h])
  simp only [List.length_append, List.length_cons, List.length_nil, Nat.zero_add, Int.natCast_add, Int.cast_ofNat_Int, wO, wdV] at ih' v1 v2
  have cfe : cf1 a b x = ((a != b) && (decide (0 ≤ mthL x a) && decide (0 ≤ mthL x b))) := rfl
  cases b1 : (a != b) with
  | false =>
   refine ⟨e, ?_⟩
   rw [l54_3]
   simp (maxSteps := 100000000) only [ivc, anf, vop, vlen, vbuiltin, nilR, eq_self, Nat.reduceEqDiff, Nat.reduceLT, Nat.reduceLeDiff, Nat.reduceAdd, Nat.reduceBEq, Int.reduceLE, reduceCtorEq, ↓reduceIte, tyb, wO, wdV, hi', hw, b1, cfe, List.any_cons, ih']
  | true =>
   by_cases b2 : 0 ≤ mthL x a
   ·by_cases b3 : 0 ≤ mthL x b
    ·refine ⟨m.length, ?_⟩
     rw [l54_3]
     simp (maxSteps := 100000000) only [ivc, anf, vop, vlen, vbuiltin, nilR, eq_self, Nat.reduceEqDiff, Nat.reduceLT, Nat.reduceLeDiff, Nat.reduceAdd, Nat.reduceBEq, reduceCtorEq, ↓reduceIte, tyb, wO, wdV, hi', v1, v2, b1, b2, b3, cfe, List.any_cons]
    ·refine ⟨e, ?_⟩
     rw [l54_3]
     simp (maxSteps := 100000000) only [ivc, anf, vop, vlen, vbuiltin, nilR, eq_self, Nat.reduceEqDiff, Nat.reduceLT, Nat.reduceLeDiff, Nat.reduceAdd, Nat.reduceBEq, reduceCtorEq, ↓reduceIte, tyb, wO, wdV, hi', hw, v1, v2, b1, b2, b3, cfe, List.any_cons, ih']
   ·refine ⟨e, ?_⟩
    rw [l54_3]
    simp (maxSteps := 100000000) only [ivc, anf, vop, vlen, vbuiltin, nilR, eq_self, Nat.reduceEqDiff, Nat.reduceLT, Nat.reduceLeDiff, Nat.reduceAdd, Nat.reduceBEq, Int.reduceLE, reduceCtorEq, ↓reduceIte, tyb, wO, wdV, hi', hw, v1, b1, b2, cfe, List.any_cons, ih']
theorem conflict_ev {w : Wd} {a b : Int} (hl : w.classes.length ≤ 1000) (hs : ∀ c ∈ w.classes, c.length ≤ 1000) : E.F 54 [wdV w, .int .i64 a, .int .i64 b] [] = some ((.bool (cfB w a b), []), True) := by
 obtain ⟨e, lp⟩ := cf54_loop (a := a) (b := b) hl hs w.classes [] rfl
 simp only [List.length_nil, Int.natCast_zero, wO, wdV] at lp
 rw [e54]
 unfold cfB
 cases h : w.classes.any (cf1 a b) with
 | true =>
  simp only [h, if_true] at lp
  simp (maxSteps := 100000000) only [ivc, anf, salloc, eq_self, Nat.reduceEqDiff, Nat.reduceLT, Nat.reduceLeDiff, Nat.reduceAdd, Nat.reduceBEq, reduceCtorEq, ↓reduceIte, wdV, lp]
 | false =>
  simp only [h, Bool.false_eq_true, if_false] at lp
  simp (maxSteps := 100000000) only [ivc, anf, salloc, eq_self, Nat.reduceEqDiff, Nat.reduceLT, Nat.reduceLeDiff, Nat.reduceAdd, Nat.reduceBEq, reduceCtorEq, ↓reduceIte, wdV, lp]
def moL (c : List Et) (n : Int) : Int := c.foldl (fun n e => maxI n (e.s + 1)) n
def moM (cs : List (List Et)) (n : Int) : Int := cs.foldl (fun n c => moL c n) n
theorem mo7_loop {w : Wd} {k : Nat} {c : List Et} (hk : w.classes[k]? = some c) (hn : w.classes.length ≤ 1000) (hl : c.length ≤ 1000) (hs : ∀ e ∈ c, 0 ≤ e.s /\ e.s < 500) : ∀ (r m : List Et) (n : Int), c = m ++ r ->
  E.L 53 7 [.ptr 60000 0 0, .int .i64 n, .int .i64 k, .int .i64 m.length] (wO w) = some ((.exit 2, [.ptr 60000 0 0, .int .i64 (moL r n), .int .i64 k, .int .i64 c.length], wO w), True) := by
 have hkl := (List.getElem?_eq_some_iff.1 hk).1
 have hg2 := getD_map (f := clV) hk
 have q2 : (0 ≤ (k : Int) /\ (k : Int) < w.classes.length) = True := eq_true (by omega)
 intro r
 induction r with
 | nil =>
  intro m n h
  rw [List.append_nil] at h
  subst h
  have q : ((c.length : Int) < c.length) = False := eq_false (by omega)
  rw [l53_7]
  simp (maxSteps := 100000000) only [ivc, anf, vop, vlen, vbuiltin, nilR, eq_self, Nat.reduceEqDiff, Nat.reduceLT, Nat.reduceLeDiff, Nat.reduceAdd, Nat.reduceBEq, reduceCtorEq, ↓reduceIte, tyb, wO, wdV, clV, hg2, q2, q, moL, List.foldl_nil]
 | cons x r ih =>
  intro m n h
  have hn : m.length + (r.length + 1) = c.length := by rw [h]; simp
  have hi' : (m.length : Int) < c.length := by omega
  have hg := getD_map (f := enV) (show c[m.length]? = some x by rw [h]; simp)
  have hx := hs x (by rw [h]; simp)
  have hw : IntKind.i64.wrap ((m.length : Int) + 1) = m.length + 1 := wrap_id (by omega) (by omega)
  have hw2 : IntKind.i64.wrap (x.s + 1) = x.s + 1 := wrap_id (by omega) (by omega)
  have hc : (0 ≤ (m.length : Int) /\ (m.length : Int) < c.length) = True := eq_true (by omega)
  have ih' := ih (m ++ [x]) (maxI n (x.s + 1)) (by simp [h])
  simp only [List.length_append, List.length_cons, List.length_nil, Nat.zero_add, Int.natCast_add, Int.cast_ofNat_Int, wO, wdV, moL, maxI] at ih'
  rw [l53_7]
  simp (maxSteps := 100000000) only [ivc, anf, vop, vlen, vbuiltin, nilR, eq_self, Nat.reduceEqDiff, Nat.reduceLT, Nat.reduceLeDiff, Nat.reduceAdd, Nat.reduceBEq, reduceCtorEq, ↓reduceIte, tyb, wO, wdV, clV, enV, hg2, q2, hi', hg, hw, hw2, ih', moL, maxI, List.foldl_cons]
  exact some_true (by omega)
theorem mo4_loop {w : Wd} (hl : w.classes.length ≤ 1000) (hs : ∀ c ∈ w.classes, c.length ≤ 1000 /\ ∀ e ∈ c, 0 ≤ e.s /\ e.s < 500) : ∀ (r m : List (List Et)) (n : Int), w.classes = m ++ r ->
  E.L 53 4 [.ptr 60000 0 0, .int .i64 n, .int .i64 m.length] (wO w) = some ((.exit 0, [.ptr 60000 0 0, .int .i64 (moM r n), .int .i64 w.classes.length], wO w), True) := by
 intro r
 induction r with
 | nil =>
  intro m n h
  rw [List.append_nil] at h
  rw [<- h, l53_4]
  simp (maxSteps := 100000000) only [ivc, anf, vop, vlen, vbuiltin, nilR, eq_self, Nat.reduceEqDiff, Nat.reduceLT, Nat.reduceLeDiff, Nat.reduceAdd, Nat.reduceBEq, reduceCtorEq, ↓reduceIte, tyb, wO, wdV, Int.lt_irrefl, moM, List.foldl_nil]
 | cons x r ih =>
  intro m n h
  have hn : m.length + (r.length + 1) = w.classes.length := by rw [h]; simp
  have hi' : (m.length : Int) < w.classes.length := by omega
  have hm : w.classes[m.length]? = some x := by rw [h]; simp
  have hw : IntKind.i64.wrap ((m.length : Int) + 1) = m.length + 1 := wrap_id (by omega) (by omega)
  obtain ⟨x1, x2⟩ := hs x (List.mem_of_getElem? hm)
  have lp := mo7_loop hm hl x1 x2 x [] n rfl
  have ih' := ih (m ++ [x]) (moL x n) (by simp [h])
  simp only [List.length_append, List.length_cons, List.length_nil, Nat.zero_add, Int.natCast_add, Int.cast_ofNat_Int, wO, wdV] at ih' lp
  rw [show moM (x :: r) n = moM r (moL x n) from rfl, l53_4]
  simp (maxSteps := 100000000) only [ivc, anf, vop, vlen, vbuiltin, nilR, eq_self, Nat.reduceEqDiff, Nat.reduceLT, Nat.reduceLeDiff, Nat.reduceAdd, Nat.reduceBEq, reduceCtorEq, ↓reduceIte, tyb, wO, wdV, hi', hw, lp, ih']
theorem most_ev {w : Wd} (hl : w.classes.length ≤ 1000) (hs : ∀ c ∈ w.classes, c.length ≤ 1000 /\ ∀ e ∈ c, 0 ≤ e.s /\ e.s < 500) : E.F 53 [wdV w] [] = some ((.int .i64 (moM w.classes 0), []), True) := by
 have lp := mo4_loop hl hs w.classes [] 0 rfl
 simp only [List.length_nil, Int.natCast_zero, wO, wdV] at lp
 rw [e53]
 simp (maxSteps := 100000000) only [ivc, anf, salloc, eq_self, Nat.reduceEqDiff, Nat.reduceLT, Nat.reduceLeDiff, Nat.reduceAdd, Nat.reduceBEq, reduceCtorEq, ↓reduceIte, wdV, lp]
end Go.Proofs.YtikppcfabnnhfaaDoor

