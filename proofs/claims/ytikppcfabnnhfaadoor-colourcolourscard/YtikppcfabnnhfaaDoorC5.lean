/- A part of the proof of ColourColoursCardSaid. -/
import Derived.Test.YtikppcfabnnhfaaDoorC4
/- Plain: the packed vector answers as the classes do. -/
namespace Go.Proofs.YtikppcfabnnhfaaDoor
open Go Go.Aw
set_option linter.unusedVariables false
def sumL : List (List Et) -> Nat
 | [] => 0
 | c :: r => c.length + sumL r
theorem sumL_app : ∀ {a b : List (List Et)}, sumL (a ++ b) = sumL a + sumL b
 | [], b => by simp [sumL]
 | c :: a, b => by rw [List.cons_append, sumL, sumL, sumL_app]; omega
theorem nd_inj : ∀ {l : List Int} {i j : Nat} {x : Int}, l.Nodup -> l[i]? = some x -> l[j]? = some x -> i = j
 | y :: l, 0, 0, x, _, _, _ => rfl
 | y :: l, 0, j + 1, x, h, h1, h2 => by
  cases h1
  exact absurd (List.mem_of_getElem? (by simpa using h2)) (List.nodup_cons.1 h).1
 | y :: l, i + 1, 0, x, h, h1, h2 => by
  cases h2
  exact absurd (List.mem_of_getElem? (by simpa using h1)) (List.nodup_cons.1 h).1
 | y :: l, i + 1, j + 1, x, h, h1, h2 => congrArg (· + 1) (nd_inj (List.nodup_cons.1 h).2 (by simpa using h1) (by simpa using h2))
structure PkOk (cs : List Int) (d : List (List Et)) (v : List Et) (o : List Int) : Prop where
 len : o.length = d.length
 nd : o.Nodup
 nn : ∀ x ∈ o, 0 ≤ x
 sel : ∀ c ∈ d, ∀ e ∈ c, 0 ≤ e.s
 hit : ∀ (k : Nat) (c : List Et) (x : Int) (e : Et), d[k]? = some c -> o[k]? = some x -> e ∈ c -> v[x.toNat + (colAt cs e.s).toNat]? = some e
 inv : ∀ (p : Nat) (e : Et), v[p]? = some e -> 0 ≤ e.s -> ∃ (k : Nat) (c : List Et) (x : Int), d[k]? = some c /\ o[k]? = some x /\ e ∈ c /\ p = x.toNat + (colAt cs e.s).toNat
 cnt : cntO v = sumL d
theorem grow_get {vec t : List Et} {a : Int} {p : Nat} {e : Et} (h : (growM vec t a)[p]? = some e) : vec[p]? = some e \/ (vec.length ≤ p /\ e = noE) := by
 unfold growM at h
 split at h
 ·rw [List.getElem?_append] at h
  split at h
  ·exact .inl h
  ·exact .inr ⟨by omega, noE_get h⟩
 ·exact .inl h
theorem grow_old {vec t : List Et} {a : Int} {p : Nat} {e : Et} (h : vec[p]? = some e) : (growM vec t a)[p]? = some e := by
 unfold growM
 split
 ·rw [List.getElem?_append, if_pos (List.getElem?_eq_some_iff.1 h).1]; exact h
 ·exact h
theorem grow_cnt {vec t : List Et} {a : Int} : cntO (growM vec t a) = cntO vec := by
 unfold growM
 split
 ·rw [cnt_app, cnt_no, Nat.add_zero]
 ·rfl
theorem pk_step {cs : List Int} {d : List (List Et)} {v : List Et} {o : List Int} {c : List Et} (h : PkOk cs d v o) (hi : injC cs c) (hh : ∀ e ∈ c, hasC cs e) :
  PkOk cs (d ++ [c]) (putL (tblM cs c) (placeA o v (tblM cs c)) (growM v (tblM cs c) (placeA o v (tblM cs c)))) (o ++ [placeA o v (tblM cs c)]) := by
 have T := tab_law hi hh
 generalize tblM cs c = t at T ⊢
 obtain ⟨p1, p2⟩ := place_ok (offs := o) (vec := v) (t := t)
 generalize placeA o v t = a at p1 p2 ⊢
 obtain ⟨n, rfl⟩ : ∃ n : Nat, a = n := ⟨a.toNat, by omega⟩
 rw [okA, Bool.and_eq_true, Bool.not_eq_true'] at p1
 have hno : (n : Int) ∉ o := fun hm => by
  have := List.contains_iff_mem.2 hm
  rw [p1.1] at this; cases this
 have hfit := fit_iff.1 p1.2
 obtain ⟨g1, g2, g3⟩ := growM_len (vec := v) (t := t) (a := (n : Int)) (by omega)
 obtain ⟨k1, k2, k3⟩ := put_law (r := t) (p := n) (v := growM v t n) (g2.imp id fun h => by omega) (fun i s e hs h0 he => by
  rcases grow_get he with he | ⟨_, rfl⟩
  ·exact hfit i s e hs h0 he
  ·decide)
 have free : ∀ (q : Nat) (e : Et), v[q]? = some e -> 0 ≤ e.s -> ∀ (i : Nat) (s : Et), t[i]? = some s -> 0 ≤ s.s -> q ≠ n + i := fun q e he h0 i s hs hs0 hq => by
  have := hfit i s e hs hs0 (by rw [<- hq]; exact he)
  omega
 have hod : ∀ {k : Nat} {c' : List Et} {x : Int}, (d ++ [c])[k]? = some c' -> (o ++ [(n : Int)])[k]? = some x -> (d[k]? = some c' /\ o[k]? = some x) \/ (c' = c /\ x = n) := fun {k c' x} h1 h2 => by
  rw [List.getElem?_append] at h1 h2
  by_cases hk : k < d.length
  ·rw [if_pos hk] at h1
   rw [if_pos (by rw [h.len]; exact hk)] at h2
   exact .inl ⟨h1, h2⟩
  ·rw [if_neg hk] at h1
   rw [if_neg (by rw [h.len]; exact hk), h.len] at h2
   have : k - d.length = 0 := by
    have := (List.getElem?_eq_some_iff.1 h1).1
    simp at this
    omega
   rw [this] at h1 h2
   cases h1; cases h2
   exact .inr ⟨rfl, rfl⟩
 refine ⟨by simp [h.len], ?_, fun x hx => ?_, fun c' hc' e he => ?_, fun k c' x e h1 h2 he => ?_, fun p e hp h0 => ?_, ?_⟩
 ·rw [List.nodup_append]
  refine ⟨h.nd, by simp, fun x hx y hy => ?_⟩
  rw [List.mem_singleton.1 hy]
  exact fun e => hno (e ▸ hx)
 ·rcases List.mem_append.1 hx with hx | hx
  ·exact h.nn x hx
  ·rw [List.mem_singleton.1 hx]; omega
 ·rcases List.mem_append.1 hc' with hc' | hc'
  ·exact h.sel c' hc' e he
  ·rw [List.mem_singleton.1 hc'] at he
   exact (hh e he).1
 ·rcases hod h1 h2 with ⟨h1, h2⟩ | ⟨rfl, rfl⟩
  ·have hv := h.hit k c' x e h1 h2 he
   obtain ⟨_, hlt⟩ := List.getElem?_eq_some_iff.1 hv
   have he0 : 0 ≤ e.s := h.sel c' (List.mem_of_getElem? h1) e he
   rw [k2 _ (fun i s hs hs0 => free _ e hv he0 i s hs hs0)]
   exact grow_old hv
  ·rw [show ((n : Int)).toNat = n by omega]
   exact k1 _ e (T.hit e he) (hh e he).1
 ·by_cases hq : ∃ (i : Nat) (s : Et), t[i]? = some s /\ 0 ≤ s.s /\ p = n + i
  ·obtain ⟨i, s, hs, hs0, rfl⟩ := hq
   rw [k1 i s hs hs0] at hp
   cases hp
   obtain ⟨a1, a2⟩ := T.inv i _ hs hs0
   refine ⟨d.length, c, n, by simp, by rw [<- h.len]; simp, a1, ?_⟩
   rw [a2]; omega
  ·rw [k2 p (fun i s hs hs0 e => hq ⟨i, s, hs, hs0, e⟩)] at hp
   rcases grow_get hp with hp | ⟨_, rfl⟩
   ·obtain ⟨k, c', x, b1, b2, b3, b4⟩ := h.inv p e hp h0
    refine ⟨k, c', x, ?_, ?_, b3, b4⟩
    ·rw [List.getElem?_append, if_pos (List.getElem?_eq_some_iff.1 b1).1]; exact b1
    ·rw [List.getElem?_append, if_pos (List.getElem?_eq_some_iff.1 b2).1]; exact b2
   ·exact absurd h0 (by decide)
 ·rw [k3, grow_cnt, h.cnt, T.cnt, sumL_app]
  simp [sumL]
theorem pk_all {cs : List Int} : ∀ {r d : List (List Et)} {v : List Et} {o : List Int}, PkOk cs d v o -> (∀ c ∈ r, injC cs c /\ ∀ e ∈ c, hasC cs e) -> PkOk cs (d ++ r) (packM cs r (v, o)).1 (packM cs r (v, o)).2
 | [], d, v, o, h, _ => by rw [List.append_nil]; exact h
 | c :: r, d, v, o, h, hr => by
  have := pk_all (r := r) (pk_step h (hr c (by simp)).1 (hr c (by simp)).2) (fun c' hc' => hr c' (by simp [hc']))
  rw [List.append_assoc] at this
  exact this
theorem pk_nil {cs : List Int} : PkOk cs [] [] [] := ⟨rfl, List.nodup_nil, by simp, by simp, by simp, by simp, rfl⟩
theorem inj_of {w : Wd} {cs : List Int} (g : Good w) (h : ColsOk (graphW w) cs) {c : List Et} (hc : c ∈ w.classes) : injC cs c /\ ∀ e ∈ c, hasC cs e := by
 have hk := clsok_of g
 have hz := szM_le (graphW w) 500
 have has : ∀ e ∈ c, hasC cs e := fun e he => by
  obtain ⟨s1, s2⟩ := (hk c hc).1 e he
  have kn : hasW (graphW w) 0 e.s = true := (knownW ⟨s1, s2⟩ hk).2 ⟨c, hc, List.mem_map.2 ⟨e, he, rfl⟩⟩
  have hlt := szM_lt (g := graphW w) (n := 500) (m := e.s.toNat) (by rw [show ((e.s.toNat : Nat) : Int) = e.s by omega]; exact kn) (by omega)
  rw [<- h.len] at hlt
  have h0 := h.kn e.s.toNat hlt (by rw [show ((e.s.toNat : Nat) : Int) = e.s by omega]; exact kn)
  have hb := h.bd _ (getD_mem hlt)
  exact ⟨s1, by omega, h0, hb.2⟩
 refine ⟨?_, has⟩
 have hp := g.asc c hc
 rw [List.pairwise_map] at hp
 refine hp.imp_of_mem fun {a b} ha hb hab he => ?_
 have a1 := has a ha
 have b1 := has b hb
 unfold hasC at a1 b1
 have := h.no a.s.toNat b.s.toNat (by omega) (by omega) a1.2.2.1 he
 rw [show ((a.s.toNat : Nat) : Int) = a.s by omega, show ((b.s.toNat : Nat) : Int) = b.s by omega] at this
 exact this ((nearW ((hk c hc).1 a ha) ((hk c hc).1 b hb) hk).2 ⟨by omega, c, hc, List.mem_map.2 ⟨a, ha, rfl⟩, List.mem_map.2 ⟨b, hb, rfl⟩⟩)
def wantM : List Et -> Int -> Int -> Int
 | [], _, m => m
 | e :: r, s, m => wantM r s (if e.s = s then e.m else m)
theorem want_no {s : Int} : ∀ {c : List Et} {m : Int}, (∀ e ∈ c, e.s ≠ s) -> wantM c s m = m
 | [], _, _ => rfl
 | e :: c, m, h => by rw [wantM, if_neg (h e (by simp)), want_no fun e he => h e (by simp [he])]
theorem want_at {s : Int} : ∀ {c : List Et} {m : Int} {e : Et}, (c.map Et.s).Nodup -> e ∈ c -> e.s = s -> wantM c s m = e.m
 | x :: c, m, e, hnd, he, hs => by
  rw [List.map_cons, List.nodup_cons] at hnd
  rw [wantM]
  rcases List.mem_cons.1 he with rfl | he
  ·rw [if_pos hs, want_no fun y hy hys => hnd.1 (List.mem_map.2 ⟨y, hy, hys.trans hs.symm⟩)]
  ·exact want_at hnd.2 he hs
theorem finds {w : Wd} {cs : List Int} (g : Good w) (h : ColsOk (graphW w) cs) {k : Nat} {c : List Et} (hk : w.classes[k]? = some c) {s : Int} :
  lookM (packM cs w.classes ([], [])).1 (packM cs w.classes ([], [])).2 cs k s = wantM c s (-1) := by
 have hc := List.mem_of_getElem? hk
 have P := pk_all (r := w.classes) (pk_nil (cs := cs)) (fun c hc => inj_of g h hc)
 rw [List.nil_append] at P
 generalize (packM cs w.classes ([], [])).1 = v at P ⊢
 generalize (packM cs w.classes ([], [])).2 = o at P ⊢
 have hkl := (List.getElem?_eq_some_iff.1 hk).1
 have hol : k < o.length := by rw [P.len]; exact hkl
 have ho := List.getElem?_eq_getElem hol
 have hog : o.getD k 0 = o[k] := get_D hol
 have hnn := P.nn _ (List.getElem_mem hol)
 generalize o[k] = x at ho hog hnn
 have hkt : ((k : Int)).toNat = k := by omega
 have hnd := (clsok_of g c hc).2
 by_cases he : ∃ e ∈ c, e.s = s
 ·obtain ⟨e, he, rfl⟩ := he
  rw [want_at hnd he rfl]
  have hh := (inj_of g h hc).2 e he
  unfold hasC colAt at hh
  have hv := P.hit k c x e hk ho he
  obtain ⟨hlt, hge⟩ := List.getElem?_eq_some_iff.1 hv
  unfold colAt at hlt hge
  unfold lookM placeM
  rw [hkt, hog, if_neg (by omega), if_pos (by omega)]
  dsimp only
  have e2 : (x + cs.getD e.s.toNat 0).toNat = x.toNat + (cs.getD e.s.toNat 0).toNat := by omega
  rw [e2, List.getD_eq_getElem?_getD, List.getElem?_eq_getElem hlt, hge]
  exact if_pos rfl
 ·rw [want_no fun e h1 h2 => he ⟨e, h1, h2⟩]
  unfold lookM placeM
  rw [hkt, hog]
  by_cases b1 : (k : Int) < 0 \/ (o.length : Int) ≤ k \/ s < 0 \/ (cs.length : Int) ≤ s \/ cs.getD s.toNat 0 < 0
  ·rw [if_pos b1]
  rw [if_neg b1]
  by_cases b2 : 0 ≤ x + cs.getD s.toNat 0 /\ x + cs.getD s.toNat 0 < v.length /\ x ≤ v.length
  ·rw [if_pos b2]
   dsimp only
   have hlt : (x + cs.getD s.toNat 0).toNat < v.length := by omega
   rw [List.getD_eq_getElem?_getD, List.getElem?_eq_getElem hlt]
   show (if (v[(x + cs.getD s.toNat 0).toNat]).s = s then _ else _) = _
   rw [if_neg]
   intro hs
   obtain ⟨k', c', x', d1, d2, d3, d4⟩ := P.inv _ _ (List.getElem?_eq_getElem hlt) (by omega)
   unfold colAt at d4
   rw [hs] at d4
   have hx' := P.nn x' (List.mem_of_getElem? d2)
   have hxx : x' = x := by omega
   subst hxx
   have hkk : k' = k := by
    exact nd_inj P.nd d2 ho
   subst hkk
   rw [hk] at d1
   cases d1
   exact he ⟨_, d3, hs⟩
  ·rw [if_neg b2]
structure GwInv (w : Wd) (cl : List Et) (l p0 : List Int) (p : List Et) (out chg : List Int) : Prop where
 len : out.length = p0.length
 bd : ∀ c ∈ out, -1 ≤ c /\ c < 500
 old : ∀ i : Nat, i < out.length -> hasW (graphW w) 0 i = true -> 0 ≤ out.getD i 0
 un : ∀ i : Nat, i < out.length -> hasW (graphW (moreW w cl)) 0 i = false -> out.getD i 0 = -1
 pos : ∀ e ∈ p, 0 ≤ out.getD e.s.toNat 0
 noP : ∀ a ∈ p, ∀ b ∈ p, a.s ≠ b.s -> out.getD a.s.toNat 0 ≠ out.getD b.s.toNat 0
 noW : ∀ i j : Nat, i < out.length -> j < out.length -> confG (graphW w) i j -> 0 ≤ out.getD i 0 -> out.getD i 0 ≠ out.getD j 0
 keep : ∀ i : Nat, i < out.length -> (∀ e ∈ p, e.s ≠ i) -> out.getD i 0 = p0.getD i 0
 chgs : ∀ c ∈ chg, (∃ e ∈ p, e.s = c) /\ c.toNat < l.length /\ 0 ≤ l.getD c.toNat 0 /\ out.getD c.toNat 0 ≠ l.getD c.toNat 0
 same : ∀ s : Nat, s < l.length -> 0 ≤ l.getD s 0 -> (s : Int) ∉ chg -> out.getD s 0 = l.getD s 0
end Go.Proofs.YtikppcfabnnhfaaDoor

/- has, within; Grow with its errors. -/
namespace Go.Proofs.YtikppcfabnnhfaaDoor
open Go Go.Aw
set_option linter.unusedSimpArgs false
set_option linter.unusedVariables false
set_option maxRecDepth 100000
set_option maxHeartbeats 40000000
def ccM (w : Wd) (cs : List Int) : Int := if ckM w = 0 then ccW (graphW w) cs else ckM w
def lsM : List Bool -> Int -> List Int
 | [], _ => []
 | b :: r, n => (if b = true then [n] else []) ++ lsM r (n + 1)
def bR (l : List Bool) : Ob := ⟨false, 1, l.map AV.bool⟩
instance rf_bool : RowF AV.bool := ⟨fun _ => rfl, fun _ => rfl⟩
theorem lsM_len : ∀ {l : List Bool} {n : Int}, (lsM l n).length ≤ l.length
 | [], _ => Nat.le_refl _
 | b :: r, n => by
  have := lsM_len (l := r) (n := n + 1)
  rw [lsM, List.length_append, List.length_cons]
  split <;> simp <;> omega
theorem moL_rng : ∀ {c : List Et} {n : Int}, (∀ e ∈ c, 0 ≤ e.s /\ e.s < 500) -> 0 ≤ n -> n ≤ 500 -> n ≤ moL c n /\ moL c n ≤ 500 /\ ∀ e ∈ c, e.s < moL c n
 | [], n, _, h0, h1 => ⟨Int.le_refl _, h1, fun e he => by cases he⟩
 | x :: c, n, h, h0, h1 => by
  have hx := h x (by simp)
  have hm : n ≤ maxI n (x.s + 1) /\ maxI n (x.s + 1) ≤ 500 /\ x.s < maxI n (x.s + 1) := by
   unfold maxI
   split <;> omega
  obtain ⟨a1, a2, a3⟩ := moL_rng (c := c) (n := maxI n (x.s + 1)) (fun e he => h e (by simp [he])) (by omega) hm.2.1
  rw [show moL (x :: c) n = moL c (maxI n (x.s + 1)) from rfl]
  refine ⟨by omega, a2, fun e he => ?_⟩
  rcases List.mem_cons.1 he with rfl | he
  ·omega
  ·exact a3 e he
theorem moM_rng : ∀ {cs : List (List Et)} {n : Int}, (∀ c ∈ cs, ∀ e ∈ c, 0 ≤ e.s /\ e.s < 500) -> 0 ≤ n -> n ≤ 500 -> n ≤ moM cs n /\ moM cs n ≤ 500 /\ ∀ c ∈ cs, ∀ e ∈ c, e.s < moM cs n
 | [], n, _, h0, h1 => ⟨Int.le_refl _, h1, fun e he => by cases he⟩
 | x :: c, n, h, h0, h1 => by
  obtain ⟨b1, b2, b3⟩ := moL_rng (c := x) (n := n) (h x (by simp)) h0 h1
  obtain ⟨a1, a2, a3⟩ := moM_rng (cs := c) (n := moL x n) (fun e he => h e (by simp [he])) (by omega) b2
  rw [show moM (x :: c) n = moM c (moL x n) from rfl]
  refine ⟨by omega, a2, fun k hk e he => ?_⟩
  rcases List.mem_cons.1 hk with rfl | hk
  ·have := b3 e he
   omega
  ·exact a3 k hk e he
def unL (c : List Et) (u : List Bool) : List Bool := c.foldl (fun u e => u.set e.s.toNat true) u
def unM (cs : List (List Et)) (u : List Bool) : List Bool := cs.foldl (fun u c => unL c u) u
theorem unL_len : ∀ {c : List Et} {u : List Bool}, (unL c u).length = u.length
 | [], _ => rfl
 | x :: c, u => by
  rw [show unL (x :: c) u = unL c (u.set x.s.toNat true) from rfl, unL_len, List.length_set]
theorem unM_len : ∀ {cs : List (List Et)} {u : List Bool}, (unM cs u).length = u.length
 | [], _ => rfl
 | x :: c, u => by
  rw [show unM (x :: c) u = unM c (unL x u) from rfl, unM_len, unL_len]
def uH (w : Wd) (u : List Bool) : HL := [(60000, ⟨true, 3, [wdV w]⟩), (60001, bR u)]
theorem getB {l : List Bool} {i : Nat} (h : i < l.length) : (l.map AV.bool).getD i .junk = .bool (l.getD i false) := by
 simp [List.getD_eq_getElem?_getD, List.getElem?_eq_getElem h]
theorem un7_loop {w : Wd} {k n : Nat} {c : List Et} (hk : w.classes[k]? = some c) (hn : w.classes.length ≤ 1000) (hl : c.length ≤ 1000) (hs : ∀ e ∈ c, 0 ≤ e.s /\ e.s < n) : ∀ (r m : List Et) (u : List Bool), c = m ++ r -> u.length = n ->
  E.L 63 7 [.ptr 60000 0 0, .sl 60001 0 n, .int .i64 k, .int .i64 m.length] (uH w u) = some ((.exit 2, [.ptr 60000 0 0, .sl 60001 0 n, .int .i64 k, .int .i64 c.length], uH w (unL r u)), True) := by
 have hkl := (List.getElem?_eq_some_iff.1 hk).1
 have hg2 := getD_map (f := clV) hk
 have q2 : (0 ≤ (k : Int) /\ (k : Int) < w.classes.length) = True := eq_true (by omega)
 intro r
 induction r with
 | nil =>
  intro m u h hu
  rw [List.append_nil] at h
  subst h
  have q : ((c.length : Int) < c.length) = False := eq_false (by omega)
  rw [l63_7]
  simp (maxSteps := 100000000) only [ivc, anf, vop, vlen, vbuiltin, nilR, eq_self, Nat.reduceEqDiff, Nat.reduceLT, Nat.reduceLeDiff, Nat.reduceAdd, Nat.reduceBEq, reduceCtorEq, ↓reduceIte, tyb, uH, bR, wdV, clV, hg2, q2, q, unL, List.foldl_nil]
 | cons x r ih =>
  intro m u h hu
  have hn : m.length + (r.length + 1) = c.length := by rw [h]; simp
  have hi' : (m.length : Int) < c.length := by omega
  have hg := getD_map (f := enV) (show c[m.length]? = some x by rw [h]; simp)
  have hx := hs x (by rw [h]; simp)
  have q3 : (0 ≤ x.s /\ x.s < n) = True := eq_true hx
  have g3 := getB (l := u) (i := x.s.toNat) (by omega)
  have s3 : (u.map AV.bool).set x.s.toNat (.bool true) = (u.set x.s.toNat true).map AV.bool := List.map_set.symm
  have hw : IntKind.i64.wrap ((m.length : Int) + 1) = m.length + 1 := wrap_id (by omega) (by omega)
  have hc : (0 ≤ (m.length : Int) /\ (m.length : Int) < c.length) = True := eq_true (by omega)
  have ih' := ih (m ++ [x]) (u.set x.s.toNat true) (by simp [h]) (by rw [List.length_set, hu])
  rw [show unL (x :: r) u = unL r (u.set x.s.toNat true) from rfl]
  simp only [List.length_append, List.length_cons, List.length_nil, Nat.zero_add, Int.natCast_add, Int.cast_ofNat_Int, uH, bR, wdV] at ih'
  rw [l63_7]
  simp (maxSteps := 100000000) only [ivc, anf, vop, vlen, vbuiltin, nilR, eq_self, Nat.reduceEqDiff, Nat.reduceLT, Nat.reduceLeDiff, Nat.reduceAdd, Nat.reduceBEq, reduceCtorEq, ↓reduceIte, tyb, uH, bR, wdV, clV, enV, hg2, q2, hi', hg, hw, q3, g3, s3, ih']
  try exact some_true (by omega)
theorem un4_loop {w : Wd} {n : Nat} (hl : w.classes.length ≤ 1000) (hs : ∀ c ∈ w.classes, c.length ≤ 1000 /\ ∀ e ∈ c, 0 ≤ e.s /\ e.s < n) : ∀ (r m : List (List Et)) (u : List Bool), w.classes = m ++ r -> u.length = n ->
  E.L 63 4 [.ptr 60000 0 0, .sl 60001 0 n, .int .i64 m.length] (uH w u) = some ((.exit 0, [.ptr 60000 0 0, .sl 60001 0 n, .int .i64 w.classes.length], uH w (unM r u)), True) := by
 intro r
 induction r with
 | nil =>
  intro m u h hu
  rw [List.append_nil] at h
  rw [<- h, l63_4]
  simp (maxSteps := 100000000) only [ivc, anf, vop, vlen, vbuiltin, nilR, eq_self, Nat.reduceEqDiff, Nat.reduceLT, Nat.reduceLeDiff, Nat.reduceAdd, Nat.reduceBEq, reduceCtorEq, ↓reduceIte, tyb, uH, bR, wdV, Int.lt_irrefl, unM, List.foldl_nil]
 | cons x r ih =>
  intro m u h hu
  have hn : m.length + (r.length + 1) = w.classes.length := by rw [h]; simp
  have hi' : (m.length : Int) < w.classes.length := by omega
  have hm : w.classes[m.length]? = some x := by rw [h]; simp
  have hw : IntKind.i64.wrap ((m.length : Int) + 1) = m.length + 1 := wrap_id (by omega) (by omega)
  obtain ⟨x1, x2⟩ := hs x (List.mem_of_getElem? hm)
  have lp := un7_loop hm hl x1 x2 x [] u rfl hu
  have ih' := ih (m ++ [x]) (unL x u) (by simp [h]) (by rw [unL_len, hu])
  simp only [List.length_append, List.length_cons, List.length_nil, Nat.zero_add, Int.natCast_add, Int.cast_ofNat_Int, uH, bR, wdV] at ih' lp
  rw [show unM (x :: r) u = unM r (unL x u) from rfl, l63_4]
  simp (maxSteps := 100000000) only [ivc, anf, vop, vlen, vbuiltin, nilR, eq_self, Nat.reduceEqDiff, Nat.reduceLT, Nat.reduceLeDiff, Nat.reduceAdd, Nat.reduceBEq, reduceCtorEq, ↓reduceIte, tyb, uH, bR, wdV, hi', hw, lp, ih']
  try exact some_true (by omega)
def fals (n : Nat) : List Bool := List.replicate n false
theorem fals_map {n : Nat} : List.replicate n (AV.bool false) = (fals n).map AV.bool := by simp [fals]
def unW (w : Wd) : List Bool := unM w.classes (fals (moM w.classes 0).toNat)
theorem unW_len {w : Wd} : (unW w).length = (moM w.classes 0).toNat := by rw [unW, unM_len, fals, List.length_replicate]
theorem und_ev {w : Wd} (hl : w.classes.length ≤ 1000) (hs : ∀ c ∈ w.classes, c.length ≤ 1000 /\ ∀ e ∈ c, 0 ≤ e.s /\ e.s < 500) : E.F 63 [wdV w] [] = some ((.ro 1 ((unW w).map AV.bool), []), True) := by
 obtain ⟨a1, a2, a3⟩ := moM_rng (n := 0) (fun c hc => (hs c hc).2) (by omega) (by omega)
 have mo := most_ev hl hs
 have lp := un4_loop (n := (moM w.classes 0).toNat) hl (fun c hc => ⟨(hs c hc).1, fun e he => ⟨((hs c hc).2 e he).1, by have := a3 c hc e he; omega⟩⟩) w.classes [] (fals (moM w.classes 0).toNat) rfl (by rw [fals, List.length_replicate])
 have hlen := unW_len (w := w)
 unfold unW at hlen ⊢
 have e1 : moM w.classes 0 = ((moM w.classes 0).toNat : Nat) := by omega
 have e2 : (moM w.classes 0).toNat ≤ 500 := by omega
 rw [e1] at mo
 generalize (moM w.classes 0).toNat = N at mo lp hlen e2 ⊢
 generalize unM w.classes (fals N) = U at lp hlen ⊢
 have tk : (U.map AV.bool).take N = U.map AV.bool := List.take_of_length_le (by simp [hlen])
 simp only [List.length_nil, Int.natCast_zero, uH, bR, wdV] at lp
 simp only [wdV] at mo
 rw [e63]
 simp (maxSteps := 100000000) only [ivc, anf, salloc, eq_self, Nat.reduceEqDiff, Nat.reduceLT, Nat.reduceLeDiff, Nat.reduceAdd, Nat.reduceBEq, reduceCtorEq, ↓reduceIte, tyb, wdV, mo, fals_map, lp, tk]
 try exact some_true (by omega)
def anyF (p : Nat -> Bool) : Nat -> Nat -> Bool
 | 0, _ => false
 | k + 1, j => p j || anyF p k (j + 1)
def rb1 (U : List Bool) (cs : List Int) (j : Nat) : Bool := (U.getD j false && (decide (cs.getD j 0 < 0) || decide (499 < cs.getD j 0))) || (!(U.getD j false) && (cs.getD j 0 != -1))
def bV (l : List Bool) : AV := .ro 1 (l.map AV.bool)
theorem rc9_loop {w : Wd} {U : List Bool} {cs : List Int} {N : Nat} (hN : N ≤ 1000) (hU : U.length = N) (hc : cs.length = N) : ∀ (k j : Nat), j + k = N ->
  ∃ e : Int, E.L 27 9 [.ro 1 (cs.map (AV.int .i64)), .ptr 60000 0 0, .int .i64 0, bV U, .int .i64 j] (wO w) = some ((if anyF (rb1 U cs) k j then .ret else .exit 0, [.ro 1 (cs.map (AV.int .i64)), .ptr 60000 0 0, .int .i64 (if anyF (rb1 U cs) k j then 3 else 0), bV U, .int .i64 e], wO w), True) := by
 intro k
 induction k with
 | zero =>
  intro j h
  have q : ((j : Int) < N) = False := eq_false (by omega)
  refine ⟨j, ?_⟩
  rw [l27_9]
  simp (maxSteps := 100000000) only [ivc, anf, vlen, vbuiltin, nilR, eq_self, Nat.reduceEqDiff, Nat.reduceLT, Nat.reduceLeDiff, Nat.reduceAdd, Nat.reduceBEq, Int.reduceNeg, reduceCtorEq, ↓reduceIte, tyb, wO, wdV, bV, hU, q, anyF]
 | succ k ih =>
  intro j h
  have q : ((j : Int) < N) = True := eq_true (by omega)
  have q2 : (0 ≤ (j : Int)) = True := eq_true (by omega)
  have gU := getB (l := U) (i := j) (by omega)
  have gc := getI (l := cs) (i := j) (by omega)
  have hw : IntKind.i64.wrap ((j : Int) + 1) = j + 1 := wrap_id (by omega) (by omega)
  obtain ⟨e, ih'⟩ := ih (j + 1) (by omega)
  simp only [Int.natCast_add, Int.cast_ofNat_Int, wO, wdV, bV] at ih'
  have re : rb1 U cs j = ((U.getD j false && (decide (cs.getD j 0 < 0) || decide (499 < cs.getD j 0))) || (!(U.getD j false) && (cs.getD j 0 != -1))) := rfl
  generalize U.getD j false = u at gU re
  generalize cs.getD j 0 = c at gc re
  cases u with
  | true =>
   by_cases b1 : c < 0
   ·refine ⟨j, ?_⟩
    rw [l27_9]
    simp (maxSteps := 100000000) only [ivc, anf, vop, vlen, vbuiltin, nilR, eq_self, Nat.reduceEqDiff, Nat.reduceLT, Nat.reduceLeDiff, Nat.reduceAdd, Nat.reduceBEq, Int.reduceLT, Int.reduceNeg, Int.reduceBNe, reduceCtorEq, ↓reduceIte, tyb, wO, wdV, bV, hU, hc, q, q2, gU, gc, b1, anyF, re]
    try exact some_true (by omega)
   ·by_cases b2 : 499 < c
    ·refine ⟨j, ?_⟩
     rw [l27_9]
     simp (maxSteps := 100000000) only [ivc, anf, vop, vlen, vbuiltin, nilR, eq_self, Nat.reduceEqDiff, Nat.reduceLT, Nat.reduceLeDiff, Nat.reduceAdd, Nat.reduceBEq, Int.reduceNeg, Int.reduceBNe, reduceCtorEq, ↓reduceIte, tyb, wO, wdV, bV, hU, hc, q, q2, gU, gc, b1, b2, anyF, re]
     try exact some_true (by omega)
    ·refine ⟨e, ?_⟩
     rw [l27_9]
     simp (maxSteps := 100000000) only [ivc, anf, vop, vlen, vbuiltin, nilR, eq_self, Nat.reduceEqDiff, Nat.reduceLT, Nat.reduceLeDiff, Nat.reduceAdd, Nat.reduceBEq, Int.reduceNeg, Int.reduceBNe, reduceCtorEq, ↓reduceIte, tyb, wO, wdV, bV, hU, hc, q, q2, gU, gc, hw, b1, b2, anyF, re, ih']
     try exact some_true (by omega)
  | false =>
   cases b1 : (c != -1) with
   | true =>
    refine ⟨j, ?_⟩
    rw [l27_9]
    simp (maxSteps := 100000000) only [ivc, anf, vop, vlen, vbuiltin, nilR, eq_self, Nat.reduceEqDiff, Nat.reduceLT, Nat.reduceLeDiff, Nat.reduceAdd, Nat.reduceBEq, Int.reduceLT, Int.reduceNeg, reduceCtorEq, ↓reduceIte, tyb, wO, wdV, bV, hU, hc, q, q2, gU, gc, b1, anyF, re]
    try exact some_true (by omega)
   | false =>
    refine ⟨e, ?_⟩
    rw [l27_9]
    simp (maxSteps := 100000000) only [ivc, anf, vop, vlen, vbuiltin, nilR, eq_self, Nat.reduceEqDiff, Nat.reduceLT, Nat.reduceLeDiff, Nat.reduceAdd, Nat.reduceBEq, Int.reduceLT, Int.reduceNeg, reduceCtorEq, ↓reduceIte, tyb, wO, wdV, bV, hU, hc, q, q2, gU, gc, hw, b1, anyF, re, ih']
    try exact some_true (by omega)
def rcl (w : Wd) (U : List Bool) (cs : List Int) (a b : Nat) : Bool := U.getD a false && (U.getD b false && ((cs.getD a 0 == cs.getD b 0) && cfB w a b))
theorem rc17_loop {w : Wd} {U : List Bool} {cs : List Int} {N : Nat} (hN : N ≤ 1000) (hU : U.length = N) (hc : cs.length = N) (hl : w.classes.length ≤ 1000) (hs : ∀ c ∈ w.classes, c.length ≤ 1000) {a : Nat} (ha : a < N) : ∀ (k j : Nat), j + k = N ->
  ∃ e : Int, E.L 27 17 [.ro 1 (cs.map (AV.int .i64)), .ptr 60000 0 0, .int .i64 0, bV U, .int .i64 a, .int .i64 j] (wO w) = some ((if anyF (rcl w U cs a) k j then .ret else .exit 4, [.ro 1 (cs.map (AV.int .i64)), .ptr 60000 0 0, .int .i64 (if anyF (rcl w U cs a) k j then 250 else 0), bV U, .int .i64 a, .int .i64 e], wO w), True) := by
 have r2 : ((a : Int) < N) = True := eq_true (by omega)
 have r3 : (0 ≤ (a : Int)) = True := eq_true (by omega)
 have gUa := getB (l := U) (i := a) (by omega)
 have gca := getI (l := cs) (i := a) (by omega)
 intro k
 induction k with
 | zero =>
  intro j h
  have q : ((j : Int) < N) = False := eq_false (by omega)
  refine ⟨j, ?_⟩
  rw [l27_17]
  simp (maxSteps := 100000000) only [ivc, anf, vlen, vbuiltin, nilR, eq_self, Nat.reduceEqDiff, Nat.reduceLT, Nat.reduceLeDiff, Nat.reduceAdd, Nat.reduceBEq, reduceCtorEq, ↓reduceIte, tyb, wO, wdV, bV, hU, q, anyF]
 | succ k ih =>
  intro j h
  have q : ((j : Int) < N) = True := eq_true (by omega)
  have q2 : (0 ≤ (j : Int)) = True := eq_true (by omega)
  have gU := getB (l := U) (i := j) (by omega)
  have gc := getI (l := cs) (i := j) (by omega)
  have hw : IntKind.i64.wrap ((j : Int) + 1) = j + 1 := wrap_id (by omega) (by omega)
  have cv := conflict_ev (w := w) (a := a) (b := j) hl hs
  obtain ⟨e, ih'⟩ := ih (j + 1) (by omega)
  simp only [Int.natCast_add, Int.cast_ofNat_Int, wO, wdV, bV] at ih' cv
  have re : rcl w U cs a j = (U.getD a false && (U.getD j false && ((cs.getD a 0 == cs.getD j 0) && cfB w a j))) := rfl
  cases b1 : U.getD a false with
  | false =>
   rw [b1] at gUa re
   refine ⟨e, ?_⟩
   rw [l27_17]
   simp (maxSteps := 100000000) only [ivc, anf, vlen, vbuiltin, nilR, eq_self, Nat.reduceEqDiff, Nat.reduceLT, Nat.reduceLeDiff, Nat.reduceAdd, Nat.reduceBEq, reduceCtorEq, ↓reduceIte, tyb, wO, wdV, bV, hU, hc, q, q2, r2, r3, gUa, gU, gca, gc, hw, anyF, re, ih']
   try exact some_true (by omega)
  | true =>
   rw [b1] at gUa re
   cases b2 : U.getD j false with
   | false =>
    rw [b2] at gU re
    refine ⟨e, ?_⟩
    rw [l27_17]
    simp (maxSteps := 100000000) only [ivc, anf, vlen, vbuiltin, nilR, eq_self, Nat.reduceEqDiff, Nat.reduceLT, Nat.reduceLeDiff, Nat.reduceAdd, Nat.reduceBEq, reduceCtorEq, ↓reduceIte, tyb, wO, wdV, bV, hU, hc, q, q2, r2, r3, gUa, gU, gca, gc, hw, anyF, re, ih']
    try exact some_true (by omega)
   | true =>
    rw [b2] at gU re
    cases b3 : (cs.getD a 0 == cs.getD j 0) with
    | false =>
     rw [b3] at re
     refine ⟨e, ?_⟩
     rw [l27_17]
     simp (maxSteps := 100000000) only [ivc, anf, vlen, vbuiltin, nilR, eq_self, Nat.reduceEqDiff, Nat.reduceLT, Nat.reduceLeDiff, Nat.reduceAdd, Nat.reduceBEq, reduceCtorEq, ↓reduceIte, tyb, wO, wdV, bV, hU, hc, q, q2, r2, r3, gUa, gU, gca, gc, b3, hw, anyF, re, ih']
     try exact some_true (by omega)
    | true =>
     rw [b3] at re
     cases b4 : cfB w a j with
     | false =>
      rw [b4] at re cv
      refine ⟨e, ?_⟩
      rw [l27_17]
      simp (maxSteps := 100000000) only [ivc, anf, vlen, vbuiltin, nilR, eq_self, Nat.reduceEqDiff, Nat.reduceLT, Nat.reduceLeDiff, Nat.reduceAdd, Nat.reduceBEq, reduceCtorEq, ↓reduceIte, tyb, wO, wdV, bV, hU, hc, q, q2, r2, r3, gUa, gU, gca, gc, b3, cv, hw, anyF, re, ih']
      try exact some_true (by omega)
     | true =>
      rw [b4] at re cv
      refine ⟨j, ?_⟩
      rw [l27_17]
      simp (maxSteps := 100000000) only [ivc, anf, vlen, vbuiltin, nilR, eq_self, Nat.reduceEqDiff, Nat.reduceLT, Nat.reduceLeDiff, Nat.reduceAdd, Nat.reduceBEq, reduceCtorEq, ↓reduceIte, tyb, wO, wdV, bV, hU, hc, q, q2, r2, r3, gUa, gU, gca, gc, b3, cv, anyF, re]
      try exact some_true (by omega)
def rclA (w : Wd) (U : List Bool) (cs : List Int) (N a : Nat) : Bool := anyF (rcl w U cs a) (N - (a + 1)) (a + 1)
theorem rc14_loop {w : Wd} {U : List Bool} {cs : List Int} {N : Nat} (hN : N ≤ 1000) (hU : U.length = N) (hc : cs.length = N) (hl : w.classes.length ≤ 1000) (hs : ∀ c ∈ w.classes, c.length ≤ 1000) : ∀ (k j : Nat), j + k = N ->
  ∃ e : Int, E.L 27 14 [.ro 1 (cs.map (AV.int .i64)), .ptr 60000 0 0, .int .i64 0, bV U, .int .i64 j] (wO w) = some ((if anyF (rclA w U cs N) k j then .ret else .exit 2, [.ro 1 (cs.map (AV.int .i64)), .ptr 60000 0 0, .int .i64 (if anyF (rclA w U cs N) k j then 250 else 0), bV U, .int .i64 e], wO w), True) := by
 intro k
 induction k with
 | zero =>
  intro j h
  have q : ((j : Int) < N) = False := eq_false (by omega)
  refine ⟨j, ?_⟩
  rw [l27_14]
  simp (maxSteps := 100000000) only [ivc, anf, vlen, vbuiltin, nilR, eq_self, Nat.reduceEqDiff, Nat.reduceLT, Nat.reduceLeDiff, Nat.reduceAdd, Nat.reduceBEq, reduceCtorEq, ↓reduceIte, tyb, wO, wdV, bV, hU, q, anyF]
 | succ k ih =>
  intro j h
  have q : ((j : Int) < N) = True := eq_true (by omega)
  have hw : IntKind.i64.wrap ((j : Int) + 1) = j + 1 := wrap_id (by omega) (by omega)
  obtain ⟨e1, lp⟩ := rc17_loop (w := w) hN hU hc hl hs (a := j) (by omega) (N - (j + 1)) (j + 1) (by omega)
  obtain ⟨e, ih'⟩ := ih (j + 1) (by omega)
  have re : anyF (rcl w U cs j) (N - (j + 1)) (j + 1) = rclA w U cs N j := rfl
  rw [re] at lp
  simp only [Int.natCast_add, Int.cast_ofNat_Int, wO, wdV, bV] at ih' lp
  cases b : rclA w U cs N j with
  | true =>
   simp only [b, if_true] at lp
   refine ⟨j, ?_⟩
   rw [l27_14]
   simp (maxSteps := 100000000) only [ivc, anf, vlen, vbuiltin, nilR, eq_self, Nat.reduceEqDiff, Nat.reduceLT, Nat.reduceLeDiff, Nat.reduceAdd, Nat.reduceBEq, reduceCtorEq, ↓reduceIte, tyb, wO, wdV, bV, hU, q, hw, lp, anyF, b]
   try exact some_true (by omega)
  | false =>
   simp only [b, Bool.false_eq_true, if_false] at lp
   refine ⟨e, ?_⟩
   rw [l27_14]
   simp (maxSteps := 100000000) only [ivc, anf, vlen, vbuiltin, nilR, eq_self, Nat.reduceEqDiff, Nat.reduceLT, Nat.reduceLeDiff, Nat.reduceAdd, Nat.reduceBEq, reduceCtorEq, ↓reduceIte, tyb, wO, wdV, bV, hU, q, hw, lp, anyF, b, ih']
   try exact some_true (by omega)
def rccM (w : Wd) (cs : List Int) : Int := if ckM w = 0 then if cs.length = (unW w).length then if anyF (rb1 (unW w) cs) cs.length 0 then 3 else if anyF (rclA w (unW w) cs cs.length) cs.length 0 then 250 else 0 else 4 else ckM w
theorem rcc_ev {w : Wd} {cs : List Int} : E.F 27 [wdV w, .ro 1 (cs.map (AV.int .i64))] [] = some ((.int .i64 (rccM w cs), []), True) := by
 have h1 := rcheck_ev (w := w)
 unfold rccM
 rw [e27]
 by_cases h : ckM w = 0
 ·rw [if_pos h]
  rw [h] at h1
  have g := good_of h
  have gn := g.nc
  have gs : ∀ c ∈ w.classes, c.length ≤ 1000 /\ ∀ e ∈ c, 0 ≤ e.s /\ e.s < 500 := fun c hc => ⟨by have := g.len c hc; omega, fun e he => (g.ent c hc e he).1⟩
  have h2 := und_ev (w := w) (by omega) gs
  have hul : (unW w).length ≤ 500 := by
   rw [unW_len]
   have := (moM_rng (cs := w.classes) (n := 0) (fun c hc => (gs c hc).2) (by omega) (by omega)).2.1
   omega
  simp only [wdV] at h1 h2
  generalize unW w = U at h2 hul ⊢
  by_cases hl : cs.length = U.length
  ·rw [if_pos hl]
   obtain ⟨x9, l9⟩ := rc9_loop (w := w) (U := U) (cs := cs) (N := cs.length) (by omega) hl.symm rfl cs.length 0 (by omega)
   obtain ⟨x14, l14⟩ := rc14_loop (w := w) (U := U) (cs := cs) (N := cs.length) (by omega) hl.symm rfl (by omega) (fun c hc => (gs c hc).1) cs.length 0 (by omega)
   have hb : ((cs.length : Int) != U.length) = false := by rw [hl]; simp
   simp only [wdV, wO, bV, Int.natCast_zero] at l9 l14
   cases b1 : anyF (rb1 U cs) cs.length 0 with
   | true =>
    simp only [b1, if_true] at l9
    simp (maxSteps := 100000000) only [ivc, anf, vlen, vbuiltin, nilR, salloc, eq_self, Nat.reduceEqDiff, Nat.reduceLT, Nat.reduceLeDiff, Nat.reduceAdd, Nat.reduceBEq, Int.reduceNeg, reduceCtorEq, ↓reduceIte, tyb, wdV, h1, h2, hb, l9]
   | false =>
    simp only [b1, Bool.false_eq_true, if_false] at l9
    cases b2 : anyF (rclA w U cs cs.length) cs.length 0 with
    | true =>
     simp only [b2, if_true] at l14
     simp (maxSteps := 100000000) only [ivc, anf, vlen, vbuiltin, nilR, salloc, eq_self, Nat.reduceEqDiff, Nat.reduceLT, Nat.reduceLeDiff, Nat.reduceAdd, Nat.reduceBEq, Int.reduceNeg, reduceCtorEq, ↓reduceIte, tyb, wdV, h1, h2, hb, l9, l14]
    | false =>
     simp only [b2, Bool.false_eq_true, if_false] at l14
     simp (maxSteps := 100000000) only [ivc, anf, vlen, vbuiltin, nilR, salloc, eq_self, Nat.reduceEqDiff, Nat.reduceLT, Nat.reduceLeDiff, Nat.reduceAdd, Nat.reduceBEq, Int.reduceNeg, reduceCtorEq, ↓reduceIte, tyb, wdV, h1, h2, hb, l9, l14]
  ·rw [if_neg hl]
   have hb : ((cs.length : Int) != U.length) = true := bne_iff_ne.2 (by omega)
   simp (maxSteps := 100000000) only [ivc, anf, vlen, vbuiltin, nilR, salloc, eq_self, Nat.reduceEqDiff, Nat.reduceLT, Nat.reduceLeDiff, Nat.reduceAdd, Nat.reduceBEq, Int.reduceNeg, reduceCtorEq, ↓reduceIte, tyb, wdV, h1, h2, hb]
 ·rw [if_neg h]
  have h' : (ckM w != 0) = true := bne_iff_ne.2 h
  simp only [wdV] at h1
  simp (maxSteps := 100000000) only [ivc, anf, nilR, salloc, eq_self, Nat.reduceEqDiff, Nat.reduceLT, Nat.reduceLeDiff, Nat.reduceAdd, Nat.reduceBEq, Int.reduceNeg, reduceCtorEq, ↓reduceIte, tyb, wdV, h1, h']
theorem nu_loop {l : List Bool} (hl : l.length ≤ 1000000) : ∀ (r m : List Bool) (o : List Int), l = m ++ r -> o.length ≤ m.length ->
  E.L 64 4 [bV l, .sl 60000 0 o.length, .int .i64 m.length] [(60000, iR o)] = some ((.exit 0, [bV l, .sl 60000 0 (o ++ lsM r m.length).length, .int .i64 l.length], [(60000, iR (o ++ lsM r m.length))]), True) := by
 intro r
 induction r with
 | nil =>
  intro m o h ho
  rw [List.append_nil] at h
  subst h
  have q : ((l.length : Int) < l.length) = False := eq_false (by omega)
  rw [l64_4]
  simp (maxSteps := 100000000) only [ivc, anf, vlen, vbuiltin, nilR, eq_self, Nat.reduceEqDiff, Nat.reduceLT, Nat.reduceLeDiff, Nat.reduceAdd, Nat.reduceBEq, reduceCtorEq, ↓reduceIte, tyb, iR, bV, q, lsM]
 | cons b r ih =>
  intro m o h ho
  have hn : m.length + (r.length + 1) = l.length := by rw [h]; simp
  have hi' : (m.length : Int) < l.length := by omega
  have hg := getD_map (f := AV.bool) (show l[m.length]? = some b by rw [h]; simp)
  have hw : IntKind.i64.wrap ((m.length : Int) + 1) = m.length + 1 := wrap_id (by omega) (by omega)
  have hc : (0 ≤ (m.length : Int) /\ (m.length : Int) < l.length) = True := eq_true (by omega)
  cases b with
  | true =>
   have ih' := ih (m ++ [true]) (o ++ [(m.length : Int)]) (by simp [h]) (by simp; omega)
   rw [show lsM (true :: r) (m.length : Int) = (m.length : Int) :: lsM r (m.length + 1) from rfl]
   rw [List.append_assoc] at ih'
   simp only [List.length_append, List.length_cons, List.length_nil, Nat.zero_add, Int.natCast_add, Int.cast_ofNat_Int, iR, bV, List.map_append, List.map_cons, List.map_nil, List.cons_append, List.nil_append] at ih'
   rw [l64_4]
   simp (maxSteps := 100000000) only [ivc, anf, vlen, vbuiltin, nilR, salloc, sappend, eq_self, Nat.reduceEqDiff, Nat.reduceLT, Nat.reduceLeDiff, Nat.reduceAdd, Nat.reduceBEq, reduceCtorEq, ↓reduceIte, tyb, iR, bV, hi', hg, hw, ih']
   exact some_true (by omega)
  | false =>
   have ih' := ih (m ++ [false]) o (by simp [h]) (by simp; omega)
   rw [show lsM (false :: r) (m.length : Int) = lsM r (m.length + 1) from rfl]
   simp only [List.length_append, List.length_cons, List.length_nil, Nat.zero_add, Int.natCast_add, Int.cast_ofNat_Int, iR, bV] at ih'
   rw [l64_4]
   simp (maxSteps := 100000000) only [ivc, anf, vlen, vbuiltin, nilR, eq_self, Nat.reduceEqDiff, Nat.reduceLT, Nat.reduceLeDiff, Nat.reduceAdd, Nat.reduceBEq, reduceCtorEq, ↓reduceIte, tyb, iR, bV, hi', hg, hw, ih']
   exact some_true (by omega)
theorem numbers_ev {l : List Bool} (hl : l.length ≤ 1000000) : E.F 64 [.ro 1 (l.map AV.bool)] [] = some ((.ro 1 ((lsM l 0).map (AV.int .i64)), []), True) := by
 have h := nu_loop hl l [] [] rfl (Nat.le_refl _)
 have hn := lsM_len (l := l) (n := 0)
 simp only [List.length_nil, Int.natCast_zero, List.nil_append, iR, bV, List.map_nil] at h
 generalize lsM l 0 = L at h hn ⊢
 have tk : (L.map (AV.int .i64)).take L.length = L.map (AV.int .i64) := List.take_of_length_le (by simp)
 rw [e64]
 simp (maxSteps := 100000000) only [ivc, anf, eq_self, Nat.reduceEqDiff, Nat.reduceLT, Nat.reduceLeDiff, Nat.reduceAdd, Nat.reduceBEq, reduceCtorEq, ↓reduceIte, h, tk]
 try exact some_true (by omega)
def anyC (F : Int -> Bool) : Nat -> Int -> Bool
 | 0, _ => false
 | n + 1, c => F c || anyC F n (c + 1)
def usM (cs : List Int) (u : Int) : Int := cs.foldl (fun u c => maxI u (c + 1)) u
def bdB (w : Wd) (l cs : List Int) (s c : Int) (j : Nat) : Bool := !(cs.getD j 0 != c) && cfB w s (l.getD j 0)
def fnB (w : Wd) (l cs : List Int) (s c : Int) : Bool := !(anyF (bdB w l cs s c) cs.length 0)
def pntM (w : Wd) (k : Int) (l : List Int) : List Int -> List Int -> Bool
 | [], _ => true
 | s :: r, cs => anyC (fun c => fnB w l cs s c && pntM w k l r (cs ++ [c])) (min k (usM cs 0 + 1)).toNat 0
theorem us_loop {w : Wd} {L : AV} {cs : List Int} {k : Int} (hl : cs.length ≤ 1000) (hc : ∀ c ∈ cs, 0 ≤ c /\ c ≤ 1000) : ∀ (r m : List Int) (u : Int), cs = m ++ r ->
  ∀ l : List Int, L = .ro 1 (l.map (AV.int .i64)) -> E.L 65 6 [L, .ro 1 (cs.map (AV.int .i64)), .int .i64 cs.length, .int .i64 k, .ptr 60000 0 0, .int .i64 u, .int .i64 m.length] (wO w) = some ((.exit 0, [L, .ro 1 (cs.map (AV.int .i64)), .int .i64 cs.length, .int .i64 k, .ptr 60000 0 0, .int .i64 (usM r u), .int .i64 cs.length], wO w), True) := by
 intro r
 induction r with
 | nil =>
  intro m u h l hL
  rw [List.append_nil] at h
  subst h
  subst hL
  have q : ((cs.length : Int) < cs.length) = False := eq_false (by omega)
  rw [l65_6]
  simp (maxSteps := 100000000) only [ivc, anf, nilR, eq_self, Nat.reduceEqDiff, Nat.reduceLT, Nat.reduceLeDiff, Nat.reduceAdd, Nat.reduceBEq, reduceCtorEq, ↓reduceIte, tyb, wO, wdV, q, usM, List.foldl_nil]
 | cons x r ih =>
  intro m u h l hL
  have hn : m.length + (r.length + 1) = cs.length := by rw [h]; simp
  have hi' : (m.length : Int) < cs.length := by omega
  have hg := getD_map (f := AV.int .i64) (show cs[m.length]? = some x by rw [h]; simp)
  have hx := hc x (by rw [h]; simp)
  have hw : IntKind.i64.wrap ((m.length : Int) + 1) = m.length + 1 := wrap_id (by omega) (by omega)
  have hw2 : IntKind.i64.wrap (x + 1) = x + 1 := wrap_id (by omega) (by omega)
  have hc0 : (0 ≤ (m.length : Int) /\ (m.length : Int) < cs.length) = True := eq_true (by omega)
  have ih' := ih (m ++ [x]) (maxI u (x + 1)) (by simp [h]) l hL
  subst hL
  simp only [List.length_append, List.length_cons, List.length_nil, Nat.zero_add, Int.natCast_add, Int.cast_ofNat_Int, wO, wdV, usM, maxI] at ih'
  rw [l65_6]
  simp (maxSteps := 100000000) only [ivc, anf, vbuiltin, nilR, eq_self, Nat.reduceEqDiff, Nat.reduceLT, Nat.reduceLeDiff, Nat.reduceAdd, Nat.reduceBEq, reduceCtorEq, ↓reduceIte, tyb, wO, wdV, hi', hg, hw, hw2, ih', usM, maxI, List.foldl_cons]
  exact some_true (by omega)
theorem fn_loop {w : Wd} {l cs : List Int} {s c k u : Int} (hl : l.length ≤ 1000) (hi : cs.length < l.length) (hs : l[cs.length]? = some s) (hcl : w.classes.length ≤ 1000) (hcs : ∀ c ∈ w.classes, c.length ≤ 1000) : ∀ (n j : Nat) (b : Bool), j + n = cs.length ->
  E.L 65 14 [.ro 1 (l.map (AV.int .i64)), .ro 1 (cs.map (AV.int .i64)), .int .i64 cs.length, .int .i64 k, .ptr 60000 0 0, .junk, .int .i64 u, .int .i64 c, .bool b, .int .i64 j] (wO w)
  = some ((.exit 4, [.ro 1 (l.map (AV.int .i64)), .ro 1 (cs.map (AV.int .i64)), .int .i64 cs.length, .int .i64 k, .ptr 60000 0 0, .junk, .int .i64 u, .int .i64 c, .bool (b && !(anyF (bdB w l cs s c) n j)), .int .i64 cs.length], wO w), True) := by
 have hgs := getD_map (f := AV.int .i64) hs
 have r2 : ((cs.length : Int) < l.length) = True := eq_true (by omega)
 have r3 : (0 ≤ (cs.length : Int)) = True := eq_true (by omega)
 intro n
 induction n with
 | zero =>
  intro j b h
  have hj : j = cs.length := by omega
  subst hj
  have q : ((cs.length : Int) < cs.length) = False := eq_false (by omega)
  rw [l65_14]
  simp (maxSteps := 100000000) only [ivc, anf, nilR, eq_self, Nat.reduceEqDiff, Nat.reduceLT, Nat.reduceLeDiff, Nat.reduceAdd, Nat.reduceBEq, reduceCtorEq, ↓reduceIte, tyb, wO, wdV, q, anyF]
 | succ n ih =>
  intro j b h
  have q : ((j : Int) < cs.length) = True := eq_true (by omega)
  have q2 : (0 ≤ (j : Int)) = True := eq_true (by omega)
  have q3 : ((j : Int) < l.length) = True := eq_true (by omega)
  have hw : IntKind.i64.wrap ((j : Int) + 1) = j + 1 := wrap_id (by omega) (by omega)
  have g1 := getI (l := cs) (i := j) (by omega)
  have g2 := getI (l := l) (i := j) (by omega)
  have cv := conflict_ev (w := w) (a := s) (b := l.getD j 0) hcl hcs
  have ih' := ih (j + 1) (b && !(bdB w l cs s c j)) (by omega)
  rw [Bool.and_assoc, <- Bool.not_or] at ih'
  rw [anyF]
  simp only [Int.natCast_add, Int.cast_ofNat_Int, wO, wdV] at ih'
  simp only [wdV] at cv
  have te : bdB w l cs s c j = (!(cs.getD j 0 != c) && cfB w s (l.getD j 0)) := rfl
  cases b with
  | false =>
   simp only [Bool.false_and] at ih' ⊢
   rw [l65_14]
   simp (maxSteps := 100000000) only [ivc, anf, vop, nilR, eq_self, Nat.reduceEqDiff, Nat.reduceLT, Nat.reduceLeDiff, Nat.reduceAdd, Nat.reduceBEq, reduceCtorEq, ↓reduceIte, tyb, wO, wdV, hgs, r2, r3, q, q2, q3, hw, g1, g2, ih']
   try exact some_true (by omega)
  | true =>
   cases b1 : (cs.getD j 0 != c) with
   | true =>
    rw [te, b1, Bool.not_true, Bool.false_and, Bool.false_or] at ih' ⊢
    simp only [Bool.true_and, Bool.not_false] at ih' ⊢
    rw [l65_14]
    simp (maxSteps := 100000000) only [ivc, anf, vop, nilR, eq_self, Nat.reduceEqDiff, Nat.reduceLT, Nat.reduceLeDiff, Nat.reduceAdd, Nat.reduceBEq, reduceCtorEq, ↓reduceIte, tyb, wO, wdV, hgs, r2, r3, q, q2, q3, hw, g1, g2, b1, ih']
    try exact some_true (by omega)
   | false =>
    rw [te, b1, Bool.not_false, Bool.true_and] at ih' ⊢
    cases b2 : cfB w s (l.getD j 0) with
    | true =>
     rw [b2] at cv ih'
     simp only [Bool.true_and, Bool.true_or, Bool.not_true] at ih' ⊢
     rw [l65_14]
     simp (maxSteps := 100000000) only [ivc, anf, vop, nilR, eq_self, Nat.reduceEqDiff, Nat.reduceLT, Nat.reduceLeDiff, Nat.reduceAdd, Nat.reduceBEq, reduceCtorEq, ↓reduceIte, tyb, wO, wdV, hgs, r2, r3, q, q2, q3, hw, g1, g2, b1, cv, ih']
     try exact some_true (by omega)
    | false =>
     rw [b2] at cv ih'
     simp only [Bool.true_and, Bool.false_or, Bool.not_false] at ih' ⊢
     rw [l65_14]
     simp (maxSteps := 100000000) only [ivc, anf, vop, nilR, eq_self, Nat.reduceEqDiff, Nat.reduceLT, Nat.reduceLeDiff, Nat.reduceAdd, Nat.reduceBEq, reduceCtorEq, ↓reduceIte, tyb, wO, wdV, hgs, r2, r3, q, q2, q3, hw, g1, g2, b1, cv, ih']
     try exact some_true (by omega)
def pmH (w : Wd) (m : List Int) : HL := [(60000, ⟨true, 3, [wdV w]⟩), (60001, iR m)]
theorem mr_loop {w : Wd} {l cs : List Int} {c k u : Int} {b : Bool} (hl : cs.length ≤ 1000) : ∀ (r m : List Int), cs = m ++ r ->
  E.L 65 19 [.ro 1 (l.map (AV.int .i64)), .ro 1 (cs.map (AV.int .i64)), .int .i64 cs.length, .int .i64 k, .ptr 60000 0 0, .junk, .int .i64 u, .int .i64 c, .bool b, .sl 60001 0 m.length, .int .i64 m.length] (pmH w m)
  = some ((.exit 6, [.ro 1 (l.map (AV.int .i64)), .ro 1 (cs.map (AV.int .i64)), .int .i64 cs.length, .int .i64 k, .ptr 60000 0 0, .junk, .int .i64 u, .int .i64 c, .bool b, .sl 60001 0 cs.length, .int .i64 cs.length], pmH w cs), True) := by
 intro r
 induction r with
 | nil =>
  intro m h
  rw [List.append_nil] at h
  subst h
  have q : ((cs.length : Int) < cs.length) = False := eq_false (by omega)
  rw [l65_19]
  simp (maxSteps := 100000000) only [ivc, anf, nilR, eq_self, Nat.reduceEqDiff, Nat.reduceLT, Nat.reduceLeDiff, Nat.reduceAdd, Nat.reduceBEq, reduceCtorEq, ↓reduceIte, tyb, pmH, iR, wdV, q]
 | cons x r ih =>
  intro m h
  have hn : m.length + (r.length + 1) = cs.length := by rw [h]; simp
  have hi' : (m.length : Int) < cs.length := by omega
  have hg := getD_map (f := AV.int .i64) (show cs[m.length]? = some x by rw [h]; simp)
  have hw : IntKind.i64.wrap ((m.length : Int) + 1) = m.length + 1 := wrap_id (by omega) (by omega)
  have hc0 : (0 ≤ (m.length : Int) /\ (m.length : Int) < cs.length) = True := eq_true (by omega)
  have ih' := ih (m ++ [x]) (by simp [h])
  simp only [List.length_append, List.length_cons, List.length_nil, Nat.zero_add, Int.natCast_add, Int.cast_ofNat_Int, pmH, iR, wdV, List.map_append, List.map_cons, List.map_nil] at ih'
  rw [l65_19]
  simp (maxSteps := 100000000) only [ivc, anf, nilR, salloc, sappend, eq_self, Nat.reduceEqDiff, Nat.reduceLT, Nat.reduceLeDiff, Nat.reduceAdd, Nat.reduceBEq, reduceCtorEq, ↓reduceIte, tyb, pmH, iR, wdV, hi', hg, hw, ih']
  exact some_true (by omega)
theorem pt_loop {w : Wd} {l cs : List Int} {s k u : Int} {P : Int -> Bool} (hl : l.length ≤ 1000) (hi : cs.length < l.length) (hs : l[cs.length]? = some s) (hcl : w.classes.length ≤ 1000) (hcs : ∀ c ∈ w.classes, c.length ≤ 1000) (hu : u ≤ 1001) (hk : k ≤ 1000)
  (hP : ∀ c, 0 ≤ c -> c < k -> c ≤ u -> E.F 65 [wdV w, .ro 1 (l.map (AV.int .i64)), .ro 1 ((cs ++ [c]).map (AV.int .i64)), .int .i64 (cs.length + 1), .int .i64 k] [] = some ((.bool (P c), []), True)) :
  ∀ (n : Nat) (c : Int), 0 ≤ c -> (c + n = min k (u + 1) \/ (n = 0 /\ min k (u + 1) ≤ c)) ->
  ∃ e : Int, E.L 65 10 [.ro 1 (l.map (AV.int .i64)), .ro 1 (cs.map (AV.int .i64)), .int .i64 cs.length, .int .i64 k, .ptr 60000 0 0, .junk, .int .i64 u, .int .i64 c] (wO w)
  = some ((if anyC (fun c => fnB w l cs s c && P c) n c then .ret else .exit 2, [.ro 1 (l.map (AV.int .i64)), .ro 1 (cs.map (AV.int .i64)), .int .i64 cs.length, .int .i64 k, .ptr 60000 0 0, (if anyC (fun c => fnB w l cs s c && P c) n c then .bool true else .junk), .int .i64 u, .int .i64 e], wO w), True) := by
 intro n
 induction n with
 | zero =>
  intro c h0 h
  refine ⟨c, ?_⟩
  rw [l65_10]
  by_cases b1 : c < k
  ·have b2 : ¬ c ≤ u := by omega
   simp (maxSteps := 100000000) only [ivc, anf, nilR, eq_self, Nat.reduceEqDiff, Nat.reduceLT, Nat.reduceLeDiff, Nat.reduceAdd, Nat.reduceBEq, reduceCtorEq, ↓reduceIte, tyb, wO, wdV, b1, b2, anyC]
   try exact some_true (by omega)
  ·simp (maxSteps := 100000000) only [ivc, anf, nilR, eq_self, Nat.reduceEqDiff, Nat.reduceLT, Nat.reduceLeDiff, Nat.reduceAdd, Nat.reduceBEq, reduceCtorEq, ↓reduceIte, tyb, wO, wdV, b1, anyC]
   try exact some_true (by omega)
 | succ n ih =>
  intro c h0 h
  have b1 : c < k := by omega
  have b2 : c ≤ u := by omega
  have hw : IntKind.i64.wrap (c + 1) = c + 1 := wrap_id (by omega) (by omega)
  have hw2 : IntKind.i64.wrap ((cs.length : Int) + 1) = cs.length + 1 := wrap_id (by omega) (by omega)
  have f := fn_loop (w := w) (l := l) (cs := cs) (s := s) (c := c) (k := k) (u := u) hl hi hs hcl hcs cs.length 0 true (by omega)
  rw [Bool.true_and, show (!(anyF (bdB w l cs s c) cs.length 0)) = fnB w l cs s c from rfl] at f
  have mo := fun b => mr_loop (w := w) (l := l) (cs := cs) (c := c) (k := k) (u := u) (b := b) (by omega) cs [] rfl
  have p := hP c h0 b1 b2
  obtain ⟨e, ih'⟩ := ih (c + 1) (by omega) (by omega)
  rw [anyC]
  simp only [Int.natCast_zero, List.length_nil, List.map_nil, List.map_append, List.map_cons, pmH, iR, wO, wdV] at f mo p ih'
  cases d1 : fnB w l cs s c with
  | false =>
   rw [d1] at f
   refine ⟨e, ?_⟩
   rw [Bool.false_and, Bool.false_or, l65_10]
   simp (maxSteps := 100000000) only [ivc, anf, nilR, salloc, sappend, eq_self, Nat.reduceEqDiff, Nat.reduceLT, Nat.reduceLeDiff, Nat.reduceAdd, Nat.reduceBEq, reduceCtorEq, ↓reduceIte, tyb, wO, wdV, b1, b2, hw, hw2, f, mo, ih']
   try exact some_true (by omega)
  | true =>
   rw [d1] at f
   rw [Bool.true_and]
   cases d2 : P c with
   | true =>
    rw [d2] at p
    refine ⟨c, ?_⟩
    rw [Bool.true_or, l65_10]
    simp (maxSteps := 100000000) only [ivc, anf, nilR, salloc, sappend, eq_self, Nat.reduceEqDiff, Nat.reduceLT, Nat.reduceLeDiff, Nat.reduceAdd, Nat.reduceSub, Nat.reduceBEq, reduceCtorEq, ↓reduceIte, tyb, wO, wdV, b1, b2, hw2, f, mo, p]
    try exact some_true (by omega)
   | false =>
    rw [d2] at p
    refine ⟨e, ?_⟩
    rw [Bool.false_or, l65_10]
    simp (maxSteps := 100000000) only [ivc, anf, nilR, salloc, sappend, eq_self, Nat.reduceEqDiff, Nat.reduceLT, Nat.reduceLeDiff, Nat.reduceAdd, Nat.reduceSub, Nat.reduceBEq, reduceCtorEq, ↓reduceIte, tyb, wO, wdV, b1, b2, hw, hw2, f, mo, p, ih']
    try exact some_true (by omega)
theorem usM_le {N : Int} : ∀ {cs : List Int} {u : Int}, u ≤ N -> (∀ c ∈ cs, c < N) -> usM cs u ≤ N
 | [], u, h, _ => h
 | x :: cs, u, h, hc => by
  rw [show usM (x :: cs) u = usM cs (maxI u (x + 1)) from rfl]
  refine usM_le ?_ (fun c h => hc c (by simp [h]))
  have := hc x (by simp)
  unfold maxI
  split <;> omega
theorem paint_ev {w : Wd} {l : List Int} {k : Int} (hl : l.length ≤ 1000) (hk : k ≤ 1000) (hcl : w.classes.length ≤ 1000) (hcs : ∀ c ∈ w.classes, c.length ≤ 1000) : ∀ (r m cs : List Int), l = m ++ r -> cs.length = m.length -> (∀ c ∈ cs, 0 ≤ c /\ c < 1000) ->
  E.F 65 [wdV w, .ro 1 (l.map (AV.int .i64)), .ro 1 (cs.map (AV.int .i64)), .int .i64 cs.length, .int .i64 k] [] = some ((.bool (pntM w k l r cs), []), True) := by
 intro r
 induction r with
 | nil =>
  intro m cs h hm hc
  rw [List.append_nil] at h
  subst h
  have q : ((l.length : Int) == l.length) = true := by simp
  rw [hm, e65]
  simp (maxSteps := 100000000) only [ivc, anf, vlen, vbuiltin, nilR, salloc, eq_self, Nat.reduceEqDiff, Nat.reduceLT, Nat.reduceLeDiff, Nat.reduceAdd, Nat.reduceBEq, ↓reduceIte, tyb, wdV, pntM]
 | cons s r ih =>
  intro m cs h hm hc
  have hn : m.length + (r.length + 1) = l.length := by rw [h]; simp
  have hs : l[cs.length]? = some s := by rw [h, hm]; simp
  have q : ((cs.length : Int) == l.length) = false := by simp; omega
  have us := us_loop (w := w) (cs := cs) (k := k) (by omega) (fun c h => by have := hc c h; omega) cs [] 0 rfl l rfl
  have ul := usM_le (N := 1000) (cs := cs) (u := 0) (by omega) (fun c h => (hc c h).2)
  have u0 : (0 : Int) ≤ usM cs 0 := by
   have : ∀ (cs : List Int) (u : Int), u ≤ usM cs u := by
    intro cs
    induction cs with
    | nil => intro u; exact Int.le_refl _
    | cons x cs ih =>
     intro u
     have := ih (maxI u (x + 1))
     rw [show usM (x :: cs) u = usM cs (maxI u (x + 1)) from rfl]
     have : u ≤ maxI u (x + 1) := by unfold maxI; split <;> omega
     omega
   exact this cs 0
  have lp := pt_loop (w := w) (l := l) (cs := cs) (s := s) (k := k) (u := usM cs 0) (P := fun c => pntM w k l r (cs ++ [c])) hl (by omega) hs hcl hcs (by omega) hk (fun c c0 c1 c2 => by
   have := ih (m ++ [s]) (cs ++ [c]) (by simp [h]) (by simp [hm]) (fun x hx => by
    rcases List.mem_append.1 hx with hx | hx
    ·exact hc x hx
    ·rw [List.mem_singleton] at hx
     omega)
   rw [List.length_append, List.length_cons, List.length_nil, Nat.zero_add, Int.natCast_add] at this
   exact this) (min k (usM cs 0 + 1)).toNat 0 (by omega) (by omega)
  obtain ⟨e, lp⟩ := lp
  rw [show anyC (fun c => fnB w l cs s c && pntM w k l r (cs ++ [c])) (min k (usM cs 0 + 1)).toNat 0 = pntM w k l (s :: r) cs from rfl] at lp
  simp only [List.length_nil, Int.natCast_zero, wO, wdV] at us lp
  rw [e65]
  cases d : pntM w k l (s :: r) cs with
  | true =>
   simp only [d, if_true] at lp
   simp (maxSteps := 100000000) only [ivc, anf, vlen, vbuiltin, nilR, salloc, eq_self, Nat.reduceEqDiff, Nat.reduceLT, Nat.reduceLeDiff, Nat.reduceAdd, Nat.reduceBEq, reduceCtorEq, ↓reduceIte, tyb, wdV, q, us, lp]
   try exact some_true (by omega)
  | false =>
   simp only [d, Bool.false_eq_true, if_false] at lp
   simp (maxSteps := 100000000) only [ivc, anf, vlen, vbuiltin, nilR, salloc, eq_self, Nat.reduceEqDiff, Nat.reduceLT, Nat.reduceLeDiff, Nat.reduceAdd, Nat.reduceBEq, reduceCtorEq, ↓reduceIte, tyb, wdV, q, us, lp]
   try exact some_true (by omega)
end Go.Proofs.YtikppcfabnnhfaaDoor

/- Plain: the reference's CheckColours is the program's. -/
namespace Go.Proofs.YtikppcfabnnhfaaDoor
open Go Go.Aw
set_option linter.unusedSimpArgs false
set_option linter.unusedVariables false
set_option maxRecDepth 100000
theorem mth_pos {s : Int} : ∀ {c : List Et}, (∀ e ∈ c, 0 ≤ e.m) -> (0 ≤ mthL c s ↔ s ∈ c.map Et.s)
 | [], _ => by simp [mthL]
 | e :: r, h => by
  have ih := mth_pos (s := s) (c := r) (fun x hx => h x (by simp [hx]))
  have he := h e (by simp)
  rw [mthL, List.map_cons, List.mem_cons]
  by_cases b : e.s = s
  ·rw [if_pos (beq_iff_eq.2 b)]
   exact ⟨fun _ => .inl b.symm, fun _ => he⟩
  ·rw [if_neg (fun q => b (beq_iff_eq.1 q)), ih]
   exact ⟨.inr, fun q => q.elim (fun q => absurd q.symm b) id⟩
theorem cfB_iff {w : Wd} (g : Good w) {a b : Int} : cfB w a b = true ↔ a ≠ b /\ ∃ c ∈ w.classes, a ∈ c.map Et.s /\ b ∈ c.map Et.s := by
 unfold cfB
 rw [List.any_eq_true]
 constructor
 ·rintro ⟨c, hc, h⟩
  simp only [cf1, Bool.and_eq_true, decide_eq_true_eq, bne_iff_ne] at h
  have hm : ∀ e ∈ c, 0 ≤ e.m := fun e he => (g.ent c hc e he).2.1
  exact ⟨h.1, c, hc, (mth_pos hm).1 h.2.1, (mth_pos hm).1 h.2.2⟩
 ·rintro ⟨hne, c, hc, h1, h2⟩
  have hm : ∀ e ∈ c, 0 ≤ e.m := fun e he => (g.ent c hc e he).2.1
  refine ⟨c, hc, ?_⟩
  simp only [cf1, Bool.and_eq_true, decide_eq_true_eq, bne_iff_ne]
  exact ⟨hne, (mth_pos hm).2 h1, (mth_pos hm).2 h2⟩
theorem cfB_near {w : Wd} (g : Good w) {a b : Int} (ha : selN a) (hb : selN b) : cfB w a b = hasW (graphW w) (nb a) b :=
 Bool.eq_iff_iff.2 ((cfB_iff g).trans (nearW ha hb (clsok_of g)).symm)
theorem setB {l : List Bool} {n i : Nat} (h : n < l.length) : (l.set n true).getD i false = (decide (i = n) || l.getD i false) := by
 rw [List.getD_eq_getElem?_getD, List.getD_eq_getElem?_getD, List.getElem?_set]
 by_cases hi : n = i
 ·subst hi
  simp [h]
 ·simp [hi]
  exact fun q => absurd q.symm hi
theorem unL_get {i : Nat} : ∀ {c : List Et} {u : List Bool}, (∀ e ∈ c, e.s.toNat < u.length) -> ((unL c u).getD i false = true ↔ u.getD i false = true \/ ∃ e ∈ c, e.s.toNat = i)
 | [], u, _ => by simp [unL]
 | x :: c, u, h => by
  rw [show unL (x :: c) u = unL c (u.set x.s.toNat true) from rfl, unL_get (fun e he => by rw [List.length_set]; exact h e (by simp [he])), setB (h x (by simp)), Bool.or_eq_true, decide_eq_true_eq]
  constructor
  ·rintro ((h | h) | ⟨e, he, h⟩)
   ·exact .inr ⟨x, by simp, Eq.symm h⟩
   ·exact .inl h
   ·exact .inr ⟨e, by simp [he], h⟩
  ·rintro (h | ⟨e, he, h⟩)
   ·exact .inl (.inr h)
   ·rcases List.mem_cons.1 he with q | he
    ·exact .inl (.inl (q ▸ Eq.symm h))
    ·exact .inr ⟨e, he, h⟩
theorem unM_get {i : Nat} : ∀ {cs : List (List Et)} {u : List Bool}, (∀ c ∈ cs, ∀ e ∈ c, e.s.toNat < u.length) -> ((unM cs u).getD i false = true ↔ u.getD i false = true \/ ∃ c ∈ cs, ∃ e ∈ c, e.s.toNat = i)
 | [], u, _ => by simp [unM]
 | x :: c, u, h => by
  rw [show unM (x :: c) u = unM c (unL x u) from rfl, unM_get (fun k hk e he => by rw [unL_len]; exact h k (by simp [hk]) e he), unL_get (h x (by simp))]
  constructor
  ·rintro ((h | h) | ⟨k, hk, h⟩)
   ·exact .inl h
   ·exact .inr ⟨x, by simp, h⟩
   ·exact .inr ⟨k, by simp [hk], h⟩
  ·rintro (h | ⟨k, hk, h⟩)
   ·exact .inl (.inl h)
   ·rcases List.mem_cons.1 hk with q | hk
    ·exact .inl (.inr (q ▸ h))
    ·exact .inr ⟨k, hk, h⟩
theorem moL_at : ∀ {c : List Et} {n : Int}, moL c n = n \/ ∃ e ∈ c, moL c n = e.s + 1
 | [], n => .inl rfl
 | x :: c, n => by
  rw [show moL (x :: c) n = moL c (maxI n (x.s + 1)) from rfl]
  rcases moL_at (c := c) (n := maxI n (x.s + 1)) with h | ⟨e, he, h⟩
  ·rw [h]
   unfold maxI
   split
   ·exact .inr ⟨x, by simp, rfl⟩
   ·exact .inl rfl
  ·exact .inr ⟨e, by simp [he], h⟩
theorem moM_at : ∀ {cs : List (List Et)} {n : Int}, moM cs n = n \/ ∃ c ∈ cs, ∃ e ∈ c, moM cs n = e.s + 1
 | [], n => .inl rfl
 | x :: c, n => by
  rw [show moM (x :: c) n = moM c (moL x n) from rfl]
  rcases moM_at (cs := c) (n := moL x n) with h | ⟨k, hk, e, he, h⟩
  ·rw [h]
   rcases moL_at (c := x) (n := n) with h | ⟨e, he, h⟩
   ·exact .inl h
   ·exact .inr ⟨x, by simp, e, he, h⟩
  ·exact .inr ⟨k, by simp [hk], e, he, h⟩
theorem moM_sz {w : Wd} (g : Good w) : moM w.classes 0 = szM (graphW w) 500 := by
 have hs : ∀ c ∈ w.classes, ∀ e ∈ c, 0 ≤ e.s /\ e.s < 500 := fun c hc e he => (g.ent c hc e he).1
 obtain ⟨a1, a2, a3⟩ := moM_rng (n := 0) hs (by omega) (by omega)
 have z := szM_spec (g := graphW w) (n := 500)
 have hz := szM_le (graphW w) 500
 have h1 : (szM (graphW w) 500 : Int) ≤ moM w.classes 0 := by
  rcases Nat.eq_zero_or_pos (szM (graphW w) 500) with h | h
  ·omega
  ·have := z.2 (szM (graphW w) 500 - 1) (by omega)
   rw [knownW ⟨by omega, by omega⟩ (clsok_of g)] at this
   obtain ⟨c, hc, hm⟩ := this
   obtain ⟨e, he, h2⟩ := List.mem_map.1 hm
   have := a3 c hc e he
   omega
 rcases moM_at (cs := w.classes) (n := 0) with h | ⟨c, hc, e, he, h⟩
 ·omega
 ·have h5 := hs c hc e he
  have hk := (knownW (m := e.s) h5 (clsok_of g)).2 ⟨c, hc, List.mem_map.2 ⟨e, he, rfl⟩⟩
  rw [show e.s = ((e.s.toNat : Nat) : Int) by omega] at hk
  have := szM_lt hk (n := 500) (by omega)
  omega
theorem unW_sz {w : Wd} (g : Good w) : (unW w).length = szM (graphW w) 500 := by
 have := moM_sz g
 rw [unW_len]
 omega
theorem unW_get {w : Wd} (g : Good w) {i : Nat} (hi : i < (unW w).length) : (unW w).getD i false = hasW (graphW w) 0 i := by
 have hs : ∀ c ∈ w.classes, ∀ e ∈ c, 0 ≤ e.s /\ e.s < 500 := fun c hc e he => (g.ent c hc e he).1
 obtain ⟨a1, a2, a3⟩ := moM_rng (n := 0) hs (by omega) (by omega)
 rw [unW_len] at hi
 refine Bool.eq_iff_iff.2 ?_
 rw [knownW ⟨by omega, by omega⟩ (clsok_of g)]
 unfold unW
 rw [unM_get (fun c hc e he => by have := a3 c hc e he; have := hs c hc e he; rw [fals, List.length_replicate]; omega)]
 have : (fals (moM w.classes 0).toNat).getD i false = false := by
  rw [List.getD_eq_getElem?_getD, fals, List.getElem?_replicate]
  split <;> rfl
 rw [this]
 constructor
 ·rintro (h | ⟨c, hc, e, he, h⟩)
  ·cases h
  ·exact ⟨c, hc, List.mem_map.2 ⟨e, he, by have := hs c hc e he; omega⟩⟩
 ·rintro ⟨c, hc, hm⟩
  obtain ⟨e, he, h⟩ := List.mem_map.1 hm
  exact .inr ⟨c, hc, e, he, by omega⟩
theorem anyF_iff {p : Nat -> Bool} : ∀ {k j : Nat}, anyF p k j = true ↔ ∃ i, j ≤ i /\ i < j + k /\ p i = true
 | 0, j => by
  constructor
  ·intro h
   cases h
  ·rintro ⟨i, h1, h2, _⟩
   omega
 | k + 1, j => by
  rw [anyF, Bool.or_eq_true, anyF_iff]
  constructor
  ·rintro (h | ⟨i, h1, h2, h3⟩)
   ·exact ⟨j, by omega, by omega, h⟩
   ·exact ⟨i, by omega, by omega, h3⟩
  ·rintro ⟨i, h1, h2, h3⟩
   by_cases hi : i = j
   ·exact .inl (hi ▸ h3)
   ·exact .inr ⟨i, by omega, by omega, h3⟩
theorem rb_bad {g : List Int} {U : List Bool} {cs : List Int} {i : Nat} (h : U.getD i false = hasW g 0 i) : rb1 U cs i = badC g i (cs.getD i 0) := by
 unfold rb1 badC
 rw [h]
 generalize cs.getD i 0 = c
 refine Bool.eq_iff_iff.2 ?_
 cases hasW g 0 i <;> simp <;> omega
theorem rcc_eq {w : Wd} {cs : List Int} : rccM w cs = ccM w cs := by
 unfold rccM ccM
 rcases Classical.em (ckM w = 0) with hk | hk
 case inr => rw [if_neg hk, if_neg hk]
 rw [if_pos hk, if_pos hk]
 have g := good_of hk
 unfold ccW
 rw [unW_sz g]
 rcases Classical.em (cs.length = szM (graphW w) 500) with hl | hl
 case inr => rw [if_neg hl, if_neg hl]
 rw [if_pos hl, if_pos hl]
 have hz := szM_le (graphW w) 500
 have hul := unW_sz g
 have hb : anyF (rb1 (unW w) cs) cs.length 0 = anyB (graphW w) cs 0 := by
  refine Bool.eq_iff_iff.2 ?_
  rw [anyF_iff]
  constructor
  ·rintro ⟨i, _, h2, h3⟩
   cases hh : anyB (graphW w) cs 0 with
   | true => rfl
   | false =>
    have := anyB_iff.1 hh i (by omega)
    rw [Int.zero_add] at this
    rw [rb_bad (unW_get g (by omega)), this] at h3
    cases h3
  ·intro h
   refine Classical.byContradiction fun hn => ?_
   have : anyB (graphW w) cs 0 = false := anyB_iff.2 fun i hi => by
    rw [Int.zero_add, <- rb_bad (unW_get g (by omega))]
    cases hh : rb1 (unW w) cs i with
    | false => rfl
    | true => exact absurd ⟨i, by omega, by omega, hh⟩ hn
   rw [this] at h
   cases h
 rw [hb]
 cases hB : anyB (graphW w) cs 0 with
 | true => rfl
 | false =>
 have good : ∀ i, i < cs.length -> badC (graphW w) i (cs.getD i 0) = false := fun i hi => by
  have := anyB_iff.1 hB i hi
  rwa [Int.zero_add] at this
 have bd : ∀ c ∈ cs, c < 512 := fun c hc => by
  have := anyB_lt hB c hc
  omega
 have hcl : anyF (rclA w (unW w) cs cs.length) cs.length 0 = clash (graphW w) cs cs 0 := by
  refine Bool.eq_iff_iff.2 ?_
  rw [anyF_iff]
  constructor
  ·rintro ⟨a, _, h2, h3⟩
   obtain ⟨b, b1, b2, b3⟩ := anyF_iff.1 h3
   simp only [rcl, Bool.and_eq_true, beq_iff_eq] at b3
   obtain ⟨ua, ub, e1, cf⟩ := b3
   have ga := bad_iff.1 (good a (by omega))
   rw [unW_get g (by omega)] at ua
   have pa := ga.2.1 ua
   have hi : b < cs.length := by omega
   cases hh : clash (graphW w) cs cs 0 with
   | true => rfl
   | false =>
    have := clash_iff.1 hh a (by omega) pa
    rw [Int.zero_add] at this
    have tk := (takenW (g := graphW w) (cs := cs) (s := a) (m := cs.getD a 0) ⟨pa, by omega⟩ bd).2 ⟨b, hi, by rw [e1, List.getD_eq_getElem?_getD, List.getElem?_eq_getElem hi]; rfl, by
     rw [<- cfB_near g ⟨by omega, by omega⟩ ⟨by omega, by omega⟩]
     exact cf⟩
    rw [this] at tk
    cases tk
  ·intro h
   refine Classical.byContradiction fun hn => ?_
   have : clash (graphW w) cs cs 0 = false := clash_iff.2 fun i hi pi => by
    rw [Int.zero_add]
    cases hh : hasW (takW (graphW w) i cs) 0 (cs.getD i 0) with
    | false => rfl
    | true =>
     have gi := bad_iff.1 (good i hi)
     obtain ⟨j, hj, e1, nr⟩ := (takenW ⟨pi, by omega⟩ bd).1 hh
     have e2 : cs.getD j 0 = cs.getD i 0 := by
      rw [<- e1, List.getD_eq_getElem?_getD, List.getElem?_eq_getElem hj]
      rfl
     have gj := bad_iff.1 (good j hj)
     have ne := ((nearW (w := w) (a := (i : Int)) (b := (j : Int)) ⟨by omega, by omega⟩ ⟨by omega, by omega⟩ (clsok_of g)).1 nr)
     have ui : (unW w).getD i false = true := by
      rw [unW_get g (by omega)]
      cases hu : hasW (graphW w) 0 (i : Int) with
      | true => rfl
      | false =>
       have := gi.2.2 hu
       omega
     have uj : (unW w).getD j false = true := by
      rw [unW_get g (by omega)]
      cases hu : hasW (graphW w) 0 (j : Int) with
      | true => rfl
      | false =>
       have := gj.2.2 hu
       omega
     have c1 : cfB w i j = true := (cfB_iff g).2 ne
     have c2 : cfB w j i = true := (cfB_iff g).2 ⟨fun q => ne.1 q.symm, ne.2.elim fun c hc => ⟨c, hc.1, hc.2.2, hc.2.1⟩⟩
     have hij : i ≠ j := fun q => ne.1 (by rw [q])
     exfalso
     rcases Nat.lt_or_gt_of_ne hij with lt | gt
     ·exact hn ⟨i, by omega, by omega, anyF_iff.2 ⟨j, by omega, by omega, by
       simp only [rcl, ui, uj, e2, c1, beq_self_eq_true, Bool.and_true]⟩⟩
     ·exact hn ⟨j, by omega, by omega, anyF_iff.2 ⟨i, by omega, by omega, by
       simp only [rcl, ui, uj, e2, c2, beq_self_eq_true, Bool.and_true]⟩⟩
   rw [this] at h
   cases h
 rw [hcl]
theorem rcc_ev' {w : Wd} {cs : List Int} : E.F 27 [wdV w, .ro 1 (cs.map (AV.int .i64))] [] = some ((.int .i64 (ccM w cs), []), True) := by
 rw [<- rcc_eq]
 exact rcc_ev
theorem try_any {F : Int -> Option (List Int)} {T : List Int} : ∀ {n : Nat} {c : Int}, (tryM F T n c).isSome = anyC (fun c => !(hasW T 0 c) && (F c).isSome) n c
 | 0, _ => rfl
 | n + 1, c => by
  have ih := try_any (F := F) (T := T) (n := n) (c := c + 1)
  rw [tryM, anyC]
  cases h : hasW T 0 c with
  | true => simpa using ih
  | false =>
   simp only [Bool.false_eq_true, if_false, Bool.not_false, Bool.true_and]
   cases hF : F c with
   | none => simpa using ih
   | some x => rfl
theorem anyC_congr {F G : Int -> Bool} : ∀ {n : Nat} {c : Int}, (∀ d, c ≤ d -> d < c + n -> F d = G d) -> anyC F n c = anyC G n c
 | 0, _, _ => rfl
 | n + 1, c, h => by
  rw [anyC, anyC, h c (Int.le_refl _) (by omega), anyC_congr (fun d h1 h2 => h d (by omega) (by omega))]
structure Arr (m cs arr : List Int) : Prop where
 len : arr.length = 500
 same : ∀ j, j < m.length -> arr.getD (m.getD j 0).toNat 0 = cs.getD j 0
 only : ∀ i : Nat, i < 500 -> 0 ≤ arr.getD i 0 -> ∃ j, j < m.length /\ m.getD j 0 = i
 bd : ∀ c ∈ arr, -1 ≤ c /\ c < 500
theorem us_spec : ∀ {cs : List Int} {u : Int}, (u ≤ usM cs u /\ ∀ c ∈ cs, c + 1 ≤ usM cs u) /\ (usM cs u = u \/ ∃ c ∈ cs, usM cs u = c + 1)
 | [], u => ⟨⟨Int.le_refl _, fun _ h => by cases h⟩, .inl rfl⟩
 | x :: cs, u => by
  obtain ⟨⟨h1, h2⟩, h3⟩ := us_spec (cs := cs) (u := maxI u (x + 1))
  rw [show usM (x :: cs) u = usM cs (maxI u (x + 1)) from rfl]
  have hm : u ≤ maxI u (x + 1) /\ x + 1 ≤ maxI u (x + 1) /\ (maxI u (x + 1) = u \/ maxI u (x + 1) = x + 1) := by
   unfold maxI
   split <;> omega
  refine ⟨⟨by omega, fun c hc => ?_⟩, ?_⟩
  ·rcases List.mem_cons.1 hc with q | hc
   ·rw [q]; omega
   ·exact h2 c hc
  ·rcases h3 with h3 | ⟨c, hc, h3⟩
   ·rcases hm.2.2 with q | q
    ·exact .inl (by omega)
    ·exact .inr ⟨x, by simp, by omega⟩
   ·exact .inr ⟨c, by simp [hc], h3⟩
theorem getD_in {l : List Int} {i : Nat} (h : i < l.length) : l.getD i 0 ∈ l := by
 rw [List.getD_eq_getElem?_getD, List.getElem?_eq_getElem h]
 exact List.getElem_mem h
theorem mem_getD {l : List Int} {x : Int} (h : x ∈ l) : ∃ i, i < l.length /\ l.getD i 0 = x := by
 obtain ⟨i, hi, e⟩ := List.mem_iff_getElem.1 h
 exact ⟨i, hi, by rw [List.getD_eq_getElem?_getD, List.getElem?_eq_getElem hi]; exact e⟩
theorem max_us {m cs arr : List Int} (R : Arr m cs arr) (hl : cs.length = m.length) (hm : ∀ s ∈ m, selN s) (hc : ∀ c ∈ cs, 0 ≤ c) : maxL arr + 1 = usM cs 0 := by
 obtain ⟨⟨u1, u2⟩, u3⟩ := us_spec (cs := cs) (u := 0)
 have hne : arr ≠ [] := fun e => by have := R.len; rw [e] at this; cases this
 have hin := maxL_in hne
 have hb := R.bd _ hin
 obtain ⟨i, hi, e⟩ := mem_getD hin
 have le1 : maxL arr + 1 ≤ usM cs 0 := by
  by_cases h0 : 0 ≤ maxL arr
  ·obtain ⟨j, hj, hji⟩ := R.only i (by have := R.len; omega) (by omega)
   have := R.same j hj
   rw [hji, show ((i : Nat) : Int).toNat = i from rfl, e] at this
   have := u2 _ (getD_in (l := cs) (i := j) (by omega))
   omega
  ·omega
 rcases u3 with h | ⟨c, hcc, h⟩
 ·omega
 ·obtain ⟨j, hj, e2⟩ := mem_getD hcc
  have h2 := R.same j (by omega)
  have sj := hm _ (getD_in (l := m) (i := j) (by omega))
  have := maxL_ge (getD_in (l := arr) (i := (m.getD j 0).toNat) (by have := R.len; have := sj.1; have := sj.2; omega))
  omega
theorem getD_app1 {a b : List Int} {i : Nat} (h : i < a.length) : (a ++ b).getD i 0 = a.getD i 0 := by
 rw [List.getD_eq_getElem?_getD, List.getElem?_append, if_pos h, List.getD_eq_getElem?_getD]
theorem getD_app2 {a : List Int} {x : Int} : (a ++ [x]).getD a.length 0 = x := by
 rw [List.getD_eq_getElem?_getD, List.getElem?_append, if_neg (by omega), Nat.sub_self]
 rfl
theorem pnt_col {w : Wd} (g : Good w) {k : Int} (hk : k ≤ 500) {l : List Int} (hnd : l.Nodup) (hsl : ∀ s ∈ l, selN s) : ∀ (r m cs arr : List Int), l = m ++ r -> cs.length = m.length -> (∀ c ∈ cs, 0 ≤ c) -> Arr m cs arr ->
  pntM w k l r cs = (colM (graphW w) k r arr).isSome := by
 intro r
 induction r with
 | nil => intro m cs arr h hl hc R; rfl
 | cons s r ih =>
  intro m cs arr h hl hc R
  have hs : selN s := hsl s (by rw [h]; simp)
  have hm : ∀ x ∈ m, selN x := fun x hx => hsl x (by rw [h]; simp [hx])
  have hsm : s ∉ m := fun hsm => by
   rw [h] at hnd
   have := (List.nodup_append.1 hnd).2.2 s hsm s (by simp)
   exact this rfl
  have hmu := max_us R hl hm hc
  rw [pntM, colM, try_any, show usM cs 0 + 1 = maxL arr + 2 by omega]
  refine anyC_congr fun c h0 h1 => ?_
  have hck : c < k := by omega
  have hln := R.len
  have e1 : fnB w l cs s c = !(hasW (takW (graphW w) s arr) 0 c) := by
   unfold fnB
   congr 1
   refine Bool.eq_iff_iff.2 ?_
   rw [anyF_iff, takenW ⟨h0, by omega⟩ (fun x hx => by have := R.bd x hx; omega)]
   constructor
   ·rintro ⟨j, _, j2, j3⟩
    simp only [bdB, Bool.and_eq_true, Bool.not_eq_true', bne_eq_false_iff_eq] at j3
    have hj : j < m.length := by omega
    have lj : l.getD j 0 = m.getD j 0 := by rw [h]; exact getD_app1 hj
    have sj := hm _ (getD_in hj)
    have sv := R.same j hj
    have hij : (m.getD j 0).toNat < arr.length := by have := sj.1; have := sj.2; omega
    refine ⟨(m.getD j 0).toNat, hij, ?_, ?_⟩
    ·rw [get_D hij] at sv
     rw [sv]
     exact j3.1
    ·have := j3.2
     rw [lj, cfB_near g hs sj] at this
     rw [show (((m.getD j 0).toNat : Nat) : Int) = m.getD j 0 by have := sj.1; omega]
     exact this
   ·rintro ⟨i, hi, i1, i2⟩
    have ei : arr.getD i 0 = c := by rw [get_D hi]; exact i1
    obtain ⟨j, hj, hji⟩ := R.only i (by omega) (by omega)
    have sj := hm _ (getD_in hj)
    have lj : l.getD j 0 = m.getD j 0 := by rw [h]; exact getD_app1 hj
    have sv := R.same j hj
    rw [hji, show ((i : Nat) : Int).toNat = i from rfl, ei] at sv
    refine ⟨j, by omega, by omega, ?_⟩
    simp only [bdB, Bool.and_eq_true, Bool.not_eq_true', bne_eq_false_iff_eq]
    refine ⟨sv.symm, ?_⟩
    rw [lj, cfB_near g hs sj, hji]
    exact i2
  rw [e1, ih (m ++ [s]) (cs ++ [c]) (arr.set s.toNat c) (by simp [h]) (by simp [hl]) (fun x hx => by
   rcases List.mem_append.1 hx with hx | hx
   ·exact hc x hx
   ·rw [List.mem_singleton] at hx; omega) ⟨by rw [List.length_set]; exact hln, fun j hj => ?_, fun i hi h0' => ?_, fun x hx => ?_⟩]
  ·rw [List.length_append, List.length_cons, List.length_nil] at hj
   by_cases hjm : j < m.length
   ·rw [getD_app1 hjm, getD_app1 (by omega), <- R.same j hjm]
    refine getD_set_ne fun e => hsm ?_
    have sj := hm _ (getD_in hjm)
    have : s = m.getD j 0 := by have := sj.1; have := hs.1; omega
    rw [this]
    exact getD_in hjm
   ·have : j = m.length := by omega
    subst this
    rw [getD_app2, <- hl, getD_app2, get_D (by rw [List.length_set]; have := hs.1; have := hs.2; omega), List.getElem_set_self]
  ·by_cases e : i = s.toNat
   ·refine ⟨m.length, by simp, ?_⟩
    rw [getD_app2]
    have := hs.1
    omega
   ·rw [getD_set_ne (fun e' => e e'.symm)] at h0'
    obtain ⟨j, hj, hji⟩ := R.only i hi h0'
    exact ⟨j, by simp; omega, by rw [getD_app1 hj]; exact hji⟩
  ·rcases List.mem_or_eq_of_mem_set hx with hx | hx
   ·exact R.bd x hx
   ·omega
theorem arr_ms : Arr [] [] (ms 500) where
 len := ms_len
 same j hj := by cases hj
 only i hi h := by rw [ms_get hi] at h; omega
 bd c hc := by have := List.eq_of_mem_replicate hc; omega
theorem pnt_iff {w : Wd} (g : Good w) {k : Int} (hk : k ≤ 500) : pntM w k (knW (graphW w)) (knW (graphW w)) [] = true ↔ Cable (graphW w) (knW (graphW w)) k := by
 rw [pnt_col g hk knW_nd (fun s hs => knW_sel hs) (knW (graphW w)) [] [] (ms 500) rfl rfl (by simp) arr_ms]
 exact col_iff (gr_ok (clsok_of g)) hk
theorem ls_kn {g : List Int} : ∀ {U : List Bool} {n : Int}, (∀ i, i < U.length -> U.getD i false = hasW g 0 (n + i)) -> lsM U n = knI g U.length n
 | [], _, _ => rfl
 | b :: U, n, h => by
  have h0 := h 0 (by simp)
  rw [show (b :: U).getD 0 false = b from rfl, Int.natCast_zero, Int.add_zero] at h0
  rw [lsM, List.length_cons, knI, h0, ls_kn (U := U) (n := n + 1) (fun i hi => by
   have := h (i + 1) (by simp; omega)
   rw [show (b :: U).getD (i + 1) false = U.getD i false from rfl] at this
   rw [this]
   congr 1
   omega)]
theorem knI_none {g : List Int} : ∀ {k : Nat} {a : Int}, (∀ x, a ≤ x -> x < a + k -> hasW g 0 x = false) -> knI g k a = []
 | 0, _, _ => rfl
 | k + 1, a, h => by
  rw [knI, h a (Int.le_refl _) (by omega), knI_none (fun x h1 h2 => h x (by omega) (by omega))]
  rfl
theorem knI_cut {g : List Int} {z : Nat} (hz : z ≤ 500) (h : ∀ x : Nat, z ≤ x -> x < 500 -> hasW g 0 x = false) : knI g z 0 = knI g 500 0 := by
 have e : 500 = z + (500 - z) := by omega
 rw [e, knI_app, knI_none (a := 0 + (z : Int)) fun x h1 h2 => ?_, List.append_nil]
 have := h x.toNat (by omega) (by omega)
 rw [show ((x.toNat : Nat) : Int) = x by omega] at this
 exact this
theorem nums_kn {w : Wd} (g : Good w) : lsM (unW w) 0 = knW (graphW w) := by
 have hz := szM_le (graphW w) 500
 have hl := unW_sz g
 rw [ls_kn (g := graphW w) (fun i hi => by rw [Int.zero_add]; exact unW_get g hi), hl]
 exact knI_cut hz fun x h1 h2 => (szM_spec (g := graphW w) (n := 500)).1 x h1 h2
end Go.Proofs.YtikppcfabnnhfaaDoor

/- The reference's Least and Degree. -/
namespace Go.Proofs.YtikppcfabnnhfaaDoor
open Go Go.Aw
set_option linter.unusedSimpArgs false
set_option linter.unusedVariables false
set_option maxRecDepth 100000
set_option maxHeartbeats 40000000
theorem le_loop {w : Wd} {l : List Int} {L : Int} (hl : l.length ≤ 1000) (hL : L ≤ 1000) (hcl : w.classes.length ≤ 1000) (hcs : ∀ c ∈ w.classes, c.length ≤ 1000)
  (h1 : ∀ k, 0 ≤ k -> k < L -> pntM w k l l [] = false) (h2 : pntM w L l l [] = true) : ∀ (n : Nat) (k : Int), 0 ≤ k -> k + n = L ->
  E.L 28 10 [.ptr 60000 0 0, .int .i64 0, .int .i64 0, .ro 1 (l.map (AV.int .i64)), .int .i64 k] (wO w) = some ((.ret, [.ptr 60000 0 0, .int .i64 L, .int .i64 0, .ro 1 (l.map (AV.int .i64)), .int .i64 L], wO w), True) := by
 intro n
 induction n with
 | zero =>
  intro k h0 h
  have e : k = L := by omega
  subst e
  have p := paint_ev (w := w) (l := l) (k := k) hl (by omega) hcl hcs l [] [] rfl rfl (by simp)
  rw [h2] at p
  simp only [List.length_nil, Int.natCast_zero, List.map_nil, wdV] at p
  rw [l28_10]
  simp (maxSteps := 100000000) only [ivc, anf, eq_self, Nat.reduceEqDiff, Nat.reduceLT, Nat.reduceLeDiff, Nat.reduceAdd, Nat.reduceBEq, reduceCtorEq, ↓reduceIte, tyb, wO, wdV, p]
  try exact some_true (by omega)
 | succ n ih =>
  intro k h0 h
  have p := paint_ev (w := w) (l := l) (k := k) hl (by omega) hcl hcs l [] [] rfl rfl (by simp)
  rw [h1 k h0 (by omega)] at p
  have hw : IntKind.i64.wrap (k + 1) = k + 1 := wrap_id (by omega) (by omega)
  have ih' := ih (k + 1) (by omega) (by omega)
  simp only [List.length_nil, Int.natCast_zero, List.map_nil, wdV, wO] at p ih'
  rw [l28_10]
  simp (maxSteps := 100000000) only [ivc, anf, nilR, eq_self, Nat.reduceEqDiff, Nat.reduceLT, Nat.reduceLeDiff, Nat.reduceAdd, Nat.reduceBEq, reduceCtorEq, ↓reduceIte, tyb, wO, wdV, p, hw, ih']
  try exact some_true (by omega)
theorem ws_of {w : Wd} (g : Good w) : ∀ c ∈ w.classes, c.length ≤ 1000 /\ ∀ e ∈ c, 0 ≤ e.s /\ e.s < 500 := fun c hc => ⟨by have := g.len c hc; omega, fun e he => (g.ent c hc e he).1⟩
theorem rleast_ev {w : Wd} : E.F 28 [wdV w] [] = some ((if ckM w = 0 then if 12 < cntM (graphW w) 8 then .tup [.int .i64 0, .int .i64 8] else .tup [.int .i64 (leastW (graphW w)), .int .i64 0] else .tup [.int .i64 0, .int .i64 (ckM w)], []), True) := by
 have h1 := rcheck_ev (w := w)
 rw [e28]
 by_cases h : ckM w = 0
 case neg =>
  rw [if_neg h]
  have h' : (ckM w != 0) = true := bne_iff_ne.2 h
  generalize ckM w = v at h1 h' ⊢
  simp only [wdV] at h1
  simp (maxSteps := 100000000) only [ivc, anf, nilR, salloc, eq_self, Nat.reduceEqDiff, Nat.reduceLT, Nat.reduceLeDiff, Nat.reduceAdd, Nat.reduceBEq, ↓reduceIte, tyb, wdV, h1, h']
 rw [if_pos h]
 rw [h] at h1
 have g := good_of h
 have gn := g.nc
 have gs := ws_of g
 have h2 := und_ev (w := w) (by omega) gs
 have h3 := numbers_ev (l := unW w) (by have := unW_sz g; have := szM_le (graphW w) 500; omega)
 rw [nums_kn g] at h3
 have kl := knW_le (g := graphW w)
 rw [cnt_w (clsok_of g)]
 by_cases b : (12 : Int) < (knW (graphW w)).length
 ·rw [if_pos b]
  generalize knW (graphW w) = K at h3 b
  generalize unW w = U at h2 h3
  simp only [wdV] at h1 h2
  simp (maxSteps := 100000000) only [ivc, anf, vlen, vbuiltin, nilR, salloc, eq_self, Nat.reduceEqDiff, Nat.reduceLT, Nat.reduceLeDiff, Nat.reduceAdd, Nat.reduceBEq, ↓reduceIte, tyb, wdV, h1, h2, h3, b]
 ·rw [if_neg b]
  obtain ⟨l0, l1, l2⟩ := least_spec (gr_ok (clsok_of g))
  have ll : leastW (graphW w) ≤ (knW (graphW w)).length := l2 _ (by omega) (cable_len (gr_ok (clsok_of g)))
  have p1 : ∀ k, 0 ≤ k -> k < leastW (graphW w) -> pntM w k (knW (graphW w)) (knW (graphW w)) [] = false := fun k h0 hk => by
   cases hh : pntM w k (knW (graphW w)) (knW (graphW w)) [] with
   | false => rfl
   | true =>
    have := l2 k h0 ((pnt_iff g (by omega)).1 hh)
    omega
  have p2 := (pnt_iff g (k := leastW (graphW w)) (by omega)).2 l1
  generalize leastW (graphW w) = L at l0 ll p1 p2 ⊢
  have lp := le_loop (w := w) (by omega) (by omega) (by omega) (fun c hc => (gs c hc).1) p1 p2 L.toNat 0 (by omega) (by omega)
  generalize knW (graphW w) = K at h3 b lp
  generalize unW w = U at h2 h3
  simp only [wdV, wO] at h1 h2 lp
  simp (maxSteps := 100000000) only [ivc, anf, vlen, vbuiltin, nilR, salloc, eq_self, Nat.reduceEqDiff, Nat.reduceLT, Nat.reduceLeDiff, Nat.reduceAdd, Nat.reduceBEq, reduceCtorEq, ↓reduceIte, tyb, wdV, h1, h2, h3, b, lp]
  try exact some_true (by omega)
def cfc (w : Wd) (l : List Int) (a : Int) : Nat := (l.filter (cfB w a)).length
theorem dg9_loop {w : Wd} {l : List Int} {n : Int} {i : Nat} {a : Int} (hl : l.length ≤ 1000) (ha : l[i]? = some a) (hcl : w.classes.length ≤ 1000) (hcs : ∀ c ∈ w.classes, c.length ≤ 1000) : ∀ (r m : List Int) (d : Int), l = m ++ r -> 0 ≤ d -> d ≤ m.length ->
  E.L 31 9 [.ptr 60000 0 0, .ro 1 (l.map (AV.int .i64)), .int .i64 n, .int .i64 i, .int .i64 d, .int .i64 m.length] (wO w) = some ((.exit 2, [.ptr 60000 0 0, .ro 1 (l.map (AV.int .i64)), .int .i64 n, .int .i64 i, .int .i64 (d + cfc w r a), .int .i64 l.length], wO w), True) := by
 have hil := (List.getElem?_eq_some_iff.1 ha).1
 have hga := getD_map (f := AV.int .i64) ha
 have r2 : ((i : Int) < l.length) = True := eq_true (by omega)
 have r3 : (0 ≤ (i : Int)) = True := eq_true (by omega)
 intro r
 induction r with
 | nil =>
  intro m d h h0 hd
  rw [List.append_nil] at h
  subst h
  have q : ((l.length : Int) < l.length) = False := eq_false (by omega)
  rw [l31_9, show d + (cfc w [] a : Nat) = d from Int.add_zero d]
  simp (maxSteps := 100000000) only [ivc, anf, vlen, vbuiltin, nilR, eq_self, Nat.reduceEqDiff, Nat.reduceLT, Nat.reduceLeDiff, Nat.reduceAdd, Nat.reduceBEq, reduceCtorEq, ↓reduceIte, tyb, wO, wdV, q]
 | cons x r ih =>
  intro m d h h0 hd
  have hn : m.length + (r.length + 1) = l.length := by rw [h]; simp
  have hi' : (m.length : Int) < l.length := by omega
  have hg := getD_map (f := AV.int .i64) (show l[m.length]? = some x by rw [h]; simp)
  have hw : IntKind.i64.wrap ((m.length : Int) + 1) = m.length + 1 := wrap_id (by omega) (by omega)
  have hw2 : IntKind.i64.wrap (d + 1) = d + 1 := wrap_id (by omega) (by omega)
  have hc0 : (0 ≤ (m.length : Int)) = True := eq_true (by omega)
  have cv := conflict_ev (w := w) (a := a) (b := x) hcl hcs
  simp only [wdV] at cv
  cases b : cfB w a x with
  | true =>
   have ih' := ih (m ++ [x]) (d + 1) (by simp [h]) (by omega) (by simp; omega)
   have e : d + (cfc w (x :: r) a : Nat) = d + 1 + (cfc w r a : Nat) := by
    unfold cfc
    rw [List.filter_cons_of_pos b, List.length_cons]
    omega
   rw [b] at cv
   rw [e]
   simp only [List.length_append, List.length_cons, List.length_nil, Nat.zero_add, Int.natCast_add, Int.cast_ofNat_Int, wO, wdV] at ih'
   rw [l31_9]
   simp (maxSteps := 100000000) only [ivc, anf, vlen, vbuiltin, nilR, eq_self, Nat.reduceEqDiff, Nat.reduceLT, Nat.reduceLeDiff, Nat.reduceAdd, Nat.reduceBEq, reduceCtorEq, ↓reduceIte, tyb, wO, wdV, hga, r2, r3, hi', hg, hw, hw2, hc0, cv, ih']
   try exact some_true (by omega)
  | false =>
   have ih' := ih (m ++ [x]) d (by simp [h]) (by omega) (by simp; omega)
   have e : d + (cfc w (x :: r) a : Nat) = d + (cfc w r a : Nat) := by
    unfold cfc
    rw [List.filter_cons_of_neg (by rw [b]; simp)]
   rw [b] at cv
   rw [e]
   simp only [List.length_append, List.length_cons, List.length_nil, Nat.zero_add, Int.natCast_add, Int.cast_ofNat_Int, wO, wdV] at ih'
   rw [l31_9]
   simp (maxSteps := 100000000) only [ivc, anf, vlen, vbuiltin, nilR, eq_self, Nat.reduceEqDiff, Nat.reduceLT, Nat.reduceLeDiff, Nat.reduceAdd, Nat.reduceBEq, reduceCtorEq, ↓reduceIte, tyb, wO, wdV, hga, r2, r3, hi', hg, hw, hc0, cv, ih']
   try exact some_true (by omega)
def dgM (w : Wd) (l r : List Int) (n : Int) : Int := r.foldl (fun n a => maxI n (cfc w l a)) n
theorem dg5_loop {w : Wd} {l : List Int} (hl : l.length ≤ 1000) (hcl : w.classes.length ≤ 1000) (hcs : ∀ c ∈ w.classes, c.length ≤ 1000) : ∀ (r m : List Int) (n : Int), l = m ++ r ->
  E.L 31 5 [.ptr 60000 0 0, .ro 1 (l.map (AV.int .i64)), .int .i64 n, .int .i64 m.length] (wO w) = some ((.exit 0, [.ptr 60000 0 0, .ro 1 (l.map (AV.int .i64)), .int .i64 (dgM w l r n), .int .i64 l.length], wO w), True) := by
 intro r
 induction r with
 | nil =>
  intro m n h
  rw [List.append_nil] at h
  subst h
  have q : ((l.length : Int) < l.length) = False := eq_false (by omega)
  rw [l31_5]
  simp (maxSteps := 100000000) only [ivc, anf, vlen, vbuiltin, nilR, eq_self, Nat.reduceEqDiff, Nat.reduceLT, Nat.reduceLeDiff, Nat.reduceAdd, Nat.reduceBEq, reduceCtorEq, ↓reduceIte, tyb, wO, wdV, q, dgM, List.foldl_nil]
 | cons x r ih =>
  intro m n h
  have hn : m.length + (r.length + 1) = l.length := by rw [h]; simp
  have hi' : (m.length : Int) < l.length := by omega
  have hm : l[m.length]? = some x := by rw [h]; simp
  have hw : IntKind.i64.wrap ((m.length : Int) + 1) = m.length + 1 := wrap_id (by omega) (by omega)
  have lp := dg9_loop (w := w) (l := l) (n := n) hl hm hcl hcs l [] 0 rfl (by omega) (by simp)
  have ih' := ih (m ++ [x]) (maxI n (cfc w l x)) (by simp [h])
  rw [show dgM w l (x :: r) n = dgM w l r (maxI n (cfc w l x)) from rfl]
  rw [Int.zero_add] at lp
  generalize cfc w l x = C at lp ih' ⊢
  generalize dgM w l r (maxI n C) = R at ih' ⊢
  simp only [List.length_append, List.length_cons, List.length_nil, Nat.zero_add, Int.natCast_add, Int.cast_ofNat_Int, wO, wdV, maxI] at ih' lp
  rw [l31_5]
  simp (maxSteps := 100000000) only [ivc, anf, vlen, vbuiltin, nilR, eq_self, Nat.reduceEqDiff, Nat.reduceLT, Nat.reduceLeDiff, Nat.reduceAdd, Nat.reduceBEq, reduceCtorEq, ↓reduceIte, tyb, wO, wdV, hi', hw, lp, ih']
  try exact some_true (by omega)
theorem degree_ev {w : Wd} (g : Good w) : E.F 31 [wdV w] [] = some ((.int .i64 (dgM w (knW (graphW w)) (knW (graphW w)) 0), []), True) := by
 have gn := g.nc
 have gs := ws_of g
 have h2 := und_ev (w := w) (by omega) gs
 have h3 := numbers_ev (l := unW w) (by have := unW_sz g; have := szM_le (graphW w) 500; omega)
 rw [nums_kn g] at h3
 have kl := knW_le (g := graphW w)
 generalize knW (graphW w) = K at h3 kl ⊢
 generalize unW w = U at h2 h3
 have lp := dg5_loop (w := w) (l := K) (by omega) (by omega) (fun c hc => (gs c hc).1) K [] 0 rfl
 simp only [List.length_nil, Int.natCast_zero, wdV, wO] at h2 lp
 rw [e31]
 simp (maxSteps := 100000000) only [ivc, anf, salloc, eq_self, Nat.reduceEqDiff, Nat.reduceLT, Nat.reduceLeDiff, Nat.reduceAdd, Nat.reduceBEq, reduceCtorEq, ↓reduceIte, tyb, wdV, h2, h3, lp]
 try exact some_true (by omega)
end Go.Proofs.YtikppcfabnnhfaaDoor

/- Plain: the program's colours have no gaps, and need no more than the greatest number of conflicts allows. -/
namespace Go.Proofs.YtikppcfabnnhfaaDoor
open Go Go.Aw
set_option linter.unusedSimpArgs false
set_option linter.unusedVariables false
set_option maxRecDepth 100000
def lowC (g : List Int) (n : Nat) (cs : List Int) : Prop := ∀ i : Nat, i < n -> i < cs.length -> ∀ c, 0 ≤ c -> c < cs.getD i 0 -> ∃ j : Nat, j < i /\ cs.getD j 0 = c /\ confG g i j
theorem colI_low {g : List Int} : ∀ {k n : Nat} {cs : List Int}, n + k = cs.length -> cs.length ≤ 500 -> colOk n cs -> lowC g n cs -> lowC g cs.length (colI g k n cs)
 | 0, n, cs, h, hl, h1, h2 => by
  have : n = cs.length := by omega
  subst this
  exact h2
 | k + 1, n, cs, h, hl, h1, h2 => by
  have hs := colOk_set (g := g) h1 hl
  have hb := least_le (g := g) h1 hl
  rw [colI]
  by_cases c : hasW g 0 n = true
  ·rw [if_pos c] at hs ⊢
   have tk := fun m hm => takenW (g := g) (cs := cs) (s := n) (m := m) hm (fun c hc => by have := colOk_bd h1 hl c hc; omega)
   have lo := (least_ok (takW_r (g := g) (cs := cs) (s := n)) takW_len).2.1
   generalize leastL (takW g n cs) 0 = v at hs hb lo ⊢
   have := colI_low (g := g) (k := k) (n := n + 1) (cs := cs.set n v) (by rw [List.length_set]; omega) (by rw [List.length_set]; omega) hs (fun i hi hil c h0 hc => ?_)
   ·rwa [List.length_set] at this
   ·rw [List.length_set] at hil
    rw [set_get (by omega)] at hc
    by_cases e : i = n
    ·rw [if_pos e] at hc
     obtain ⟨j, hj, e1, nr⟩ := (tk c (by omega)).1 (lo c h0 hc)
     have e2 : cs.getD j 0 = c := by rw [get_D hj]; exact e1
     have hjn : j < n := by
      rcases Nat.lt_or_ge j n with q | q
      ·exact q
      ·have := h1.2 j q hj
       omega
     refine ⟨j, by omega, ?_, by rw [e]; exact nr⟩
     rw [set_get (by omega), if_neg (by omega)]
     exact e2
    ·rw [if_neg e] at hc
     obtain ⟨j, hj, e1, nr⟩ := h2 i (by omega) hil c h0 hc
     refine ⟨j, hj, ?_, nr⟩
     rw [set_get (by omega), if_neg (by omega)]
     exact e1
  ·rw [if_neg c] at hs ⊢
   refine colI_low (by omega) hl hs (fun i hi hil c h0 hc => ?_)
   by_cases e : i = n
   ·have := h1.2 i (by omega) hil
    omega
   ·exact h2 i (by omega) hil c h0 hc
theorem cols_low {g : List Int} : lowC g (colsM g).length (colsM g) := by
 have hz := szM_le g 500
 have h := colI_low (g := g) (k := szM g 500) (n := 0) (cs := ms (szM g 500)) (by rw [ms_len]; omega) (by rw [ms_len]; omega) colOk_ms (fun i hi => by omega)
 rw [ms_len] at h
 rw [colsM_len]
 exact h
def mxM (F : List Int) : Int := F.foldl maxI (-1)
theorem mx_at {F : List Int} (h : 0 ≤ mxM F) : ∃ i, i < F.length /\ F.getD i 0 = mxM F := by
 rcases foldl_in (l := F) (a := -1) with q | q
 ·unfold mxM at h
  omega
 ·exact mem_getD q
theorem no_gap {g : List Int} {x : Int} (h0 : 0 ≤ x) (h1 : x ≤ mxM (colsM g)) : (colsM g).any (fun c => c == x) = true := by
 obtain ⟨i, hi, e⟩ := mx_at (F := colsM g) (by omega)
 rw [List.any_eq_true]
 by_cases hx : x = mxM (colsM g)
 ·exact ⟨_, getD_in hi, by rw [e, hx]; simp⟩
 ·obtain ⟨j, hj, e1, _⟩ := cols_low i hi hi x h0 (by omega)
  exact ⟨_, getD_in (l := colsM g) (i := j) (by omega), by rw [e1]; simp⟩
theorem dg_ge {w : Wd} {l : List Int} : ∀ {r : List Int} {n : Int}, n ≤ dgM w l r n /\ ∀ a ∈ r, (cfc w l a : Int) ≤ dgM w l r n
 | [], n => ⟨Int.le_refl _, fun _ h => by cases h⟩
 | x :: r, n => by
  obtain ⟨h1, h2⟩ := dg_ge (w := w) (l := l) (r := r) (n := maxI n (cfc w l x))
  rw [show dgM w l (x :: r) n = dgM w l r (maxI n (cfc w l x)) from rfl]
  have hm : n ≤ maxI n (cfc w l x) /\ (cfc w l x : Int) ≤ maxI n (cfc w l x) := by
   unfold maxI
   split <;> omega
  refine ⟨by omega, fun a ha => ?_⟩
  rcases List.mem_cons.1 ha with q | ha
  ·rw [q]; omega
  ·exact h2 a ha
theorem most_deg {w : Wd} (g : Good w) (h : 0 ≤ mxM (colsM (graphW w))) : mxM (colsM (graphW w)) ≤ dgM w (knW (graphW w)) (knW (graphW w)) 0 := by
 obtain ⟨i, hi, e⟩ := mx_at h
 have ok := cols_ok (gr_ok (clsok_of g))
 have hz := szM_le (graphW w) 500
 have hl := ok.len
 have kn : ∀ j : Nat, j < (colsM (graphW w)).length -> 0 ≤ (colsM (graphW w)).getD j 0 -> (j : Int) ∈ knW (graphW w) := fun j hj h0 => by
  refine knW_mem.2 ⟨⟨by omega, by omega⟩, ?_⟩
  cases hh : hasW (graphW w) 0 (j : Int) with
  | true => rfl
  | false =>
   have := ok.un j hj hh
   omega
 have hik := kn i hi (by omega)
 have h1 := (dg_ge (w := w) (l := knW (graphW w)) (r := knW (graphW w)) (n := 0)).2 _ hik
 have h2 := pigeon2 (n := (mxM (colsM (graphW w))).toNat) (l := ((knW (graphW w)).filter (cfB w (i : Int))).map fun a => (colsM (graphW w)).getD a.toNat 0) (fun c h0 hc => by
  obtain ⟨j, hj, e1, nr⟩ := cols_low i hi hi c h0 (by omega)
  have hjk := kn j (by omega) (by omega)
  refine List.mem_map.2 ⟨(j : Int), List.mem_filter.2 ⟨hjk, ?_⟩, e1⟩
  rw [cfB_near g ⟨by omega, by omega⟩ ⟨by omega, by omega⟩]
  exact nr)
 rw [List.length_map] at h2
 unfold cfc at h1
 omega
theorem least_most {w : Wd} (g : Good w) : leastW (graphW w) ≤ mxM (colsM (graphW w)) + 1 := by
 have ok := cols_ok (gr_ok (clsok_of g))
 have hz := szM_le (graphW w) 500
 have hl := ok.len
 have h1 := foldl_ge (l := colsM (graphW w)) (a := -1)
 have ix : ∀ s ∈ knW (graphW w), s.toNat < (colsM (graphW w)).length /\ 0 ≤ (colsM (graphW w)).getD s.toNat 0 := fun s hs => by
  obtain ⟨sn, hh⟩ := knW_mem.1 hs
  have s0 := sn.1
  have s1 := sn.2
  have hh' : hasW (graphW w) 0 ((s.toNat : Nat) : Int) = true := by rw [show ((s.toNat : Nat) : Int) = s by omega]; exact hh
  have := szM_lt hh' (n := 500) (by omega)
  exact ⟨by omega, ok.kn s.toNat (by omega) hh'⟩
 refine (least_spec (gr_ok (clsok_of g))).2.2 _ (by have := h1.1; unfold mxM; omega) ⟨fun s => (colsM (graphW w)).getD s.toNat 0, fun s hs => ?_, fun a ha b hb hc he => ?_⟩
 ·obtain ⟨i1, i2⟩ := ix s hs
  have := h1.2 _ (getD_in i1)
  refine ⟨i2, ?_⟩
  show (colsM (graphW w)).getD s.toNat 0 < mxM (colsM (graphW w)) + 1
  unfold mxM
  omega
 ·obtain ⟨a1, a2⟩ := ix a ha
  obtain ⟨b1, b2⟩ := ix b hb
  have na := (knW_sel ha).1
  have nb := (knW_sel hb).1
  refine ok.no a.toNat b.toNat a1 b1 a2 he ?_
  rw [show ((a.toNat : Nat) : Int) = a by omega, show ((b.toNat : Nat) : Int) = b by omega]
  exact hc
end Go.Proofs.YtikppcfabnnhfaaDoor

/- The reference's table, has, fits. -/
namespace Go.Proofs.YtikppcfabnnhfaaDoor
open Go Go.Aw
set_option linter.unusedSimpArgs false
set_option linter.unusedVariables false
set_option maxRecDepth 100000
set_option maxHeartbeats 40000000
def eR (l : List Et) : Ob := ⟨false, 2, l.map enV⟩
end Go.Proofs.YtikppcfabnnhfaaDoor

/- The example's facts. -/
namespace Go.Proofs.YtikppcfabnnhfaaDoor
open Go Go.Aw
set_option linter.unusedSimpArgs false
set_option linter.unusedVariables false
set_option maxRecDepth 1000000
def exW : Wd := ⟨[[⟨0, 0⟩, ⟨1, 1⟩], [⟨1, 2⟩, ⟨2, 3⟩]], [⟨[], [], []⟩, ⟨[], [], []⟩, ⟨[], [], []⟩, ⟨[], [], []⟩], [0]⟩
def exC : List Et := [⟨0, 0⟩, ⟨2, 0⟩]
theorem ex_ck : ckM exW = 0 := by kernel_rfl
theorem ex_ck2 : ckM (moreW exW exC) = 0 := by kernel_rfl
theorem ex_cnt : cntM (graphW exW) 8 = 3 := by kernel_rfl
theorem ex_sz2 : szM (graphW (moreW exW exC)) 500 = 3 := by kernel_rfl
theorem ex_cc : ccW (graphW exW) [0, 1, 0] = 0 := by kernel_rfl
theorem ex_least : leastW (graphW exW) = 2 := by kernel_rfl
theorem ex_pack : packM [0, 1, 0] exW.classes ([], []) = ([⟨0, 0⟩, ⟨1, 1⟩, ⟨2, 3⟩, ⟨1, 2⟩], [0, 2]) := by kernel_rfl
theorem ex_grow : gwM (graphW (moreW exW exC)) exC [] (ms0 exW exC [0, 1, 0]) [] = some ([0, 1, 2], [2]) := by kernel_rfl
theorem ex_good : Good exW := good_of ex_ck
theorem ex_near {a b : Int} (ha : selN a) (hb : selN b) : hasW (graphW exW) (nb a) b = true ↔ a ≠ b /\ (((a = 0 \/ a = 1) /\ (b = 0 \/ b = 1)) \/ ((a = 1 \/ a = 2) /\ (b = 1 \/ b = 2))) := by
 rw [nearW ha hb (clsok_of ex_good)]
 refine and_congr_right fun _ => ?_
 simp [exW]
 omega
theorem rowI_nil {g : List Int} {a : Int} : ∀ {k : Nat} {b : Int}, (∀ x, b ≤ x -> x < b + k -> hasW g (nb a) x = false) -> rowI g a k b = []
 | 0, _, _ => rfl
 | k + 1, b, h => by
  rw [rowI, h b (by omega) (by omega), rowI_nil (fun x h1 h2 => h x (by omega) (by omega))]
  rfl
theorem allI_nil {g : List Int} : ∀ {k : Nat} {a : Int}, (∀ x y, a ≤ x -> x < y -> y < a + k -> hasW g (nb x) y = false) -> allI g k a = []
 | 0, _, _ => rfl
 | k + 1, a, h => by
  rw [allI, rowI_nil (fun x h1 h2 => h a x (by omega) (by omega) (by omega)), allI_nil (fun x y h1 h2 h3 => h x y (by omega) h2 (by omega))]
  rfl
theorem ex_no {a b : Int} (ha : selN a) (hb : selN b) (h : ¬ (a ≠ b /\ (((a = 0 \/ a = 1) /\ (b = 0 \/ b = 1)) \/ ((a = 1 \/ a = 2) /\ (b = 1 \/ b = 2))))) : hasW (graphW exW) (nb a) b = false := by
 cases hh : hasW (graphW exW) (nb a) b with
 | false => rfl
 | true => exact absurd ((ex_near ha hb).1 hh) h
theorem ex_conf : cfM (graphW exW) = [(0, 1), (1, 2)] := by
 have e0 : hasW (graphW exW) (nb 0) 1 = true := (ex_near (by unfold selN; omega) (by unfold selN; omega)).2 (by omega)
 have e1 : hasW (graphW exW) (nb 1) 2 = true := (ex_near (by unfold selN; omega) (by unfold selN; omega)).2 (by omega)
 have no : ∀ a b : Int, 0 ≤ a -> b < 500 -> a < b -> (a = 0 -> b ≠ 1) -> (a = 1 -> b ≠ 2) -> hasW (graphW exW) (nb a) b = false := fun a b h1 h2 h3 h4 h5 => ex_no (by unfold selN; omega) (by unfold selN; omega) (by omega)
 unfold cfM
 generalize graphW exW = g at e0 e1 no
 rw [show allI g 500 0 = rowI g 0 499 (0 + 1) ++ allI g 499 (0 + 1) from rfl, show rowI g 0 499 (0 + 1) = (if hasW g (nb 0) (0 + 1) = true then [((0 : Int), (0 : Int) + 1)] else []) ++ rowI g 0 498 (0 + 1 + 1) from rfl,
  show allI g 499 (0 + 1) = rowI g (0 + 1) 498 (0 + 1 + 1) ++ allI g 498 (0 + 1 + 1) from rfl, show rowI g (0 + 1) 498 (0 + 1 + 1) = (if hasW g (nb (0 + 1)) (0 + 1 + 1) = true then [((0 : Int) + 1, (0 : Int) + 1 + 1)] else []) ++ rowI g (0 + 1) 497 (0 + 1 + 1 + 1) from rfl]
 rw [rowI_nil (k := 498) (fun x h1 h2 => no 0 x (by omega) (by omega) (by omega) (by omega) (by omega)), rowI_nil (k := 497) (fun x h1 h2 => no (0 + 1) x (by omega) (by omega) (by omega) (by omega) (by omega)), allI_nil (fun x y h1 h2 h3 => no x y (by omega) (by omega) (by omega) (by omega) (by omega))]
 have z1 : ((0 : Int) + 1) = 1 := rfl
 have z2 : ((1 : Int) + 1) = 2 := rfl
 simp only [z1, z2, e0, e1, if_true, List.append_nil, List.cons_append, List.nil_append]
theorem ex_hasC : ∀ c ∈ exW.classes, ∀ e ∈ c, hasC [0, 1, 0] e := by
 have : ∀ c ∈ exW.classes, ∀ e ∈ c, (0 ≤ e.s /\ e.s < 3 /\ 0 ≤ colAt [0, 1, 0] e.s /\ colAt [0, 1, 0] e.s < 500) := by
  unfold exW
  decide
 exact this
end Go.Proofs.YtikppcfabnnhfaaDoor

