/- Plain: the packed vector answers as the classes do. -/
import Derived.Test.YtikppcfabnnhfaaDoorCNS14
import Derived.Test.YtikppcfabnnhfaaDoorCNC23
namespace Go.Proofs.YtikppcfabnnhfaaDoor
open Go Go.Aw
set_option linter.unusedVariables false
def sumL : List (List Et) → Nat
  | [] => 0
  | c :: r => c.length + sumL r
theorem sumL_app : ∀ {a b : List (List Et)}, sumL (a ++ b) = sumL a + sumL b
  | [], b => by simp [sumL]
  | c :: a, b => by rw [List.cons_append, sumL, sumL, sumL_app]; omega
/-- Of classes that lie in a vector. -/
theorem nd_inj : ∀ {l : List Int} {i j : Nat} {x : Int}, l.Nodup → l[i]? = some x → l[j]? = some x → i = j
  | y :: l, 0, 0, x, _, _, _ => rfl
  | y :: l, 0, j + 1, x, h, h1, h2 => by
    cases h1
    exact absurd (List.mem_of_getElem? (by simpa using h2)) (List.nodup_cons.1 h).1
  | y :: l, i + 1, 0, x, h, h1, h2 => by
    cases h2
    exact absurd (List.mem_of_getElem? (by simpa using h1)) (List.nodup_cons.1 h).1
  | y :: l, i + 1, j + 1, x, h, h1, h2 => congrArg (· + 1) (nd_inj (List.nodup_cons.1 h).2 (by simpa using h1) (by simpa using h2))
structure PkOk (cs : List Int) (d : List (List Et)) (v : List Et) (o : List Int) : Prop where
  len : o.length = d.length
  nd : o.Nodup
  nn : ∀ x ∈ o, 0 ≤ x
  sel : ∀ c ∈ d, ∀ e ∈ c, 0 ≤ e.s
  hit : ∀ (k : Nat) (c : List Et) (x : Int) (e : Et), d[k]? = some c → o[k]? = some x → e ∈ c → v[x.toNat + (colAt cs e.s).toNat]? = some e
  inv : ∀ (p : Nat) (e : Et), v[p]? = some e → 0 ≤ e.s → ∃ (k : Nat) (c : List Et) (x : Int), d[k]? = some c ∧ o[k]? = some x ∧ e ∈ c ∧ p = x.toNat + (colAt cs e.s).toNat
  cnt : cntO v = sumL d
theorem grow_get {vec t : List Et} {a : Int} {p : Nat} {e : Et} (h : (growM vec t a)[p]? = some e) : vec[p]? = some e ∨ (vec.length ≤ p ∧ e = noE) := by
  unfold growM at h
  split at h
  · rw [List.getElem?_append] at h
    split at h
    · exact .inl h
    · exact .inr ⟨by omega, noE_get h⟩
  · exact .inl h
theorem grow_old {vec t : List Et} {a : Int} {p : Nat} {e : Et} (h : vec[p]? = some e) : (growM vec t a)[p]? = some e := by
  unfold growM
  split
  · rw [List.getElem?_append, if_pos (List.getElem?_eq_some_iff.1 h).1]; exact h
  · exact h
theorem grow_cnt {vec t : List Et} {a : Int} : cntO (growM vec t a) = cntO vec := by
  unfold growM
  split
  · rw [cnt_app, cnt_no, Nat.add_zero]
  · rfl
theorem pk_step {cs : List Int} {d : List (List Et)} {v : List Et} {o : List Int} {c : List Et} (h : PkOk cs d v o) (hi : injC cs c) (hh : ∀ e ∈ c, hasC cs e) :
    PkOk cs (d ++ [c]) (putL (tblM cs c) (placeA o v (tblM cs c)) (growM v (tblM cs c) (placeA o v (tblM cs c)))) (o ++ [placeA o v (tblM cs c)]) := by
  have T := tab_law hi hh
  generalize tblM cs c = t at T ⊢
  obtain ⟨p1, p2⟩ := place_ok (offs := o) (vec := v) (t := t)
  generalize placeA o v t = a at p1 p2 ⊢
  obtain ⟨n, rfl⟩ : ∃ n : Nat, a = n := ⟨a.toNat, by omega⟩
  rw [okA, Bool.and_eq_true, Bool.not_eq_true'] at p1
  have hno : (n : Int) ∉ o := fun hm => by
    have := List.contains_iff_mem.2 hm
    rw [p1.1] at this; cases this
  have hfit := fit_iff.1 p1.2
  obtain ⟨g1, g2, g3⟩ := growM_len (vec := v) (t := t) (a := (n : Int)) (by omega)
  obtain ⟨k1, k2, k3⟩ := put_law (r := t) (p := n) (v := growM v t n) (g2.imp id fun h => by omega) (fun i s e hs h0 he => by
    rcases grow_get he with he | ⟨_, rfl⟩
    · exact hfit i s e hs h0 he
    · decide)
  have free : ∀ (q : Nat) (e : Et), v[q]? = some e → 0 ≤ e.s → ∀ (i : Nat) (s : Et), t[i]? = some s → 0 ≤ s.s → q ≠ n + i := fun q e he h0 i s hs hs0 hq => by
    have := hfit i s e hs hs0 (by rw [← hq]; exact he)
    omega
  have hod : ∀ {k : Nat} {c' : List Et} {x : Int}, (d ++ [c])[k]? = some c' → (o ++ [(n : Int)])[k]? = some x → (d[k]? = some c' ∧ o[k]? = some x) ∨ (c' = c ∧ x = n) := fun {k c' x} h1 h2 => by
    rw [List.getElem?_append] at h1 h2
    by_cases hk : k < d.length
    · rw [if_pos hk] at h1
      rw [if_pos (by rw [h.len]; exact hk)] at h2
      exact .inl ⟨h1, h2⟩
    · rw [if_neg hk] at h1
      rw [if_neg (by rw [h.len]; exact hk), h.len] at h2
      have : k - d.length = 0 := by
        have := (List.getElem?_eq_some_iff.1 h1).1
        simp at this
        omega
      rw [this] at h1 h2
      cases h1; cases h2
      exact .inr ⟨rfl, rfl⟩
  refine ⟨by simp [h.len], ?_, fun x hx => ?_, fun c' hc' e he => ?_, fun k c' x e h1 h2 he => ?_, fun p e hp h0 => ?_, ?_⟩
  · rw [List.nodup_append]
    refine ⟨h.nd, by simp, fun x hx y hy => ?_⟩
    rw [List.mem_singleton.1 hy]
    exact fun e => hno (e ▸ hx)
  · rcases List.mem_append.1 hx with hx | hx
    · exact h.nn x hx
    · rw [List.mem_singleton.1 hx]; omega
  · rcases List.mem_append.1 hc' with hc' | hc'
    · exact h.sel c' hc' e he
    · rw [List.mem_singleton.1 hc'] at he
      exact (hh e he).1
  · rcases hod h1 h2 with ⟨h1, h2⟩ | ⟨rfl, rfl⟩
    · have hv := h.hit k c' x e h1 h2 he
      obtain ⟨_, hlt⟩ := List.getElem?_eq_some_iff.1 hv
      have he0 : 0 ≤ e.s := h.sel c' (List.mem_of_getElem? h1) e he
      rw [k2 _ (fun i s hs hs0 => free _ e hv he0 i s hs hs0)]
      exact grow_old hv
    · rw [show ((n : Int)).toNat = n by omega]
      exact k1 _ e (T.hit e he) (hh e he).1
  · by_cases hq : ∃ (i : Nat) (s : Et), t[i]? = some s ∧ 0 ≤ s.s ∧ p = n + i
    · obtain ⟨i, s, hs, hs0, rfl⟩ := hq
      rw [k1 i s hs hs0] at hp
      cases hp
      obtain ⟨a1, a2⟩ := T.inv i _ hs hs0
      refine ⟨d.length, c, n, by simp, by rw [← h.len]; simp, a1, ?_⟩
      rw [a2]; omega
    · rw [k2 p (fun i s hs hs0 e => hq ⟨i, s, hs, hs0, e⟩)] at hp
      rcases grow_get hp with hp | ⟨_, rfl⟩
      · obtain ⟨k, c', x, b1, b2, b3, b4⟩ := h.inv p e hp h0
        refine ⟨k, c', x, ?_, ?_, b3, b4⟩
        · rw [List.getElem?_append, if_pos (List.getElem?_eq_some_iff.1 b1).1]; exact b1
        · rw [List.getElem?_append, if_pos (List.getElem?_eq_some_iff.1 b2).1]; exact b2
      · exact absurd h0 (by decide)
  · rw [k3, grow_cnt, h.cnt, T.cnt, sumL_app]
    simp [sumL]
theorem pk_all {cs : List Int} : ∀ {r d : List (List Et)} {v : List Et} {o : List Int}, PkOk cs d v o → (∀ c ∈ r, injC cs c ∧ ∀ e ∈ c, hasC cs e) → PkOk cs (d ++ r) (packM cs r (v, o)).1 (packM cs r (v, o)).2
  | [], d, v, o, h, _ => by rw [List.append_nil]; exact h
  | c :: r, d, v, o, h, hr => by
    have := pk_all (r := r) (pk_step h (hr c (by simp)).1 (hr c (by simp)).2) (fun c' hc' => hr c' (by simp [hc']))
    rw [List.append_assoc] at this
    exact this
theorem pk_nil {cs : List Int} : PkOk cs [] [] [] := ⟨rfl, List.nodup_nil, by simp, by simp, by simp, by simp, rfl⟩
/-- Two selectors of a class have two colours. -/
theorem inj_of {w : Wd} {cs : List Int} (g : Good w) (h : ColsOk (graphW w) cs) {c : List Et} (hc : c ∈ w.classes) : injC cs c ∧ ∀ e ∈ c, hasC cs e := by
  have hk := clsok_of g
  have hz := szM_le (graphW w) 500
  have has : ∀ e ∈ c, hasC cs e := fun e he => by
    obtain ⟨s1, s2⟩ := (hk c hc).1 e he
    have kn : hasW (graphW w) 0 e.s = true := (knownW ⟨s1, s2⟩ hk).2 ⟨c, hc, List.mem_map.2 ⟨e, he, rfl⟩⟩
    have hlt := szM_lt (g := graphW w) (n := 500) (m := e.s.toNat) (by rw [show ((e.s.toNat : Nat) : Int) = e.s by omega]; exact kn) (by omega)
    rw [← h.len] at hlt
    have h0 := h.kn e.s.toNat hlt (by rw [show ((e.s.toNat : Nat) : Int) = e.s by omega]; exact kn)
    have hb := h.bd _ (getD_mem hlt)
    exact ⟨s1, by omega, h0, hb.2⟩
  refine ⟨?_, has⟩
  have hp := g.asc c hc
  rw [List.pairwise_map] at hp
  refine hp.imp_of_mem fun {a b} ha hb hab he => ?_
  have a1 := has a ha
  have b1 := has b hb
  unfold hasC at a1 b1
  have := h.no a.s.toNat b.s.toNat (by omega) (by omega) a1.2.2.1 he
  rw [show ((a.s.toNat : Nat) : Int) = a.s by omega, show ((b.s.toNat : Nat) : Int) = b.s by omega] at this
  exact this ((nearW ((hk c hc).1 a ha) ((hk c hc).1 b hb) hk).2 ⟨by omega, c, hc, List.mem_map.2 ⟨a, ha, rfl⟩, List.mem_map.2 ⟨b, hb, rfl⟩⟩)
/-- The method of a class for a selector: that of the last entry that has it. -/
def wantM : List Et → Int → Int → Int
  | [], _, m => m
  | e :: r, s, m => wantM r s (if e.s = s then e.m else m)
theorem want_no {s : Int} : ∀ {c : List Et} {m : Int}, (∀ e ∈ c, e.s ≠ s) → wantM c s m = m
  | [], _, _ => rfl
  | e :: c, m, h => by rw [wantM, if_neg (h e (by simp)), want_no fun e he => h e (by simp [he])]
theorem want_at {s : Int} : ∀ {c : List Et} {m : Int} {e : Et}, (c.map Et.s).Nodup → e ∈ c → e.s = s → wantM c s m = e.m
  | x :: c, m, e, hnd, he, hs => by
    rw [List.map_cons, List.nodup_cons] at hnd
    rw [wantM]
    rcases List.mem_cons.1 he with rfl | he
    · rw [if_pos hs, want_no fun y hy hys => hnd.1 (List.mem_map.2 ⟨y, hy, hys.trans hs.symm⟩)]
    · exact want_at hnd.2 he hs
/-- **By colours and the vector each class finds what it has, and nothing else.** -/
theorem finds {w : Wd} {cs : List Int} (g : Good w) (h : ColsOk (graphW w) cs) {k : Nat} {c : List Et} (hk : w.classes[k]? = some c) {s : Int} :
    lookM (packM cs w.classes ([], [])).1 (packM cs w.classes ([], [])).2 cs k s = wantM c s (-1) := by
  have hc := List.mem_of_getElem? hk
  have P := pk_all (r := w.classes) (pk_nil (cs := cs)) (fun c hc => inj_of g h hc)
  rw [List.nil_append] at P
  generalize (packM cs w.classes ([], [])).1 = v at P ⊢
  generalize (packM cs w.classes ([], [])).2 = o at P ⊢
  have hkl := (List.getElem?_eq_some_iff.1 hk).1
  have hol : k < o.length := by rw [P.len]; exact hkl
  have ho := List.getElem?_eq_getElem hol
  have hog : o.getD k 0 = o[k] := get_D hol
  have hnn := P.nn _ (List.getElem_mem hol)
  generalize o[k] = x at ho hog hnn
  have hkt : ((k : Int)).toNat = k := by omega
  have hnd := (clsok_of g c hc).2
  by_cases he : ∃ e ∈ c, e.s = s
  · obtain ⟨e, he, rfl⟩ := he
    rw [want_at hnd he rfl]
    have hh := (inj_of g h hc).2 e he
    unfold hasC colAt at hh
    have hv := P.hit k c x e hk ho he
    obtain ⟨hlt, hge⟩ := List.getElem?_eq_some_iff.1 hv
    unfold colAt at hlt hge
    unfold lookM placeM
    rw [hkt, hog, if_neg (by omega), if_pos (by omega)]
    dsimp only
    have e2 : (x + cs.getD e.s.toNat 0).toNat = x.toNat + (cs.getD e.s.toNat 0).toNat := by omega
    rw [e2, List.getD_eq_getElem?_getD, List.getElem?_eq_getElem hlt, hge]
    exact if_pos rfl
  · rw [want_no fun e h1 h2 => he ⟨e, h1, h2⟩]
    unfold lookM placeM
    rw [hkt, hog]
    by_cases b1 : (k : Int) < 0 ∨ (o.length : Int) ≤ k ∨ s < 0 ∨ (cs.length : Int) ≤ s ∨ cs.getD s.toNat 0 < 0
    · rw [if_pos b1]
    rw [if_neg b1]
    by_cases b2 : 0 ≤ x + cs.getD s.toNat 0 ∧ x + cs.getD s.toNat 0 < v.length ∧ x ≤ v.length
    · rw [if_pos b2]
      dsimp only
      have hlt : (x + cs.getD s.toNat 0).toNat < v.length := by omega
      rw [List.getD_eq_getElem?_getD, List.getElem?_eq_getElem hlt]
      show (if (v[(x + cs.getD s.toNat 0).toNat]).s = s then _ else _) = _
      rw [if_neg]
      intro hs
      obtain ⟨k', c', x', d1, d2, d3, d4⟩ := P.inv _ _ (List.getElem?_eq_getElem hlt) (by omega)
      unfold colAt at d4
      rw [hs] at d4
      have hx' := P.nn x' (List.mem_of_getElem? d2)
      have hxx : x' = x := by omega
      subst hxx
      have hkk : k' = k := by
        exact nd_inj P.nd d2 ho
      subst hkk
      rw [hk] at d1
      cases d1
      exact he ⟨_, d3, hs⟩
    · rw [if_neg b2]
end Go.Proofs.YtikppcfabnnhfaaDoor
