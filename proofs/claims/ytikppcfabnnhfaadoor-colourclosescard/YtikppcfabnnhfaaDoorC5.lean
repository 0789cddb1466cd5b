/- A part of the proof of ColourClosesCardSaid. -/
import Derived.Test.YtikppcfabnnhfaaDoorC4
/- Plain: tables, and the packed vector. -/
namespace Go.Proofs.YtikppcfabnnhfaaDoor
open Go Go.Aw
set_option linter.unusedVariables false
def cntO (v : List Et) : Nat := (v.filter fun e => decide (0 ≤ e.s)).length
theorem cnt_set : ∀ {v : List Et} {p : Nat} {x e : Et}, v[p]? = some e → e.s < 0 → 0 ≤ x.s → cntO (v.set p x) = cntO v + 1
  | [], _, _, _, h, _, _ => by cases h
  | y :: v, 0, x, e, h, h1, h2 => by
    cases h
    simp only [cntO, List.set_cons_zero, List.filter_cons, decide_eq_true h2, decide_eq_false (show ¬ 0 ≤ y.s by omega), if_true]
    rfl
  | y :: v, p + 1, x, e, h, h1, h2 => by
    have := cnt_set (v := v) (p := p) (x := x) (e := e) (by simpa using h) h1 h2
    simp only [cntO, List.set_cons_succ, List.filter_cons] at this ⊢
    split
    · simp only [List.length_cons, this]
    · exact this
theorem cnt_app {v w : List Et} : cntO (v ++ w) = cntO v + cntO w := by simp [cntO, List.filter_append]
theorem cnt_no {n : Nat} : cntO (reN n) = 0 := by
  unfold cntO reN
  rw [List.length_eq_zero_iff, List.filter_eq_nil_iff]
  intro e he
  rw [List.eq_of_mem_replicate he]
  decide
theorem noE_get {n p : Nat} {e : Et} (h : (reN n)[p]? = some e) : e = noE := List.eq_of_mem_replicate (List.mem_of_getElem? h)
/-- The colours of a class differ. -/
def injC (cs : List Int) (c : List Et) : Prop := c.Pairwise fun e f => colAt cs e.s ≠ colAt cs f.s
/-- **The table of a class.** -/
theorem tu_law {cs : List Int} : ∀ {r t m : List Et}, injC cs (m ++ r) → (∀ e ∈ m ++ r, hasC cs e ∧ (colAt cs e.s).toNat < t.length) →
    (∀ e ∈ m, t[(colAt cs e.s).toNat]? = some e) → (∀ (i : Nat) (e : Et), t[i]? = some e → 0 ≤ e.s → e ∈ m ∧ (colAt cs e.s).toNat = i) →
    (∀ e ∈ m ++ r, (tuM cs r t)[(colAt cs e.s).toNat]? = some e) ∧ (∀ (i : Nat) (e : Et), (tuM cs r t)[i]? = some e → 0 ≤ e.s → e ∈ m ++ r ∧ (colAt cs e.s).toNat = i) ∧ cntO (tuM cs r t) = cntO t + r.length
  | [], t, m, _, _, h1, h2 => by
    rw [List.append_nil]
    exact ⟨h1, h2, rfl⟩
  | x :: r, t, m, hi, hh, h1, h2 => by
    have e1 : m ++ x :: r = (m ++ [x]) ++ r := by simp
    rw [tuM]
    rw [e1] at hi hh ⊢
    have hx := hh x (by simp)
    have hne : ∀ e ∈ m, (colAt cs e.s).toNat ≠ (colAt cs x.s).toNat := fun e he hc => by
      unfold injC at hi
      rw [List.pairwise_append] at hi
      have := (List.pairwise_append.1 hi.1).2.2 e he x (by simp)
      have a := (hh e (by simp [he])).1
      unfold hasC at a hx
      omega
    obtain ⟨k1, k2, k3⟩ := tu_law (r := r) (t := t.set (colAt cs x.s).toNat x) (m := m ++ [x]) hi (fun e he => by rw [List.length_set]; exact hh e he) (fun e he => by
        rw [List.getElem?_set]
        rcases List.mem_append.1 he with he | he
        · rw [if_neg (fun h => hne e he h.symm)]
          exact h1 e he
        · rw [List.mem_singleton.1 he, if_pos rfl, if_pos hx.2]) (fun i e he h0 => by
        rw [List.getElem?_set] at he
        split at he
        · rename_i hi'
          split at he
          · cases he
            exact ⟨by simp, hi'⟩
          · cases he
        · obtain ⟨a, b⟩ := h2 i e he h0
          exact ⟨by simp [a], b⟩)
    refine ⟨k1, k2, ?_⟩
    have hlt := hx.2
    have hs : (t[(colAt cs x.s).toNat]).s < 0 := by
      rcases Int.lt_or_le (t[(colAt cs x.s).toNat]).s 0 with h | h
      · exact h
      · obtain ⟨a, b⟩ := h2 _ _ (List.getElem?_eq_getElem hlt) h
        exact absurd b (hne _ a)
    rw [k3, cnt_set (List.getElem?_eq_getElem hlt) hs hx.1.1, List.length_cons]
    omega
structure TabOk (cs : List Int) (c t : List Et) : Prop where
  hit : ∀ e ∈ c, t[(colAt cs e.s).toNat]? = some e
  inv : ∀ (i : Nat) (e : Et), t[i]? = some e → 0 ≤ e.s → e ∈ c ∧ (colAt cs e.s).toNat = i
  cnt : cntO t = c.length
theorem tab_law {cs : List Int} {c : List Et} (hi : injC cs c) (hh : ∀ e ∈ c, hasC cs e) : TabOk cs c (tblM cs c) := by
  obtain ⟨a, b, d⟩ := tsM_rng (n := 0) hh (by omega) (by omega)
  have := tu_law (cs := cs) (r := c) (t := reN (tsM cs c 0).toNat) (m := []) hi (fun e he => ⟨hh e he, by
    have := d e he
    have h2 := hh e he
    unfold hasC at h2
    simp only [reN, List.length_replicate]
    omega⟩) (by simp) (fun i e he h0 => by
    rw [noE_get he] at h0
    exact absurd h0 (by decide))
  rw [List.nil_append, cnt_no, Nat.zero_add] at this
  exact ⟨this.1, this.2.1, this.2.2⟩
/-- What is put, lies. -/
theorem put_law : ∀ {r : List Et} {p : Nat} {v : List Et}, (r = [] ∨ p + r.length ≤ v.length) → (∀ (i : Nat) (s e : Et), r[i]? = some s → 0 ≤ s.s → v[p + i]? = some e → e.s < 0) →
    (∀ (i : Nat) (s : Et), r[i]? = some s → 0 ≤ s.s → (putL r p v)[p + i]? = some s) ∧ (∀ (q : Nat), (∀ (i : Nat) (s : Et), r[i]? = some s → 0 ≤ s.s → q ≠ p + i) → (putL r p v)[q]? = v[q]?) ∧ cntO (putL r p v) = cntO v + cntO r
  | [], p, v, _, _ => by simp [putL, cntO]
  | x :: r, p, v, hl, hf => by
    have hl' : p + (r.length + 1) ≤ v.length := hl.resolve_left (by simp)
    have hp : p < v.length := by omega
    have e0 : ((p : Int)).toNat = p := by omega
    have e1 : (p : Int) + 1 = ((p + 1 : Nat) : Int) := by omega
    rw [putL, e0, e1]
    by_cases hx : 0 ≤ x.s
    · rw [if_pos hx]
      have hfree := hf 0 x v[p] rfl hx (by rw [Nat.add_zero]; exact List.getElem?_eq_getElem hp)
      obtain ⟨k1, k2, k3⟩ := put_law (r := r) (p := p + 1) (v := v.set p x) (.inr (by rw [List.length_set]; omega)) (fun i s e hs h0 he => by
        rw [List.getElem?_set, if_neg (by omega)] at he
        exact hf (i + 1) s e (by simpa using hs) h0 (by rw [show p + (i + 1) = p + 1 + i by omega]; exact he))
      refine ⟨fun i s hs h0 => ?_, fun q hq => ?_, ?_⟩
      · cases i with
        | zero =>
          cases hs
          have e := k2 p (fun i s _ _ => by omega)
          rw [List.getElem?_set, if_pos rfl, if_pos hp] at e
          exact e
        | succ i =>
          rw [show p + (i + 1) = p + 1 + i by omega]
          exact k1 i s (by simpa using hs) h0
      · have hqp : q ≠ p := by have := hq 0 x rfl hx; omega
        rw [k2 q (fun i s hs h0 => by have := hq (i + 1) s (by simpa using hs) h0; omega), List.getElem?_set, if_neg (fun h => hqp h.symm)]
      · rw [k3, cnt_set (List.getElem?_eq_getElem hp) hfree hx]
        have : cntO (x :: r) = cntO r + 1 := by simp [cntO, hx]
        omega
    · rw [if_neg hx]
      obtain ⟨k1, k2, k3⟩ := put_law (r := r) (p := p + 1) (v := v) (.inr (by omega)) (fun i s e hs h0 he => hf (i + 1) s e (by simpa using hs) h0 (by rw [show p + (i + 1) = p + 1 + i by omega]; exact he))
      refine ⟨fun i s hs h0 => ?_, fun q hq => ?_, ?_⟩
      · cases i with
        | zero => cases hs; exact absurd h0 hx
        | succ i =>
          rw [show p + (i + 1) = p + 1 + i by omega]
          exact k1 i s (by simpa using hs) h0
      · exact k2 q (fun i s hs h0 => by have := hq (i + 1) s (by simpa using hs) h0; omega)
      · rw [k3]
        have : cntO (x :: r) = cntO r := by simp [cntO, hx]
        omega
theorem fit_iff {vec : List Et} : ∀ {t : List Et} {p : Nat}, fitL vec t p = true ↔ ∀ (i : Nat) (s e : Et), t[i]? = some s → 0 ≤ s.s → vec[p + i]? = some e → e.s < 0
  | [], p => by simp [fitL]
  | x :: t, p => by
    rw [fitL, show (p : Int) + 1 = ((p + 1 : Nat) : Int) by omega]
    have ih := fit_iff (vec := vec) (t := t) (p := p + 1)
    have e0 : ((p : Int)).toNat = p := by omega
    rw [e0]
    constructor
    · intro h i s e hs h0 he
      split at h
      · cases h
      · rename_i hc
        cases i with
        | zero =>
          cases hs
          obtain ⟨hp, rfl⟩ := List.getElem?_eq_some_iff.1 he
          rw [Nat.add_zero] at hp
          have hg : vec.getD p ⟨0, 0⟩ = vec[p] := by rw [List.getD_eq_getElem?_getD, List.getElem?_eq_getElem hp]; rfl
          rw [hg] at hc
          have : ¬ 0 ≤ (vec[p]).s := fun h => hc ⟨h0, by omega, h⟩
          simp only [Nat.add_zero]
          omega
        | succ i => exact ih.1 h i s e (by simpa using hs) h0 (by rw [show p + 1 + i = p + (i + 1) by omega]; exact he)
    · intro h
      rw [if_neg, ih]
      · intro i s e hs h0 he
        exact h (i + 1) s e (by simpa using hs) h0 (by rw [show p + (i + 1) = p + 1 + i by omega]; exact he)
      · rintro ⟨h0, hp, h1⟩
        have hp' : p < vec.length := by omega
        have hg : vec.getD p ⟨0, 0⟩ = vec[p] := by rw [List.getD_eq_getElem?_getD, List.getElem?_eq_getElem hp']; rfl
        rw [hg] at h1
        have := h 0 x vec[p] rfl h0 (List.getElem?_eq_getElem hp')
        omega
theorem fAt_ok {ok : Int → Bool} : ∀ {k : Nat} {a : Int}, ok (a + k) = true → ok (fAt ok k a) = true
  | 0, a, h => by simpa [fAt] using h
  | k + 1, a, h => by
    rw [fAt]
    split
    · rename_i h; exact h
    · exact fAt_ok (by rw [show a + 1 + (k : Int) = a + ((k + 1 : Nat) : Int) by omega]; exact h)
theorem place_ok {offs : List Int} {vec t : List Et} : okA offs vec t (placeA offs vec t) = true ∧ 0 ≤ placeA offs vec t := by
  obtain ⟨h1, h2⟩ := top_fold (offs := offs) (n := vec.length)
  unfold placeA
  refine ⟨fAt_ok ?_, (fAt_rng (k := (topM offs vec).toNat) (a := 0)).1⟩
  have e : (0 : Int) + ((topM offs vec).toNat : Int) = topM offs vec := by unfold topM; omega
  rw [e, okA, Bool.and_eq_true]
  refine ⟨?_, fitL_far h1⟩
  rw [Bool.not_eq_true']
  cases hc : offs.contains (topM offs vec) with
  | false => rfl
  | true =>
    have := h2 _ (List.contains_iff_mem.1 hc)
    unfold topM at this
    omega
end Go.Proofs.YtikppcfabnnhfaaDoor

/- Plain: the packed vector answers as the classes do. -/
namespace Go.Proofs.YtikppcfabnnhfaaDoor
open Go Go.Aw
set_option linter.unusedVariables false
def sumL : List (List Et) → Nat
  | [] => 0
  | c :: r => c.length + sumL r
theorem sumL_app : ∀ {a b : List (List Et)}, sumL (a ++ b) = sumL a + sumL b
  | [], b => by simp [sumL]
  | c :: a, b => by rw [List.cons_append, sumL, sumL, sumL_app]; omega
/-- Of classes that lie in a vector. -/
theorem nd_inj : ∀ {l : List Int} {i j : Nat} {x : Int}, l.Nodup → l[i]? = some x → l[j]? = some x → i = j
  | y :: l, 0, 0, x, _, _, _ => rfl
  | y :: l, 0, j + 1, x, h, h1, h2 => by
    cases h1
    exact absurd (List.mem_of_getElem? (by simpa using h2)) (List.nodup_cons.1 h).1
  | y :: l, i + 1, 0, x, h, h1, h2 => by
    cases h2
    exact absurd (List.mem_of_getElem? (by simpa using h1)) (List.nodup_cons.1 h).1
  | y :: l, i + 1, j + 1, x, h, h1, h2 => congrArg (· + 1) (nd_inj (List.nodup_cons.1 h).2 (by simpa using h1) (by simpa using h2))
structure PkOk (cs : List Int) (d : List (List Et)) (v : List Et) (o : List Int) : Prop where
  len : o.length = d.length
  nd : o.Nodup
  nn : ∀ x ∈ o, 0 ≤ x
  sel : ∀ c ∈ d, ∀ e ∈ c, 0 ≤ e.s
  hit : ∀ (k : Nat) (c : List Et) (x : Int) (e : Et), d[k]? = some c → o[k]? = some x → e ∈ c → v[x.toNat + (colAt cs e.s).toNat]? = some e
  inv : ∀ (p : Nat) (e : Et), v[p]? = some e → 0 ≤ e.s → ∃ (k : Nat) (c : List Et) (x : Int), d[k]? = some c ∧ o[k]? = some x ∧ e ∈ c ∧ p = x.toNat + (colAt cs e.s).toNat
  cnt : cntO v = sumL d
theorem grow_get {vec t : List Et} {a : Int} {p : Nat} {e : Et} (h : (growM vec t a)[p]? = some e) : vec[p]? = some e ∨ (vec.length ≤ p ∧ e = noE) := by
  unfold growM at h
  split at h
  · rw [List.getElem?_append] at h
    split at h
    · exact .inl h
    · exact .inr ⟨by omega, noE_get h⟩
  · exact .inl h
theorem grow_old {vec t : List Et} {a : Int} {p : Nat} {e : Et} (h : vec[p]? = some e) : (growM vec t a)[p]? = some e := by
  unfold growM
  split
  · rw [List.getElem?_append, if_pos (List.getElem?_eq_some_iff.1 h).1]; exact h
  · exact h
theorem grow_cnt {vec t : List Et} {a : Int} : cntO (growM vec t a) = cntO vec := by
  unfold growM
  split
  · rw [cnt_app, cnt_no, Nat.add_zero]
  · rfl
theorem pk_step {cs : List Int} {d : List (List Et)} {v : List Et} {o : List Int} {c : List Et} (h : PkOk cs d v o) (hi : injC cs c) (hh : ∀ e ∈ c, hasC cs e) :
    PkOk cs (d ++ [c]) (putL (tblM cs c) (placeA o v (tblM cs c)) (growM v (tblM cs c) (placeA o v (tblM cs c)))) (o ++ [placeA o v (tblM cs c)]) := by
  have T := tab_law hi hh
  generalize tblM cs c = t at T ⊢
  obtain ⟨p1, p2⟩ := place_ok (offs := o) (vec := v) (t := t)
  generalize placeA o v t = a at p1 p2 ⊢
  obtain ⟨n, rfl⟩ : ∃ n : Nat, a = n := ⟨a.toNat, by omega⟩
  rw [okA, Bool.and_eq_true, Bool.not_eq_true'] at p1
  have hno : (n : Int) ∉ o := fun hm => by
    have := List.contains_iff_mem.2 hm
    rw [p1.1] at this; cases this
  have hfit := fit_iff.1 p1.2
  obtain ⟨g1, g2, g3⟩ := growM_len (vec := v) (t := t) (a := (n : Int)) (by omega)
  obtain ⟨k1, k2, k3⟩ := put_law (r := t) (p := n) (v := growM v t n) (g2.imp id fun h => by omega) (fun i s e hs h0 he => by
    rcases grow_get he with he | ⟨_, rfl⟩
    · exact hfit i s e hs h0 he
    · decide)
  have free : ∀ (q : Nat) (e : Et), v[q]? = some e → 0 ≤ e.s → ∀ (i : Nat) (s : Et), t[i]? = some s → 0 ≤ s.s → q ≠ n + i := fun q e he h0 i s hs hs0 hq => by
    have := hfit i s e hs hs0 (by rw [← hq]; exact he)
    omega
  have hod : ∀ {k : Nat} {c' : List Et} {x : Int}, (d ++ [c])[k]? = some c' → (o ++ [(n : Int)])[k]? = some x → (d[k]? = some c' ∧ o[k]? = some x) ∨ (c' = c ∧ x = n) := fun {k c' x} h1 h2 => by
    rw [List.getElem?_append] at h1 h2
    by_cases hk : k < d.length
    · rw [if_pos hk] at h1
      rw [if_pos (by rw [h.len]; exact hk)] at h2
      exact .inl ⟨h1, h2⟩
    · rw [if_neg hk] at h1
      rw [if_neg (by rw [h.len]; exact hk), h.len] at h2
      have : k - d.length = 0 := by
        have := (List.getElem?_eq_some_iff.1 h1).1
        simp at this
        omega
      rw [this] at h1 h2
      cases h1; cases h2
      exact .inr ⟨rfl, rfl⟩
  refine ⟨by simp [h.len], ?_, fun x hx => ?_, fun c' hc' e he => ?_, fun k c' x e h1 h2 he => ?_, fun p e hp h0 => ?_, ?_⟩
  · rw [List.nodup_append]
    refine ⟨h.nd, by simp, fun x hx y hy => ?_⟩
    rw [List.mem_singleton.1 hy]
    exact fun e => hno (e ▸ hx)
  · rcases List.mem_append.1 hx with hx | hx
    · exact h.nn x hx
    · rw [List.mem_singleton.1 hx]; omega
  · rcases List.mem_append.1 hc' with hc' | hc'
    · exact h.sel c' hc' e he
    · rw [List.mem_singleton.1 hc'] at he
      exact (hh e he).1
  · rcases hod h1 h2 with ⟨h1, h2⟩ | ⟨rfl, rfl⟩
    · have hv := h.hit k c' x e h1 h2 he
      obtain ⟨_, hlt⟩ := List.getElem?_eq_some_iff.1 hv
      have he0 : 0 ≤ e.s := h.sel c' (List.mem_of_getElem? h1) e he
      rw [k2 _ (fun i s hs hs0 => free _ e hv he0 i s hs hs0)]
      exact grow_old hv
    · rw [show ((n : Int)).toNat = n by omega]
      exact k1 _ e (T.hit e he) (hh e he).1
  · by_cases hq : ∃ (i : Nat) (s : Et), t[i]? = some s ∧ 0 ≤ s.s ∧ p = n + i
    · obtain ⟨i, s, hs, hs0, rfl⟩ := hq
      rw [k1 i s hs hs0] at hp
      cases hp
      obtain ⟨a1, a2⟩ := T.inv i _ hs hs0
      refine ⟨d.length, c, n, by simp, by rw [← h.len]; simp, a1, ?_⟩
      rw [a2]; omega
    · rw [k2 p (fun i s hs hs0 e => hq ⟨i, s, hs, hs0, e⟩)] at hp
      rcases grow_get hp with hp | ⟨_, rfl⟩
      · obtain ⟨k, c', x, b1, b2, b3, b4⟩ := h.inv p e hp h0
        refine ⟨k, c', x, ?_, ?_, b3, b4⟩
        · rw [List.getElem?_append, if_pos (List.getElem?_eq_some_iff.1 b1).1]; exact b1
        · rw [List.getElem?_append, if_pos (List.getElem?_eq_some_iff.1 b2).1]; exact b2
      · exact absurd h0 (by decide)
  · rw [k3, grow_cnt, h.cnt, T.cnt, sumL_app]
    simp [sumL]
theorem pk_all {cs : List Int} : ∀ {r d : List (List Et)} {v : List Et} {o : List Int}, PkOk cs d v o → (∀ c ∈ r, injC cs c ∧ ∀ e ∈ c, hasC cs e) → PkOk cs (d ++ r) (packM cs r (v, o)).1 (packM cs r (v, o)).2
  | [], d, v, o, h, _ => by rw [List.append_nil]; exact h
  | c :: r, d, v, o, h, hr => by
    have := pk_all (r := r) (pk_step h (hr c (by simp)).1 (hr c (by simp)).2) (fun c' hc' => hr c' (by simp [hc']))
    rw [List.append_assoc] at this
    exact this
theorem pk_nil {cs : List Int} : PkOk cs [] [] [] := ⟨rfl, List.nodup_nil, by simp, by simp, by simp, by simp, rfl⟩
/-- Two selectors of a class have two colours. -/
theorem inj_of {w : Wd} {cs : List Int} (g : Good w) (h : ColsOk (graphW w) cs) {c : List Et} (hc : c ∈ w.classes) : injC cs c ∧ ∀ e ∈ c, hasC cs e := by
  have hk := clsok_of g
  have hz := szM_le (graphW w) 500
  have has : ∀ e ∈ c, hasC cs e := fun e he => by
    obtain ⟨s1, s2⟩ := (hk c hc).1 e he
    have kn : hasW (graphW w) 0 e.s = true := (knownW ⟨s1, s2⟩ hk).2 ⟨c, hc, List.mem_map.2 ⟨e, he, rfl⟩⟩
    have hlt := szM_lt (g := graphW w) (n := 500) (m := e.s.toNat) (by rw [show ((e.s.toNat : Nat) : Int) = e.s by omega]; exact kn) (by omega)
    rw [← h.len] at hlt
    have h0 := h.kn e.s.toNat hlt (by rw [show ((e.s.toNat : Nat) : Int) = e.s by omega]; exact kn)
    have hb := h.bd _ (getD_mem hlt)
    exact ⟨s1, by omega, h0, hb.2⟩
  refine ⟨?_, has⟩
  have hp := g.asc c hc
  rw [List.pairwise_map] at hp
  refine hp.imp_of_mem fun {a b} ha hb hab he => ?_
  have a1 := has a ha
  have b1 := has b hb
  unfold hasC at a1 b1
  have := h.no a.s.toNat b.s.toNat (by omega) (by omega) a1.2.2.1 he
  rw [show ((a.s.toNat : Nat) : Int) = a.s by omega, show ((b.s.toNat : Nat) : Int) = b.s by omega] at this
  exact this ((nearW ((hk c hc).1 a ha) ((hk c hc).1 b hb) hk).2 ⟨by omega, c, hc, List.mem_map.2 ⟨a, ha, rfl⟩, List.mem_map.2 ⟨b, hb, rfl⟩⟩)
/-- The method of a class for a selector: that of the last entry that has it. -/
def wantM : List Et → Int → Int → Int
  | [], _, m => m
  | e :: r, s, m => wantM r s (if e.s = s then e.m else m)
theorem want_no {s : Int} : ∀ {c : List Et} {m : Int}, (∀ e ∈ c, e.s ≠ s) → wantM c s m = m
  | [], _, _ => rfl
  | e :: c, m, h => by rw [wantM, if_neg (h e (by simp)), want_no fun e he => h e (by simp [he])]
theorem want_at {s : Int} : ∀ {c : List Et} {m : Int} {e : Et}, (c.map Et.s).Nodup → e ∈ c → e.s = s → wantM c s m = e.m
  | x :: c, m, e, hnd, he, hs => by
    rw [List.map_cons, List.nodup_cons] at hnd
    rw [wantM]
    rcases List.mem_cons.1 he with rfl | he
    · rw [if_pos hs, want_no fun y hy hys => hnd.1 (List.mem_map.2 ⟨y, hy, hys.trans hs.symm⟩)]
    · exact want_at hnd.2 he hs
/-- **By colours and the vector each class finds what it has, and nothing else.** -/
theorem finds {w : Wd} {cs : List Int} (g : Good w) (h : ColsOk (graphW w) cs) {k : Nat} {c : List Et} (hk : w.classes[k]? = some c) {s : Int} :
    lookM (packM cs w.classes ([], [])).1 (packM cs w.classes ([], [])).2 cs k s = wantM c s (-1) := by
  have hc := List.mem_of_getElem? hk
  have P := pk_all (r := w.classes) (pk_nil (cs := cs)) (fun c hc => inj_of g h hc)
  rw [List.nil_append] at P
  generalize (packM cs w.classes ([], [])).1 = v at P ⊢
  generalize (packM cs w.classes ([], [])).2 = o at P ⊢
  have hkl := (List.getElem?_eq_some_iff.1 hk).1
  have hol : k < o.length := by rw [P.len]; exact hkl
  have ho := List.getElem?_eq_getElem hol
  have hog : o.getD k 0 = o[k] := get_D hol
  have hnn := P.nn _ (List.getElem_mem hol)
  generalize o[k] = x at ho hog hnn
  have hkt : ((k : Int)).toNat = k := by omega
  have hnd := (clsok_of g c hc).2
  by_cases he : ∃ e ∈ c, e.s = s
  · obtain ⟨e, he, rfl⟩ := he
    rw [want_at hnd he rfl]
    have hh := (inj_of g h hc).2 e he
    unfold hasC colAt at hh
    have hv := P.hit k c x e hk ho he
    obtain ⟨hlt, hge⟩ := List.getElem?_eq_some_iff.1 hv
    unfold colAt at hlt hge
    unfold lookM placeM
    rw [hkt, hog, if_neg (by omega), if_pos (by omega)]
    dsimp only
    have e2 : (x + cs.getD e.s.toNat 0).toNat = x.toNat + (cs.getD e.s.toNat 0).toNat := by omega
    rw [e2, List.getD_eq_getElem?_getD, List.getElem?_eq_getElem hlt, hge]
    exact if_pos rfl
  · rw [want_no fun e h1 h2 => he ⟨e, h1, h2⟩]
    unfold lookM placeM
    rw [hkt, hog]
    by_cases b1 : (k : Int) < 0 ∨ (o.length : Int) ≤ k ∨ s < 0 ∨ (cs.length : Int) ≤ s ∨ cs.getD s.toNat 0 < 0
    · rw [if_pos b1]
    rw [if_neg b1]
    by_cases b2 : 0 ≤ x + cs.getD s.toNat 0 ∧ x + cs.getD s.toNat 0 < v.length ∧ x ≤ v.length
    · rw [if_pos b2]
      dsimp only
      have hlt : (x + cs.getD s.toNat 0).toNat < v.length := by omega
      rw [List.getD_eq_getElem?_getD, List.getElem?_eq_getElem hlt]
      show (if (v[(x + cs.getD s.toNat 0).toNat]).s = s then _ else _) = _
      rw [if_neg]
      intro hs
      obtain ⟨k', c', x', d1, d2, d3, d4⟩ := P.inv _ _ (List.getElem?_eq_getElem hlt) (by omega)
      unfold colAt at d4
      rw [hs] at d4
      have hx' := P.nn x' (List.mem_of_getElem? d2)
      have hxx : x' = x := by omega
      subst hxx
      have hkk : k' = k := by
        exact nd_inj P.nd d2 ho
      subst hkk
      rw [hk] at d1
      cases d1
      exact he ⟨_, d3, hs⟩
    · rw [if_neg b2]
end Go.Proofs.YtikppcfabnnhfaaDoor

/- Plain: what Grow returns. -/
namespace Go.Proofs.YtikppcfabnnhfaaDoor
open Go Go.Aw
set_option linter.unusedVariables false
structure GwInv (w : Wd) (cl : List Et) (l p0 : List Int) (p : List Et) (out chg : List Int) : Prop where
  len : out.length = p0.length
  bd : ∀ c ∈ out, -1 ≤ c ∧ c < 500
  old : ∀ i : Nat, i < out.length → hasW (graphW w) 0 i = true → 0 ≤ out.getD i 0
  un : ∀ i : Nat, i < out.length → hasW (graphW (moreW w cl)) 0 i = false → out.getD i 0 = -1
  pos : ∀ e ∈ p, 0 ≤ out.getD e.s.toNat 0
  noP : ∀ a ∈ p, ∀ b ∈ p, a.s ≠ b.s → out.getD a.s.toNat 0 ≠ out.getD b.s.toNat 0
  noW : ∀ i j : Nat, i < out.length → j < out.length → confG (graphW w) i j → 0 ≤ out.getD i 0 → out.getD i 0 ≠ out.getD j 0
  keep : ∀ i : Nat, i < out.length → (∀ e ∈ p, e.s ≠ i) → out.getD i 0 = p0.getD i 0
  chgs : ∀ c ∈ chg, (∃ e ∈ p, e.s = c) ∧ c.toNat < l.length ∧ 0 ≤ l.getD c.toNat 0 ∧ out.getD c.toNat 0 ≠ l.getD c.toNat 0
  same : ∀ s : Nat, s < l.length → 0 ≤ l.getD s 0 → (s : Int) ∉ chg → out.getD s 0 = l.getD s 0
end Go.Proofs.YtikppcfabnnhfaaDoor

/- has, within; Grow with its errors. -/
namespace Go.Proofs.YtikppcfabnnhfaaDoor
open Go Go.Aw
set_option linter.unusedSimpArgs false
set_option linter.unusedVariables false
set_option maxRecDepth 100000
set_option maxHeartbeats 40000000
theorem has_loop {l : List Int} {x : Int} (hl : l.length ≤ 1000000) : ∀ (r m : List Int), l = m ++ r →
    ∃ e : Int, E.L 33 3 [.ro 1 (l.map (AV.int .i64)), .int .i64 x, .bool false, .int .i64 m.length] [] = some ((if r.contains x then .ret else .exit 0, [.ro 1 (l.map (AV.int .i64)), .int .i64 x, .bool (r.contains x), .int .i64 e], []), True) := by
  intro r
  induction r with
  | nil =>
    intro m h
    rw [List.append_nil] at h
    subst h
    refine ⟨l.length, ?_⟩
    have q : ((l.length : Int) < l.length) = False := eq_false (by omega)
    rw [l33_3]
    simp (maxSteps := 100000000) only [ivc, anf, vlen, vbuiltin, nilR, eq_self, Nat.reduceEqDiff, Nat.reduceLT, Nat.reduceBEq, reduceCtorEq, ↓reduceIte, tyb, q, List.contains_nil]
  | cons y r ih =>
    intro m h
    have hn : m.length + (r.length + 1) = l.length := by rw [h]; simp
    have hi' : (m.length : Int) < l.length := by omega
    have hg := getD_map (f := AV.int .i64) (show l[m.length]? = some y by rw [h]; simp)
    have hw : IntKind.i64.wrap ((m.length : Int) + 1) = m.length + 1 := wrap_id (by omega) (by omega)
    have hc : (0 ≤ (m.length : Int) ∧ (m.length : Int) < l.length) = True := eq_true (by omega)
    by_cases hx : y = x
    · refine ⟨m.length, ?_⟩
      have hx' : (y == x) = true := beq_iff_eq.2 hx
      have hb : (y :: r).contains x = true := by simp [hx]
      rw [hb, l33_3]
      simp (maxSteps := 100000000) only [ivc, anf, vlen, vbuiltin, nilR, eq_self, Nat.reduceEqDiff, Nat.reduceLT, Nat.reduceBEq, reduceCtorEq, ↓reduceIte, tyb, hi', hg, hx']
      exact some_true (by omega)
    · obtain ⟨e, ih'⟩ := ih (m ++ [y]) (by simp [h])
      refine ⟨e, ?_⟩
      have hx' : (y == x) = false := beq_eq_false_iff_ne.2 hx
      have hb : (y :: r).contains x = r.contains x := by
        rw [List.contains_cons]
        have : (x == y) = false := beq_eq_false_iff_ne.2 (fun h => hx h.symm)
        rw [this]; rfl
      simp only [List.length_append, List.length_cons, List.length_nil, Nat.zero_add, Int.natCast_add, Int.cast_ofNat_Int] at ih'
      rw [hb, l33_3]
      simp (maxSteps := 100000000) only [ivc, anf, vlen, vbuiltin, nilR, eq_self, Nat.reduceEqDiff, Nat.reduceLT, Nat.reduceBEq, reduceCtorEq, ↓reduceIte, tyb, hi', hg, hw, hx', ih']
      exact some_true (by omega)
theorem has33_ev {l : List Int} {x : Int} (hl : l.length ≤ 1000000) : E.F 33 [.ro 1 (l.map (AV.int .i64)), .int .i64 x] [] = some ((.bool (l.contains x), []), True) := by
  obtain ⟨e, lp⟩ := has_loop (x := x) hl l [] rfl
  simp only [List.length_nil, Int.natCast_zero] at lp
  rw [e33]
  cases hb : l.contains x with
  | true =>
    simp only [hb, if_true] at lp
    simp (maxSteps := 100000000) only [ivc, anf, eq_self, Nat.reduceEqDiff, Nat.reduceLT, Nat.reduceLeDiff, Nat.reduceAdd, Nat.reduceBEq, reduceCtorEq, ↓reduceIte, lp]
  | false =>
    simp only [hb, Bool.false_eq_true, if_false] at lp
    simp (maxSteps := 100000000) only [ivc, anf, eq_self, Nat.reduceEqDiff, Nat.reduceLT, Nat.reduceLeDiff, Nat.reduceAdd, Nat.reduceBEq, reduceCtorEq, ↓reduceIte, lp]
end Go.Proofs.YtikppcfabnnhfaaDoor

/- list, method. -/
namespace Go.Proofs.YtikppcfabnnhfaaDoor
open Go Go.Aw
set_option linter.unusedSimpArgs false
set_option linter.unusedVariables false
set_option maxRecDepth 100000
set_option maxHeartbeats 40000000
theorem w90 {x : Et} {n : Int} (h : i64r (x.s - n)) : E.F 90 [enV x, .int .i64 n] [] = some ((.int .i64 (x.s - n), []), True) := by
  have hw : IntKind.i64.wrap (x.s - n) = x.s - n := wrap_id h.1 h.2
  rw [e90]
  simp (maxSteps := 100000000) only [ivc, anf, vop, nilR, salloc, eq_self, Nat.reduceEqDiff, Nat.reduceLT, Nat.reduceLeDiff, Nat.reduceAdd, Nat.reduceBEq, reduceCtorEq, ↓reduceIte, tyb, enV, hw]
/-- Numbers of a set, from n on. -/
def lsM : List Bool → Int → List Int
  | [], _ => []
  | b :: r, n => (if b = true then [n] else []) ++ lsM r (n + 1)
def bR (l : List Bool) : Ob := ⟨false, 1, l.map AV.bool⟩
instance rf_bool : RowF AV.bool := ⟨fun _ => rfl, fun _ => rfl⟩
theorem ls_loop {l : List Bool} (hl : l.length ≤ 1000000) : ∀ (r m : List Bool) (o : List Int), l = m ++ r → o.length ≤ m.length →
    E.L 74 4 [.sl 60000 0 o.length, .sl 100000 0 l.length, .int .i64 l.length, .int .i64 m.length] [(60000, iR o), (100000, bR l)] = some ((.exit 0, [.sl 60000 0 (o ++ lsM r m.length).length, .sl 100000 0 l.length, .int .i64 l.length, .int .i64 l.length], [(60000, iR (o ++ lsM r m.length)), (100000, bR l)]), True) := by
  intro r
  induction r with
  | nil =>
    intro m o h ho
    rw [List.append_nil] at h
    subst h
    have q : ((l.length : Int) < l.length) = False := eq_false (by omega)
    rw [l74_4]
    simp (maxSteps := 100000000) only [ivc, anf, nilR, eq_self, Nat.reduceEqDiff, Nat.reduceLT, Nat.reduceLeDiff, Nat.reduceAdd, Nat.reduceBEq, reduceCtorEq, ↓reduceIte, tyb, iR, bR, q, lsM]
  | cons b r ih =>
    intro m o h ho
    have hn : m.length + (r.length + 1) = l.length := by rw [h]; simp
    have hi' : (m.length : Int) < l.length := by omega
    have hg := getD_map (f := AV.bool) (show l[m.length]? = some b by rw [h]; simp)
    have hw : IntKind.i64.wrap ((m.length : Int) + 1) = m.length + 1 := wrap_id (by omega) (by omega)
    have hc : (0 ≤ (m.length : Int) ∧ (m.length : Int) < l.length) = True := eq_true (by omega)
    cases b with
    | true =>
      have ih' := ih (m ++ [true]) (o ++ [(m.length : Int)]) (by simp [h]) (by simp; omega)
      rw [show lsM (true :: r) (m.length : Int) = (m.length : Int) :: lsM r (m.length + 1) from rfl]
      rw [List.append_assoc] at ih'
      simp only [List.length_append, List.length_cons, List.length_nil, Nat.zero_add, Int.natCast_add, Int.cast_ofNat_Int, iR, bR, List.map_append, List.map_cons, List.map_nil, List.cons_append, List.nil_append] at ih'
      rw [l74_4]
      simp (maxSteps := 100000000) only [ivc, anf, nilR, salloc, sappend, eq_self, Nat.reduceEqDiff, Nat.reduceLT, Nat.reduceLeDiff, Nat.reduceAdd, Nat.reduceBEq, reduceCtorEq, ↓reduceIte, tyb, iR, bR, hi', hg, hw, ih']
      exact some_true (by omega)
    | false =>
      have ih' := ih (m ++ [false]) o (by simp [h]) (by simp; omega)
      rw [show lsM (false :: r) (m.length : Int) = lsM r (m.length + 1) from rfl]
      simp only [List.length_append, List.length_cons, List.length_nil, Nat.zero_add, Int.natCast_add, Int.cast_ofNat_Int, iR, bR] at ih'
      rw [l74_4]
      simp (maxSteps := 100000000) only [ivc, anf, nilR, eq_self, Nat.reduceEqDiff, Nat.reduceLT, Nat.reduceLeDiff, Nat.reduceAdd, Nat.reduceBEq, reduceCtorEq, ↓reduceIte, tyb, iR, bR, hi', hg, hw, ih']
      exact some_true (by omega)
theorem lsM_len : ∀ {l : List Bool} {n : Int}, (lsM l n).length ≤ l.length
  | [], _ => Nat.le_refl _
  | b :: r, n => by
    have := lsM_len (l := r) (n := n + 1)
    rw [lsM, List.length_append, List.length_cons]
    split <;> simp <;> omega
theorem list_ev {l : List Bool} (hl : l.length ≤ 1000000) : E.F 74 [.sl 100000 0 l.length] [(100000, bR l)] = some ((.sl 200000 0 (lsM l 0).length, [(200000, iR (lsM l 0)), (100000, bR l)]), True) := by
  have h := ls_loop hl l [] [] rfl (Nat.le_refl _)
  simp only [List.length_nil, Int.natCast_zero, List.nil_append, iR, bR, List.map_nil] at h
  rw [e74]
  simp (maxSteps := 100000000) only [ivc, anf, vlen, vbuiltin, eq_self, Nat.reduceEqDiff, Nat.reduceLT, Nat.reduceLeDiff, Nat.reduceAdd, Nat.reduceBEq, reduceCtorEq, ↓reduceIte, tyb, iR, bR, h]
end Go.Proofs.YtikppcfabnnhfaaDoor

/- BinarySearchFunc, method. -/
namespace Go.Proofs.YtikppcfabnnhfaaDoor
open Go Go.Aw
set_option linter.unusedSimpArgs false
set_option linter.unusedVariables false
set_option maxRecDepth 100000
set_option maxHeartbeats 40000000
/-- How many entries are below. -/
def lowM : List Et → Int → Nat
  | [], _ => 0
  | e :: r, n => if e.s < n then lowM r n + 1 else 0
theorem lowM_le {n : Int} : ∀ {c : List Et}, lowM c n ≤ c.length
  | [] => Nat.le_refl _
  | e :: r => by
    have := lowM_le (n := n) (c := r)
    rw [lowM, List.length_cons]
    split <;> omega
theorem lowM_iff {n : Int} : ∀ {c : List Et} {h : Nat} {e : Et}, (c.map Et.s).Pairwise (· < ·) → c[h]? = some e → (e.s < n ↔ h < lowM c n)
  | x :: r, 0, e, _, he => by
    cases he
    rw [lowM]
    split <;> omega
  | x :: r, h + 1, e, hp, he => by
    rw [List.map_cons, List.pairwise_cons] at hp
    have he' : r[h]? = some e := by simpa using he
    have ih := lowM_iff (n := n) hp.2 he'
    have hx := hp.1 e.s (List.mem_map.2 ⟨e, List.mem_of_getElem? he', rfl⟩)
    rw [lowM]
    split <;> omega
def fn90 : AV := .fn (Fn.func 90) [] []
theorem bs_loop {c : List Et} {n : Int} (hl : c.length ≤ 1000000) (hp : (c.map Et.s).Pairwise (· < ·)) (hr : ∀ e ∈ c, i64r (e.s - n)) : ∀ (k i j : Nat), j - i ≤ k → i ≤ lowM c n → lowM c n ≤ j → j ≤ c.length →
    E.L 89 4 [.ro 2 (c.map enV), .int .i64 n, fn90, .int .i64 c.length, .int .i64 i, .int .i64 j] [] = some ((.exit 0, [.ro 2 (c.map enV), .int .i64 n, fn90, .int .i64 c.length, .int .i64 (lowM c n), .int .i64 (lowM c n)], []), True) := by
  intro k
  induction k with
  | zero =>
    intro i j h1 h2 h3 h4
    have e1 : i = lowM c n := by omega
    have e2 : j = lowM c n := by omega
    subst e1
    subst e2
    generalize lowM c n = p
    have q : ((p : Int) < p) = False := eq_false (by omega)
    rw [l89_4]
    simp (maxSteps := 100000000) only [ivc, anf, nilR, eq_self, Nat.reduceEqDiff, Nat.reduceLT, Nat.reduceBEq, reduceCtorEq, ↓reduceIte, tyb, fn90, q]
  | succ k ih =>
    intro i j h1 h2 h3 h4
    by_cases hij : i = j
    · have e1 : i = lowM c n := by omega
      have e2 : j = lowM c n := by omega
      subst e1
      subst e2
      exact ih (lowM c n) (lowM c n) (by omega) (by omega) (by omega) h4
    have hh : (i + j) / 2 < c.length := by omega
    have hx := List.getElem?_eq_getElem hh
    generalize c[(i + j) / 2] = x at hx
    have hg := getD_map (f := enV) hx
    have hlt := lowM_iff (n := n) hp hx
    have q : ((i : Int) < j) = True := eq_true (by omega)
    have w1 : IntKind.i64.wrap ((i : Int) + j) = i + j := wrap_id (by omega) (by omega)
    have w2 : IntKind.u64.wrap ((i : Int) + j) = i + j := u64id (by omega) (by omega)
    have w3 : ((i : Int) + j).fdiv (2 ^ min 1 IntKind.u64.bits) = (((i + j) / 2 : Nat) : Int) := by
      rw [show min 1 IntKind.u64.bits = 1 from rfl, Int.fdiv_eq_ediv_of_nonneg _ (by decide)]
      omega
    have hb := w90 (hr x (List.mem_of_getElem? hx))
    simp only [enV] at hb
    generalize hm : (i + j) / 2 = m at hh hx hg hlt w3
    have w4 : IntKind.u64.wrap (m : Int) = m := u64id (by omega) (by omega)
    have w5 : IntKind.i64.wrap (m : Int) = m := wrap_id (by omega) (by omega)
    have w6 : IntKind.i64.wrap ((m : Int) + 1) = m + 1 := wrap_id (by omega) (by omega)
    have q1 : (0 ≤ (m : Int) ∧ (m : Int) < c.length) = True := eq_true (by omega)
    have q2 : ((m : Int)).toNat = m := by omega
    rw [l89_4]
    by_cases b : x.s - n < 0
    · have ih' := ih (m + 1) j (by omega) (by omega) h3 h4
      simp only [fn90, Int.natCast_add, Int.cast_ofNat_Int] at ih'
      simp (maxSteps := 100000000) only [ivc, anf, vop, nilR, eq_self, Nat.reduceEqDiff, Nat.reduceLT, Nat.reduceLeDiff, Nat.reduceAdd, Nat.reduceMul, Nat.reduceBEq, Int.reduceLE, Int.reduceToNat, reduceCtorEq, ↓reduceIte, tyb, fn90, enV, q, w1, w2, w3, w5, w6, q1, q2, hg, hb, b, ih']
    · have ih' := ih i m (by omega) h2 (by omega) (by omega)
      simp only [fn90] at ih'
      simp (maxSteps := 100000000) only [ivc, anf, vop, nilR, eq_self, Nat.reduceEqDiff, Nat.reduceLT, Nat.reduceLeDiff, Nat.reduceAdd, Nat.reduceMul, Nat.reduceBEq, Int.reduceLE, Int.reduceToNat, reduceCtorEq, ↓reduceIte, tyb, fn90, enV, q, w1, w2, w3, w5, q1, q2, hg, hb, b, ih']
def foundM (c : List Et) (n : Int) : Bool := match c[lowM c n]? with
  | some e => e.s == n
  | none => false
theorem bs_ev {c : List Et} {n : Int} (hl : c.length ≤ 1000000) (hp : (c.map Et.s).Pairwise (· < ·)) (hr : ∀ e ∈ c, i64r (e.s - n)) :
    E.F 89 [.ro 2 (c.map enV), .int .i64 n, fn90] [] = some ((.tup [.int .i64 (lowM c n), .bool (foundM c n)], []), True) := by
  have lp := bs_loop hl hp hr c.length 0 c.length (by omega) (by omega) lowM_le (Nat.le_refl _)
  simp only [fn90, Int.natCast_zero] at lp
  rw [e89]
  have hle := lowM_le (c := c) (n := n)
  by_cases hlt : lowM c n < c.length
  · have hx := List.getElem?_eq_getElem hlt
    have hf : foundM c n = (c[lowM c n].s == n) := by unfold foundM; rw [hx]
    rw [hf]
    generalize c[lowM c n] = x at hx ⊢
    have hg := getD_map (f := enV) hx
    have hb := w90 (hr x (List.mem_of_getElem? hx))
    simp only [enV] at hb
    generalize lowM c n = p at *
    have q : ((p : Int) < c.length) = True := eq_true (by omega)
    have q1 : (0 ≤ (p : Int) ∧ (p : Int) < c.length) = True := eq_true (by omega)
    have q2 : ((p : Int)).toNat = p := by omega
    have q3 : (x.s - n == 0) = (x.s == n) := by
      rw [Bool.eq_iff_iff, beq_iff_eq, beq_iff_eq]; omega
    simp (maxSteps := 100000000) only [ivc, anf, vlen, vbuiltin, nilR, eq_self, Nat.reduceEqDiff, Nat.reduceLT, Nat.reduceLeDiff, Nat.reduceAdd, Nat.reduceMul, Nat.reduceBEq, reduceCtorEq, ↓reduceIte, tyb, fn90, enV, lp, q, q2, hg, hb, q3]
    exact some_true (by omega)
  · have hf : foundM c n = false := by unfold foundM; rw [List.getElem?_eq_none (by omega)]
    rw [hf]
    generalize lowM c n = p at *
    have q : ((p : Int) < c.length) = False := eq_false (by omega)
    simp (maxSteps := 100000000) only [ivc, anf, vlen, vbuiltin, nilR, eq_self, Nat.reduceEqDiff, Nat.reduceLT, Nat.reduceLeDiff, Nat.reduceAdd, Nat.reduceBEq, reduceCtorEq, ↓reduceIte, tyb, fn90, lp, q]
/-- The method of a class for a selector, -1 without one. -/
def methM (c : List Et) (n : Int) : Int := match c.find? (·.s == n) with
  | some e => e.m
  | none => -1
theorem find_low {n : Int} : ∀ {c : List Et}, (c.map Et.s).Pairwise (· < ·) → (foundM c n = true → ∃ e, c[lowM c n]? = some e ∧ e.s = n ∧ methM c n = e.m) ∧ (foundM c n = false → methM c n = -1)
  | [], _ => ⟨fun h => (by cases h), fun _ => rfl⟩
  | x :: r, hp => by
    rw [List.map_cons, List.pairwise_cons] at hp
    have ih := find_low (n := n) hp.2
    by_cases hx : x.s < n
    · have e1 : lowM (x :: r) n = lowM r n + 1 := by rw [lowM, if_pos hx]
      have e2 : foundM (x :: r) n = foundM r n := by unfold foundM; rw [e1]; rfl
      have e3 : methM (x :: r) n = methM r n := by
        unfold methM
        rw [List.find?_cons_of_neg (by simp; omega)]
      rw [e1, e2, e3]
      exact ih
    · have e1 : lowM (x :: r) n = 0 := by rw [lowM, if_neg hx]
      have e2 : foundM (x :: r) n = (x.s == n) := by unfold foundM; rw [e1]; rfl
      rw [e1, e2]
      refine ⟨fun h => ⟨x, rfl, beq_iff_eq.1 h, ?_⟩, fun h => ?_⟩
      · unfold methM
        rw [List.find?_cons_of_pos (by simpa using h)]
      · unfold methM
        have hn : (x :: r).find? (·.s == n) = none := by
          rw [List.find?_eq_none]
          intro y hy hys
          rcases List.mem_cons.1 hy with rfl | hy
          · rw [h] at hys; cases hys
          · have := hp.1 y.s (List.mem_map.2 ⟨y, hy, rfl⟩)
            have := beq_iff_eq.1 hys
            omega
        rw [hn]
theorem method_ev {w : Wd} {k : Nat} {c : List Et} {n : Int} (hk : w.classes[k]? = some c) (hl : c.length ≤ 1000000) (hp : (c.map Et.s).Pairwise (· < ·)) (hr : ∀ e ∈ c, i64r (e.s - n)) :
    E.F 75 [wdV w, .int .i64 k, .int .i64 n] [] = some ((.int .i64 (methM c n), []), True) := by
  have hkl := (List.getElem?_eq_some_iff.1 hk).1
  have hgk := getD_map (f := clV) hk
  have hck : (0 ≤ (k : Int) ∧ (k : Int) < w.classes.length) = True := eq_true (by omega)
  have hkn : ((k : Int)).toNat = k := by omega
  have b := bs_ev hl hp hr
  obtain ⟨f1, f2⟩ := find_low (n := n) hp
  rw [e75]
  cases hf : foundM c n with
  | true =>
    rw [hf] at b
    obtain ⟨e, h1, h2, h3⟩ := f1 hf
    rw [h3]
    have hg := getD_map (f := enV) h1
    have hlt := (List.getElem?_eq_some_iff.1 h1).1
    generalize lowM c n = p at *
    have q1 : (0 ≤ (p : Int) ∧ (p : Int) < c.length) = True := eq_true (by omega)
    have q2 : ((p : Int)).toNat = p := by omega
    simp only [fn90] at b
    simp (maxSteps := 100000000) only [ivc, anf, vop, salloc, eq_self, Nat.reduceEqDiff, Nat.reduceLT, Nat.reduceLeDiff, Nat.reduceAdd, Nat.reduceMul, Nat.reduceBEq, Int.reduceNeg, reduceCtorEq, ↓reduceIte, tyb, wdV, clV, enV, hgk, hck, hkn, b, hg, q1, q2]
  | false =>
    rw [hf] at b
    rw [f2 hf]
    simp only [fn90] at b
    simp (maxSteps := 100000000) only [ivc, anf, vop, salloc, eq_self, Nat.reduceEqDiff, Nat.reduceLT, Nat.reduceLeDiff, Nat.reduceAdd, Nat.reduceMul, Nat.reduceBEq, Int.reduceNeg, reduceCtorEq, ↓reduceIte, tyb, wdV, clV, hgk, hck, hkn, b]
end Go.Proofs.YtikppcfabnnhfaaDoor

/- Reach: its closure. -/
namespace Go.Proofs.YtikppcfabnnhfaaDoor
open Go Go.Aw
set_option linter.unusedSimpArgs false
set_option linter.unusedVariables false
set_option maxRecDepth 100000
set_option maxHeartbeats 40000000
def getB (M : List Bool) (n : Nat) : Bool := M.getD n false
theorem getBo {l : List Bool} {i : Nat} (h : i < l.length) : (l.map AV.bool).getD i .junk = .bool (getB l i) := by
  simp [getB, List.getD_eq_getElem?_getD, List.getElem?_eq_getElem h]
def bxH (M : List Bool) (lo : Nat) (R Q : List Int) : HL := [(100000, ⟨true, 1, [.sl 100002 0 M.length]⟩), (100001, ⟨true, 1, [.sl 100003 lo Q.length]⟩), (100002, bR M), (100003, iR R)]
def bxO (M : List Bool) (lo : Nat) (R Q : List Int) : HL := [(100000, ⟨true, 1, [.sl 200000 0 M.length]⟩), (100001, ⟨true, 1, [.sl 200001 lo Q.length]⟩), (200000, bR M), (200001, iR R)]
theorem rc73_no {n : Int} {M : List Bool} {lo : Nat} {R Q : List Int} (hn : n < M.length) (h : n < 0 ∨ getB M n.toNat = true) :
    E.F 73 [.int .i64 n, .ptr 100000 0 0, .ptr 100001 0 0] (bxH M lo R Q) = some ((.tup [], bxO M lo R Q), True) := by
  rw [e73]
  by_cases h0 : 0 ≤ n
  · have hb : getB M n.toNat = true := h.resolve_left (by omega)
    have k1 := getBo (l := M) (i := n.toNat) (by omega)
    rw [hb] at k1
    have q : (0 ≤ n ∧ n < M.length) = True := eq_true ⟨h0, hn⟩
    simp (maxSteps := 100000000) only [ivc, anf, vop, nilR, eq_self, Nat.reduceEqDiff, Nat.reduceLT, Nat.reduceLeDiff, Nat.reduceAdd, Nat.reduceBEq, reduceCtorEq, ↓reduceIte, tyb, bxH, bxO, bR, iR, h0, k1]
    exact some_true (by omega)
  · simp (maxSteps := 100000000) only [ivc, anf, vop, nilR, eq_self, Nat.reduceEqDiff, Nat.reduceLT, Nat.reduceLeDiff, Nat.reduceAdd, Nat.reduceBEq, Int.reduceNeg, reduceCtorEq, ↓reduceIte, tyb, bxH, bxO, bR, iR, h0]
theorem rc73_go {n : Int} {M : List Bool} {lo : Nat} {R Q : List Int} (hR : R.drop lo = Q) (hQ : R.length ≤ 1000000) (h0 : 0 ≤ n) (hn : n < M.length) (h : getB M n.toNat = false) :
    E.F 73 [.int .i64 n, .ptr 100000 0 0, .ptr 100001 0 0] (bxH M lo R Q) = some ((.tup [], bxO (M.set n.toNat true) 0 (Q ++ [n]) (Q ++ [n])), True) := by
  rw [e73]
  have k1 := getBo (l := M) (i := n.toNat) (by omega)
  rw [h] at k1
  have q : (0 ≤ n ∧ n < M.length) = True := eq_true ⟨h0, hn⟩
  have tk : List.take Q.length (List.drop lo (R.map (AV.int .i64))) = Q.map (AV.int .i64) := by
    rw [← List.map_drop, hR]; exact List.take_of_length_le (by simp)
  have hql : Q.length ≤ 1000000 := by rw [← hR, List.length_drop]; omega
  simp (maxSteps := 100000000) only [ivc, anf, vop, nilR, salloc, sappend, eq_self, Nat.reduceEqDiff, Nat.reduceLT, Nat.reduceLeDiff, Nat.reduceAdd, Nat.reduceBEq, reduceCtorEq, ↓reduceIte, tyb, bxH, bxO, bR, iR, h0, k1, tk, set_map, List.length_set]
  exact some_true (by omega)
end Go.Proofs.YtikppcfabnnhfaaDoor

/- Reach: what a number does; roots, methods. -/
namespace Go.Proofs.YtikppcfabnnhfaaDoor
open Go Go.Aw
set_option linter.unusedSimpArgs false
set_option linter.unusedVariables false
set_option maxRecDepth 100000
set_option maxHeartbeats 40000000
structure Rs where
  M : List Bool
  Q : List Int
def rch (z : Rs) (n : Int) : Rs := if 0 ≤ n ∧ getB z.M n.toNat = false then ⟨z.M.set n.toNat true, z.Q ++ [n]⟩ else z
def rin (z : Rs) (lo : Nat) (R : List Int) : Prop := R.drop lo = z.Q ∧ R.length ≤ 1000 ∧ z.Q.length ≤ z.M.count true ∧ z.M.length ≤ 500 ∧ ∀ q ∈ z.Q, 0 ≤ q ∧ q < z.M.length
theorem cnt_true : ∀ {M : List Bool} {n : Nat}, n < M.length → getB M n = false → (M.set n true).count true = M.count true + 1
  | b :: M, 0, _, h => by
    have hb : b = false := by simpa [getB] using h
    subst hb
    simp
  | b :: M, n + 1, hn, h => by
    have ih := cnt_true (M := M) (n := n) (by simpa using hn) (by simpa [getB] using h)
    rw [List.set_cons_succ, List.count_cons, List.count_cons, ih]
    omega
theorem rch_len {z : Rs} {n : Int} : (rch z n).M.length = z.M.length := by
  unfold rch
  split <;> simp
theorem fold_len : ∀ {l : List Int} {z : Rs}, (l.foldl rch z).M.length = z.M.length
  | [], _ => rfl
  | x :: l, z => by rw [List.foldl_cons, fold_len, rch_len]
theorem rc73 {n : Int} {z : Rs} {lo : Nat} {R : List Int} (hi : rin z lo R) (hn : n < z.M.length) :
    ∃ lo' R', rin (rch z n) lo' R' ∧ E.F 73 [.int .i64 n, .ptr 100000 0 0, .ptr 100001 0 0] (bxH z.M lo R z.Q) = some ((.tup [], bxO (rch z n).M lo' R' (rch z n).Q), True) := by
  obtain ⟨h1, h2, h3, h4, h5⟩ := hi
  by_cases h : 0 ≤ n ∧ getB z.M n.toNat = false
  · have e : rch z n = ⟨z.M.set n.toNat true, z.Q ++ [n]⟩ := if_pos h
    rw [e]
    have hc := cnt_true (M := z.M) (n := n.toNat) (by omega) h.2
    have hle := List.count_le_length (a := true) (l := z.M)
    exact ⟨0, z.Q ++ [n], ⟨rfl, by simp; omega, by simp [hc]; omega, by simpa using h4, fun q hq => by
      rw [List.length_set]
      rcases List.mem_append.1 hq with hq | hq
      · exact h5 q hq
      · rw [List.mem_singleton.1 hq]; exact ⟨h.1, hn⟩⟩, rc73_go h1 (by omega) h.1 hn h.2⟩
  · have e : rch z n = z := if_neg h
    rw [e]
    refine ⟨lo, R, ⟨h1, h2, h3, h4, h5⟩, rc73_no hn ?_⟩
    cases hb : getB z.M n.toNat with
    | true => exact .inr rfl
    | false => exact .inl (by
        rcases Int.lt_or_le n 0 with h6 | h6
        · exact h6
        · exact absurd ⟨h6, hb⟩ h)
def f73V : AV := .fn (Fn.func 73) [] [.ptr 60001 0 0, .ptr 60004 0 0]
def rcV (C S : List Bool) : List AV := [.ptr 60000 0 0, .ptr 60001 0 0, .sl 60002 0 C.length, .sl 60003 0 S.length, .ptr 60004 0 0, f73V]
def rcH (w : Wd) (z : Rs) (C S : List Bool) (lo : Nat) (R : List Int) : HL := [(60000, ⟨true, 3, [wdV w]⟩), (60001, ⟨true, 1, [.sl 60005 0 z.M.length]⟩), (60002, bR C), (60003, bR S), (60004, ⟨true, 1, [.sl 60006 lo z.Q.length]⟩), (60005, bR z.M), (60006, iR R)]
theorem rc9_loop {w : Wd} {C S : List Bool} {l : List Int} (hl : l.length ≤ 1000000) : ∀ (r m : List Int) (z : Rs) (lo : Nat) (R : List Int), l = m ++ r → rin z lo R → (∀ x ∈ r, x < z.M.length) →
    ∃ lo' R', rin (r.foldl rch z) lo' R' ∧ E.L 34 9 (rcV C S ++ [.ro 1 (l.map (AV.int .i64)), .int .i64 l.length, .int .i64 m.length]) (rcH w z C S lo R) = some ((.exit 0, rcV C S ++ [.ro 1 (l.map (AV.int .i64)), .int .i64 l.length, .int .i64 l.length], rcH w (r.foldl rch z) C S lo' R'), True) := by
  intro r
  induction r with
  | nil =>
    intro m z lo R h hi _
    rw [List.append_nil] at h
    subst h
    refine ⟨lo, R, hi, ?_⟩
    have q : ((l.length : Int) < l.length) = False := eq_false (by omega)
    rw [l34_9]
    simp (maxSteps := 100000000) only [ivc, anf, nilR, eq_self, Nat.reduceEqDiff, Nat.reduceLT, Nat.reduceLeDiff, Nat.reduceAdd, Nat.reduceBEq, reduceCtorEq, ↓reduceIte, tyb, rcV, f73V, rcH, bR, iR, wdV, q, List.foldl_nil]
  | cons x r ih =>
    intro m z lo R h hi hx
    have hn : m.length + (r.length + 1) = l.length := by rw [h]; simp
    have hi' : (m.length : Int) < l.length := by omega
    have hg := getD_map (f := AV.int .i64) (show l[m.length]? = some x by rw [h]; simp)
    have hw : IntKind.i64.wrap ((m.length : Int) + 1) = m.length + 1 := wrap_id (by omega) (by omega)
    have hc : (0 ≤ (m.length : Int) ∧ (m.length : Int) < l.length) = True := eq_true (by omega)
    obtain ⟨lo1, R1, hi1, c⟩ := rc73 hi (hx x (by simp))
    have hM : (rch z x).M.length = z.M.length := rch_len
    obtain ⟨lo2, R2, hi2, ih'⟩ := ih (m ++ [x]) (rch z x) lo1 R1 (by simp [h]) hi1 (fun y hy => by rw [hM]; exact hx y (by simp [hy]))
    rw [List.foldl_cons]
    refine ⟨lo2, R2, hi2, ?_⟩
    generalize rch z x = z1 at *
    generalize r.foldl rch z1 = z2 at *
    simp only [List.length_append, List.length_cons, List.length_nil, Nat.zero_add, Int.natCast_add, Int.cast_ofNat_Int, rcV, f73V, rcH, bR, iR, wdV, bxH, bxO, List.cons_append, List.nil_append] at ih' c
    rw [l34_9]
    simp (maxSteps := 100000000) only [ivc, anf, nilR, eq_self, Nat.reduceEqDiff, Nat.reduceLT, Nat.reduceLeDiff, Nat.reduceAdd, Nat.reduceMul, Nat.reduceBEq, reduceCtorEq, ↓reduceIte, tyb, rcV, f73V, rcH, bR, iR, wdV, hi', hg, hw, c, ih']
    exact some_true (by omega)
end Go.Proofs.YtikppcfabnnhfaaDoor

/- Reach: what a body calls and makes. -/
namespace Go.Proofs.YtikppcfabnnhfaaDoor
open Go Go.Aw
set_option linter.unusedSimpArgs false
set_option linter.unusedVariables false
set_option maxRecDepth 100000
set_option maxHeartbeats 40000000
def rdH (w : Wd) (b : Bd) (z : Rs) (C S : List Bool) (lo : Nat) (R : List Int) : HL := [(60000, ⟨true, 3, [wdV w]⟩), (60001, ⟨true, 1, [.sl 60006 0 z.M.length]⟩), (60002, bR C), (60003, bR S), (60004, ⟨true, 1, [.sl 60007 lo z.Q.length]⟩), (60005, ⟨true, 3, [bdV b]⟩), (60006, bR z.M), (60007, iR R)]
theorem rc17_loop {w : Wd} {b : Bd} {C S : List Bool} {l : List Int} (hl : l.length ≤ 1000000) : ∀ (r m : List Int) (z : Rs) (lo : Nat) (R : List Int), l = m ++ r → rin z lo R → (∀ x ∈ r, x < z.M.length) →
    ∃ lo' R', rin (r.foldl rch z) lo' R' ∧ E.L 34 17 (rcV C S ++ [.ptr 60005 0 0, .ro 1 (l.map (AV.int .i64)), .int .i64 l.length, .int .i64 m.length]) (rdH w b z C S lo R) = some ((.exit 4, rcV C S ++ [.ptr 60005 0 0, .ro 1 (l.map (AV.int .i64)), .int .i64 l.length, .int .i64 l.length], rdH w b (r.foldl rch z) C S lo' R'), True) := by
  intro r
  induction r with
  | nil =>
    intro m z lo R h hi _
    rw [List.append_nil] at h
    subst h
    refine ⟨lo, R, hi, ?_⟩
    have q : ((l.length : Int) < l.length) = False := eq_false (by omega)
    rw [l34_17]
    simp (maxSteps := 100000000) only [ivc, anf, nilR, eq_self, Nat.reduceEqDiff, Nat.reduceLT, Nat.reduceLeDiff, Nat.reduceAdd, Nat.reduceBEq, reduceCtorEq, ↓reduceIte, tyb, rcV, f73V, rdH, bR, iR, wdV, bdV, q, List.foldl_nil]
  | cons x r ih =>
    intro m z lo R h hi hx
    have hn : m.length + (r.length + 1) = l.length := by rw [h]; simp
    have hi' : (m.length : Int) < l.length := by omega
    have hg := getD_map (f := AV.int .i64) (show l[m.length]? = some x by rw [h]; simp)
    have hw : IntKind.i64.wrap ((m.length : Int) + 1) = m.length + 1 := wrap_id (by omega) (by omega)
    have hc : (0 ≤ (m.length : Int) ∧ (m.length : Int) < l.length) = True := eq_true (by omega)
    obtain ⟨lo1, R1, hi1, c⟩ := rc73 hi (hx x (by simp))
    have hM : (rch z x).M.length = z.M.length := rch_len
    obtain ⟨lo2, R2, hi2, ih'⟩ := ih (m ++ [x]) (rch z x) lo1 R1 (by simp [h]) hi1 (fun y hy => by rw [hM]; exact hx y (by simp [hy]))
    rw [List.foldl_cons]
    refine ⟨lo2, R2, hi2, ?_⟩
    generalize rch z x = z1 at *
    generalize r.foldl rch z1 = z2 at *
    simp only [List.length_append, List.length_cons, List.length_nil, Nat.zero_add, Int.natCast_add, Int.cast_ofNat_Int, rcV, f73V, rdH, bR, iR, wdV, bdV, bxH, bxO, List.cons_append, List.nil_append] at ih' c
    rw [l34_17]
    simp (maxSteps := 100000000) only [ivc, anf, nilR, eq_self, Nat.reduceEqDiff, Nat.reduceLT, Nat.reduceLeDiff, Nat.reduceAdd, Nat.reduceMul, Nat.reduceBEq, reduceCtorEq, ↓reduceIte, tyb, rcV, f73V, rdH, bR, iR, wdV, bdV, hi', hg, hw, c, ih']
    exact some_true (by omega)
def reH (w : Wd) (b : Bd) (z : Rs) (C S : List Bool) (ls : List Int) (lo : Nat) (R : List Int) : HL := [(60000, ⟨true, 3, [wdV w]⟩), (60001, ⟨true, 1, [.sl 60007 0 z.M.length]⟩), (60002, bR C), (60003, bR S), (60004, ⟨true, 1, [.sl 60008 lo z.Q.length]⟩), (60005, ⟨true, 3, [bdV b]⟩), (60006, iR ls), (60007, bR z.M), (60008, iR R)]
theorem meth_lt {w : Wd} (g : Good w) {c : List Et} (hc : c ∈ w.classes) {n : Int} : methM c n < w.bodies.length := by
  unfold methM
  split
  · rename_i e he
    have := (g.ent c hc e (List.mem_of_find?_eq_some he)).2
    omega
  · omega
theorem rc27_loop {w : Wd} {b : Bd} {C S : List Bool} {ls bc : List Int} {k : Nat} {i : Int} {c : List Et} (g : Good w) (hk : w.classes[k]? = some c) (hl : ls.length ≤ 500) (hls : ∀ x ∈ ls, selN x) : ∀ (r m : List Int) (z : Rs) (lo : Nat) (R : List Int), ls = m ++ r → rin z lo R → z.M.length = w.bodies.length →
    ∃ lo' R', rin ((r.map (methM c)).foldl rch z) lo' R' ∧ E.L 34 27 (rcV C S ++ [.ptr 60005 0 0, .int .i64 k, .ro 1 (bc.map (AV.int .i64)), .int .i64 bc.length, .int .i64 i, .sl 60006 0 ls.length, .int .i64 ls.length, .int .i64 m.length]) (reH w b z C S ls lo R) = some ((.exit 8, rcV C S ++ [.ptr 60005 0 0, .int .i64 k, .ro 1 (bc.map (AV.int .i64)), .int .i64 bc.length, .int .i64 i, .sl 60006 0 ls.length, .int .i64 ls.length, .int .i64 ls.length], reH w b ((r.map (methM c)).foldl rch z) C S ls lo' R'), True) := by
  have hc0 := List.mem_of_getElem? hk
  intro r
  induction r with
  | nil =>
    intro m z lo R h hi _
    rw [List.append_nil] at h
    subst h
    refine ⟨lo, R, hi, ?_⟩
    have q : ((ls.length : Int) < ls.length) = False := eq_false (by omega)
    rw [l34_27]
    simp (maxSteps := 100000000) only [ivc, anf, nilR, eq_self, Nat.reduceEqDiff, Nat.reduceLT, Nat.reduceLeDiff, Nat.reduceAdd, Nat.reduceBEq, reduceCtorEq, ↓reduceIte, tyb, rcV, f73V, reH, bR, iR, wdV, bdV, q, List.foldl_nil]
  | cons x r ih =>
    intro m z lo R h hi hx
    have hn : m.length + (r.length + 1) = ls.length := by rw [h]; simp
    have hi' : (m.length : Int) < ls.length := by omega
    have hg := getD_map (f := AV.int .i64) (show ls[m.length]? = some x by rw [h]; simp)
    have hw : IntKind.i64.wrap ((m.length : Int) + 1) = m.length + 1 := wrap_id (by omega) (by omega)
    have hc : (0 ≤ (m.length : Int) ∧ (m.length : Int) < ls.length) = True := eq_true (by omega)
    have hxs := hls x (by rw [h]; simp)
    have me := method_ev (w := w) (n := x) hk (by have := g.len c hc0; omega) (g.asc c hc0) (fun e he => by
      have := (g.ent c hc0 e he).1
      have h1 := hxs.1
      have h2 := hxs.2
      unfold i64r; omega)
    have hlt := meth_lt g hc0 (n := x)
    obtain ⟨lo1, R1, hi1, cc⟩ := rc73 (n := methM c x) hi (by rw [hx]; exact hlt)
    have hM : (rch z (methM c x)).M.length = z.M.length := rch_len
    obtain ⟨lo2, R2, hi2, ih'⟩ := ih (m ++ [x]) (rch z (methM c x)) lo1 R1 (by simp [h]) hi1 (hM.trans hx)
    rw [List.map_cons, List.foldl_cons]
    refine ⟨lo2, R2, hi2, ?_⟩
    generalize methM c x = y at *
    generalize rch z y = z1 at *
    generalize (r.map (methM c)).foldl rch z1 = z2 at *
    simp only [List.length_append, List.length_cons, List.length_nil, Nat.zero_add, Int.natCast_add, Int.cast_ofNat_Int, rcV, f73V, reH, bR, iR, wdV, bdV, bxH, bxO, List.cons_append, List.nil_append] at ih' cc me
    rw [l34_27]
    simp (maxSteps := 100000000) only [ivc, anf, nilR, eq_self, Nat.reduceEqDiff, Nat.reduceLT, Nat.reduceLeDiff, Nat.reduceAdd, Nat.reduceMul, Nat.reduceBEq, reduceCtorEq, ↓reduceIte, tyb, rcV, f73V, reH, bR, iR, wdV, bdV, hi', hg, hw, me, cc, ih']
    exact some_true (by omega)
end Go.Proofs.YtikppcfabnnhfaaDoor

/- Reach: classes, selectors. -/
namespace Go.Proofs.YtikppcfabnnhfaaDoor
open Go Go.Aw
set_option linter.unusedSimpArgs false
set_option linter.unusedVariables false
set_option maxRecDepth 100000
set_option maxHeartbeats 40000000
theorem lsM_mem : ∀ {l : List Bool} {n x : Int}, x ∈ lsM l n ↔ n ≤ x ∧ x < n + l.length ∧ getB l (x - n).toNat = true
  | [], n, x => by
    simp only [lsM, List.not_mem_nil, List.length_nil, false_iff]
    omega
  | b :: r, n, x => by
    rw [lsM, List.mem_append, lsM_mem, List.length_cons]
    have hs : n + 1 ≤ x → getB (b :: r) (x - n).toNat = getB r (x - (n + 1)).toNat := fun h => by
      have : (x - n).toNat = (x - (n + 1)).toNat + 1 := by omega
      rw [this]
      rfl
    constructor
    · rintro (h | ⟨h1, h2, h3⟩)
      · split at h
        · rename_i hb
          rw [List.mem_singleton.1 h]
          refine ⟨Int.le_refl _, by omega, ?_⟩
          rw [show (n - n).toNat = 0 by omega]
          exact hb
        · cases h
      · exact ⟨by omega, by omega, by rw [hs h1]; exact h3⟩
    · rintro ⟨h1, h2, h3⟩
      by_cases hx : x = n
      · subst hx
        rw [show (x - x).toNat = 0 by omega] at h3
        have hb : b = true := h3
        exact .inl (by rw [if_pos hb]; simp)
      · exact .inr ⟨by omega, by omega, by rw [← hs (by omega)]; exact h3⟩
theorem ls_mem {l : List Bool} {x : Int} : x ∈ lsM l 0 ↔ 0 ≤ x ∧ x < l.length ∧ getB l x.toNat = true := by
  rw [lsM_mem, Int.zero_add, Int.sub_zero]
def clAt (w : Wd) (n : Int) : List Et := w.classes.getD n.toNat []
def stC (w : Wd) (S : List Bool) (y : Rs × List Bool) (n : Int) : Rs × List Bool :=
  if getB y.2 n.toNat = false then (((lsM S 0).map (methM (clAt w n))).foldl rch y.1, y.2.set n.toNat true) else y
theorem stC_len {w : Wd} {S : List Bool} {y : Rs × List Bool} {n : Int} : (stC w S y n).1.M.length = y.1.M.length ∧ (stC w S y n).2.length = y.2.length := by
  unfold stC
  split
  · exact ⟨fold_len, by simp⟩
  · exact ⟨rfl, rfl⟩
theorem rc22_loop {w : Wd} {b : Bd} {S : List Bool} {l : List Int} (g : Good w) (hl : l.length ≤ 1000000) (hS : S.length = 500) : ∀ (r m : List Int) (z : Rs) (C : List Bool) (lo : Nat) (R : List Int), l = m ++ r → rin z lo R → z.M.length = w.bodies.length → C.length = w.classes.length → (∀ x ∈ r, 0 ≤ x ∧ x < w.classes.length) →
    ∃ lo' R', rin (r.foldl (stC w S) (z, C)).1 lo' R' ∧ E.L 34 22 (rcV C S ++ [.ptr 60005 0 0, .ro 1 (l.map (AV.int .i64)), .int .i64 l.length, .int .i64 m.length]) (rdH w b z C S lo R) = some ((.exit 6, rcV (r.foldl (stC w S) (z, C)).2 S ++ [.ptr 60005 0 0, .ro 1 (l.map (AV.int .i64)), .int .i64 l.length, .int .i64 l.length], rdH w b (r.foldl (stC w S) (z, C)).1 (r.foldl (stC w S) (z, C)).2 S lo' R'), True) := by
  intro r
  induction r with
  | nil =>
    intro m z C lo R h hi _ _ _
    rw [List.append_nil] at h
    subst h
    refine ⟨lo, R, hi, ?_⟩
    have q : ((l.length : Int) < l.length) = False := eq_false (by omega)
    rw [l34_22]
    simp (maxSteps := 100000000) only [ivc, anf, nilR, eq_self, Nat.reduceEqDiff, Nat.reduceLT, Nat.reduceLeDiff, Nat.reduceAdd, Nat.reduceBEq, reduceCtorEq, ↓reduceIte, tyb, rcV, f73V, rdH, bR, iR, wdV, bdV, q, List.foldl_nil]
  | cons x r ih =>
    intro m z C lo R h hi hM hC hx
    have hn : m.length + (r.length + 1) = l.length := by rw [h]; simp
    have hi' : (m.length : Int) < l.length := by omega
    have hg := getD_map (f := AV.int .i64) (show l[m.length]? = some x by rw [h]; simp)
    have hw : IntKind.i64.wrap ((m.length : Int) + 1) = m.length + 1 := wrap_id (by omega) (by omega)
    have hc : (0 ≤ (m.length : Int) ∧ (m.length : Int) < l.length) = True := eq_true (by omega)
    obtain ⟨hx0, hx1⟩ := hx x (by simp)
    have q : (0 ≤ x ∧ x < C.length) = True := eq_true ⟨hx0, by omega⟩
    have k1 := getBo (l := C) (i := x.toNat) (by omega)
    have gc := g.nc
    cases hb : getB C x.toNat with
    | true =>
      have e : stC w S (z, C) x = (z, C) := if_neg (by rw [hb]; simp)
      obtain ⟨lo2, R2, hi2, ih'⟩ := ih (m ++ [x]) z C lo R (by simp [h]) hi hM hC (fun y hy => hx y (by simp [hy]))
      rw [List.foldl_cons, e]
      refine ⟨lo2, R2, hi2, ?_⟩
      rw [hb] at k1
      generalize r.foldl (stC w S) (z, C) = z2 at *
      simp only [List.length_append, List.length_cons, List.length_nil, Nat.zero_add, Int.natCast_add, Int.cast_ofNat_Int, rcV, f73V, rdH, bR, iR, wdV, bdV, List.cons_append, List.nil_append] at ih'
      rw [l34_22]
      simp (maxSteps := 100000000) only [ivc, anf, vop, nilR, eq_self, Nat.reduceEqDiff, Nat.reduceLT, Nat.reduceLeDiff, Nat.reduceAdd, Nat.reduceBEq, reduceCtorEq, ↓reduceIte, tyb, rcV, f73V, rdH, bR, iR, wdV, bdV, hi', hg, hw, q, k1, ih']
      exact some_true (by omega)
    | false =>
      have hk : w.classes[x.toNat]? = some (clAt w x) := by
        unfold clAt
        rw [List.getD_eq_getElem?_getD, List.getElem?_eq_getElem (by omega)]; rfl
      have e : stC w S (z, C) x = (((lsM S 0).map (methM (clAt w x))).foldl rch z, C.set x.toNat true) := if_pos hb
      have ls := list_ev (l := S) (by omega)
      have hls : ∀ y ∈ lsM S 0, selN y := fun y hy => by
        obtain ⟨a, b, _⟩ := ls_mem.1 hy
        exact ⟨a, by omega⟩
      have hll := lsM_len (l := S) (n := 0)
      obtain ⟨lo1, R1, hi1, lp⟩ := rc27_loop (b := b) (C := C.set x.toNat true) (S := S) (bc := l) (i := m.length) g hk (by omega) hls (lsM S 0) [] z lo R rfl hi hM
      have hM1 : (((lsM S 0).map (methM (clAt w x))).foldl rch z).M.length = z.M.length := fold_len
      obtain ⟨lo2, R2, hi2, ih'⟩ := ih (m ++ [x]) (((lsM S 0).map (methM (clAt w x))).foldl rch z) (C.set x.toNat true) lo1 R1 (by simp [h]) hi1 (hM1.trans hM) (by rw [List.length_set]; exact hC) (fun y hy => hx y (by simp [hy]))
      rw [List.foldl_cons, e]
      refine ⟨lo2, R2, hi2, ?_⟩
      rw [hb] at k1
      generalize lsM S 0 = L at *
      generalize (L.map (methM (clAt w x))).foldl rch z = z1 at *
      generalize r.foldl (stC w S) (z1, C.set x.toNat true) = z2 at *
      rw [show ((x.toNat : Nat) : Int) = x by omega] at lp
      simp only [List.length_append, List.length_cons, List.length_nil, Nat.zero_add, Int.natCast_add, Int.cast_ofNat_Int, rcV, f73V, rdH, reH, bR, iR, wdV, bdV, List.cons_append, List.nil_append, List.length_set] at ih' ls lp
      rw [l34_22]
      simp (maxSteps := 100000000) only [ivc, anf, vop, vlen, vbuiltin, nilR, eq_self, Nat.reduceEqDiff, Nat.reduceLT, Nat.reduceLeDiff, Nat.reduceAdd, Nat.reduceMul, Nat.reduceBEq, reduceCtorEq, ↓reduceIte, tyb, rcV, f73V, rdH, bR, iR, wdV, bdV, hi', hg, hw, q, k1, set_map, ls, lp, ih']
      exact some_true (by omega)
end Go.Proofs.YtikppcfabnnhfaaDoor

/- Reach: selectors. -/
namespace Go.Proofs.YtikppcfabnnhfaaDoor
open Go Go.Aw
set_option linter.unusedSimpArgs false
set_option linter.unusedVariables false
set_option maxRecDepth 100000
set_option maxHeartbeats 40000000
def rfH (w : Wd) (z : Rs) (C S : List Bool) (ls : List Int) (lo : Nat) (R : List Int) : HL := [(60000, ⟨true, 3, [wdV w]⟩), (60001, ⟨true, 1, [.sl 60006 0 z.M.length]⟩), (60002, bR C), (60003, bR S), (60004, ⟨true, 1, [.sl 60007 lo z.Q.length]⟩), (60005, iR ls), (60006, bR z.M), (60007, iR R)]
theorem clAt_some {w : Wd} {n : Int} (h0 : 0 ≤ n) (h1 : n < w.classes.length) : w.classes[n.toNat]? = some (clAt w n) := by
  unfold clAt
  rw [List.getD_eq_getElem?_getD, List.getElem?_eq_getElem (by omega)]; rfl
theorem rc38_loop {w : Wd} {C S : List Bool} {ls bc : List Int} {n i : Int} (g : Good w) (hn5 : selN n) (hl : ls.length ≤ 500) (hls : ∀ x ∈ ls, 0 ≤ x ∧ x < w.classes.length) : ∀ (r m : List Int) (z : Rs) (lo : Nat) (R : List Int), ls = m ++ r → rin z lo R → z.M.length = w.bodies.length →
    ∃ lo' R', rin ((r.map fun x => methM (clAt w x) n).foldl rch z) lo' R' ∧ E.L 34 38 (rcV C S ++ [.int .i64 n, .ro 1 (bc.map (AV.int .i64)), .int .i64 bc.length, .int .i64 i, .sl 60005 0 ls.length, .int .i64 ls.length, .int .i64 m.length]) (rfH w z C S ls lo R) = some ((.exit 12, rcV C S ++ [.int .i64 n, .ro 1 (bc.map (AV.int .i64)), .int .i64 bc.length, .int .i64 i, .sl 60005 0 ls.length, .int .i64 ls.length, .int .i64 ls.length], rfH w ((r.map fun x => methM (clAt w x) n).foldl rch z) C S ls lo' R'), True) := by
  intro r
  induction r with
  | nil =>
    intro m z lo R h hi _
    rw [List.append_nil] at h
    subst h
    refine ⟨lo, R, hi, ?_⟩
    have q : ((ls.length : Int) < ls.length) = False := eq_false (by omega)
    rw [l34_38]
    simp (maxSteps := 100000000) only [ivc, anf, nilR, eq_self, Nat.reduceEqDiff, Nat.reduceLT, Nat.reduceLeDiff, Nat.reduceAdd, Nat.reduceBEq, reduceCtorEq, ↓reduceIte, tyb, rcV, f73V, rfH, bR, iR, wdV, q, List.foldl_nil]
  | cons x r ih =>
    intro m z lo R h hi hx
    have hn : m.length + (r.length + 1) = ls.length := by rw [h]; simp
    have hi' : (m.length : Int) < ls.length := by omega
    have hg := getD_map (f := AV.int .i64) (show ls[m.length]? = some x by rw [h]; simp)
    have hw : IntKind.i64.wrap ((m.length : Int) + 1) = m.length + 1 := wrap_id (by omega) (by omega)
    have hc : (0 ≤ (m.length : Int) ∧ (m.length : Int) < ls.length) = True := eq_true (by omega)
    obtain ⟨x0, x1⟩ := hls x (by rw [h]; simp)
    have hk := clAt_some x0 x1
    have hc0 := List.mem_of_getElem? hk
    have me := method_ev (w := w) (n := n) hk (by have := g.len _ hc0; omega) (g.asc _ hc0) (fun e he => by
      have := (g.ent _ hc0 e he).1
      have h1 := hn5.1
      have h2 := hn5.2
      unfold i64r; omega)
    rw [show ((x.toNat : Nat) : Int) = x by omega] at me
    have hlt := meth_lt g hc0 (n := n)
    obtain ⟨lo1, R1, hi1, cc⟩ := rc73 (n := methM (clAt w x) n) hi (by rw [hx]; exact hlt)
    have hM : (rch z (methM (clAt w x) n)).M.length = z.M.length := rch_len
    obtain ⟨lo2, R2, hi2, ih'⟩ := ih (m ++ [x]) (rch z (methM (clAt w x) n)) lo1 R1 (by simp [h]) hi1 (hM.trans hx)
    rw [List.map_cons, List.foldl_cons]
    refine ⟨lo2, R2, hi2, ?_⟩
    generalize methM (clAt w x) n = y at *
    generalize rch z y = z1 at *
    generalize (r.map fun x => methM (clAt w x) n).foldl rch z1 = z2 at *
    simp only [List.length_append, List.length_cons, List.length_nil, Nat.zero_add, Int.natCast_add, Int.cast_ofNat_Int, rcV, f73V, rfH, bR, iR, wdV, bxH, bxO, List.cons_append, List.nil_append] at ih' cc me
    rw [l34_38]
    simp (maxSteps := 100000000) only [ivc, anf, nilR, eq_self, Nat.reduceEqDiff, Nat.reduceLT, Nat.reduceLeDiff, Nat.reduceAdd, Nat.reduceMul, Nat.reduceBEq, reduceCtorEq, ↓reduceIte, tyb, rcV, f73V, rfH, bR, iR, wdV, hi', hg, hw, me, cc, ih']
    exact some_true (by omega)
def stS (w : Wd) (C : List Bool) (y : Rs × List Bool) (n : Int) : Rs × List Bool :=
  if getB y.2 n.toNat = false then (((lsM C 0).map fun x => methM (clAt w x) n).foldl rch y.1, y.2.set n.toNat true) else y
theorem stS_len {w : Wd} {C : List Bool} {y : Rs × List Bool} {n : Int} : (stS w C y n).1.M.length = y.1.M.length ∧ (stS w C y n).2.length = y.2.length := by
  unfold stS
  split
  · exact ⟨fold_len, by simp⟩
  · exact ⟨rfl, rfl⟩
theorem rc33_loop {w : Wd} {C : List Bool} {l : List Int} (g : Good w) (hl : l.length ≤ 1000000) (hC : C.length = w.classes.length) : ∀ (r m : List Int) (z : Rs) (S : List Bool) (lo : Nat) (R : List Int), l = m ++ r → rin z lo R → z.M.length = w.bodies.length → S.length = 500 → (∀ x ∈ r, selN x) →
    ∃ lo' R', rin (r.foldl (stS w C) (z, S)).1 lo' R' ∧ E.L 34 33 (rcV C S ++ [.ro 1 (l.map (AV.int .i64)), .int .i64 l.length, .int .i64 m.length]) (rcH w z C S lo R) = some ((.exit 10, rcV C (r.foldl (stS w C) (z, S)).2 ++ [.ro 1 (l.map (AV.int .i64)), .int .i64 l.length, .int .i64 l.length], rcH w (r.foldl (stS w C) (z, S)).1 C (r.foldl (stS w C) (z, S)).2 lo' R'), True) := by
  intro r
  induction r with
  | nil =>
    intro m z S lo R h hi _ _ _
    rw [List.append_nil] at h
    subst h
    refine ⟨lo, R, hi, ?_⟩
    have q : ((l.length : Int) < l.length) = False := eq_false (by omega)
    rw [l34_33]
    simp (maxSteps := 100000000) only [ivc, anf, nilR, eq_self, Nat.reduceEqDiff, Nat.reduceLT, Nat.reduceLeDiff, Nat.reduceAdd, Nat.reduceBEq, reduceCtorEq, ↓reduceIte, tyb, rcV, f73V, rcH, bR, iR, wdV, q, List.foldl_nil]
  | cons x r ih =>
    intro m z S lo R h hi hM hS hx
    have hn : m.length + (r.length + 1) = l.length := by rw [h]; simp
    have hi' : (m.length : Int) < l.length := by omega
    have hg := getD_map (f := AV.int .i64) (show l[m.length]? = some x by rw [h]; simp)
    have hw : IntKind.i64.wrap ((m.length : Int) + 1) = m.length + 1 := wrap_id (by omega) (by omega)
    have hc : (0 ≤ (m.length : Int) ∧ (m.length : Int) < l.length) = True := eq_true (by omega)
    have hxs := hx x (by simp)
    obtain ⟨hx0, hx1⟩ := hxs
    have q : (0 ≤ x ∧ x < S.length) = True := eq_true ⟨hx0, by omega⟩
    have k1 := getBo (l := S) (i := x.toNat) (by omega)
    have gc := g.nc
    cases hb : getB S x.toNat with
    | true =>
      have e : stS w C (z, S) x = (z, S) := if_neg (by rw [hb]; simp)
      obtain ⟨lo2, R2, hi2, ih'⟩ := ih (m ++ [x]) z S lo R (by simp [h]) hi hM hS (fun y hy => hx y (by simp [hy]))
      rw [List.foldl_cons, e]
      refine ⟨lo2, R2, hi2, ?_⟩
      rw [hb] at k1
      generalize r.foldl (stS w C) (z, S) = z2 at *
      simp only [List.length_append, List.length_cons, List.length_nil, Nat.zero_add, Int.natCast_add, Int.cast_ofNat_Int, rcV, f73V, rcH, bR, iR, wdV, List.cons_append, List.nil_append] at ih'
      rw [l34_33]
      simp (maxSteps := 100000000) only [ivc, anf, vop, nilR, eq_self, Nat.reduceEqDiff, Nat.reduceLT, Nat.reduceLeDiff, Nat.reduceAdd, Nat.reduceBEq, reduceCtorEq, ↓reduceIte, tyb, rcV, f73V, rcH, bR, iR, wdV, hi', hg, hw, q, k1, ih']
      exact some_true (by omega)
    | false =>
      have e : stS w C (z, S) x = (((lsM C 0).map fun y => methM (clAt w y) x).foldl rch z, S.set x.toNat true) := if_pos hb
      have ls := list_ev (l := C) (by omega)
      have hls : ∀ y ∈ lsM C 0, 0 ≤ y ∧ y < w.classes.length := fun y hy => by
        obtain ⟨a, b, _⟩ := ls_mem.1 hy
        exact ⟨a, by omega⟩
      have hll := lsM_len (l := C) (n := 0)
      obtain ⟨lo1, R1, hi1, lp⟩ := rc38_loop (C := C) (S := S.set x.toNat true) (bc := l) (i := m.length) (n := x) g ⟨hx0, hx1⟩ (by omega) hls (lsM C 0) [] z lo R rfl hi hM
      have hM1 : (((lsM C 0).map fun y => methM (clAt w y) x).foldl rch z).M.length = z.M.length := fold_len
      obtain ⟨lo2, R2, hi2, ih'⟩ := ih (m ++ [x]) (((lsM C 0).map fun y => methM (clAt w y) x).foldl rch z) (S.set x.toNat true) lo1 R1 (by simp [h]) hi1 (hM1.trans hM) (by rw [List.length_set]; exact hS) (fun y hy => hx y (by simp [hy]))
      rw [List.foldl_cons, e]
      refine ⟨lo2, R2, hi2, ?_⟩
      rw [hb] at k1
      generalize lsM C 0 = L at *
      generalize (L.map fun y => methM (clAt w y) x).foldl rch z = z1 at *
      generalize r.foldl (stS w C) (z1, S.set x.toNat true) = z2 at *
      simp only [List.length_append, List.length_cons, List.length_nil, Nat.zero_add, Int.natCast_add, Int.cast_ofNat_Int, rcV, f73V, rfH, rcH, bR, iR, wdV, List.cons_append, List.nil_append, List.length_set] at ih' ls lp
      rw [l34_33]
      simp (maxSteps := 100000000) only [ivc, anf, vop, vlen, vbuiltin, nilR, eq_self, Nat.reduceEqDiff, Nat.reduceLT, Nat.reduceLeDiff, Nat.reduceAdd, Nat.reduceMul, Nat.reduceBEq, reduceCtorEq, ↓reduceIte, tyb, rcV, f73V, rcH, bR, iR, wdV, hi', hg, hw, q, k1, set_map, ls, lp, ih']
      exact some_true (by omega)
end Go.Proofs.YtikppcfabnnhfaaDoor

/- Reach: all. -/
namespace Go.Proofs.YtikppcfabnnhfaaDoor
open Go Go.Aw
set_option linter.unusedSimpArgs false
set_option linter.unusedVariables false
set_option maxRecDepth 100000
set_option maxHeartbeats 40000000
/-- What is still to be done. -/
def mu (z : Rs) : Nat := z.M.length - z.M.count true + z.Q.length
theorem mu_rch {z : Rs} {n : Int} (hn : n < z.M.length) : mu (rch z n) = mu z := by
  unfold rch
  split
  · rename_i h
    have hc := cnt_true (M := z.M) (n := n.toNat) (by omega) h.2
    have hl := List.count_le_length (a := true) (l := z.M.set n.toNat true)
    rw [List.length_set] at hl
    unfold mu
    simp only [List.length_set, List.length_append, List.length_cons, List.length_nil, hc]
    omega
  · rfl
theorem mu_fold : ∀ {l : List Int} {z : Rs}, (∀ x ∈ l, x < z.M.length) → mu (l.foldl rch z) = mu z
  | [], _, _ => rfl
  | x :: l, z, h => by
    rw [List.foldl_cons, mu_fold fun y hy => by rw [rch_len]; exact h y (by simp [hy]), mu_rch (h x (by simp))]
theorem mu_stC {w : Wd} (g : Good w) {S : List Bool} {y : Rs × List Bool} {n : Int} (hM : y.1.M.length = w.bodies.length) (h : 0 ≤ n ∧ n < w.classes.length) : mu (stC w S y n).1 = mu y.1 := by
  unfold stC
  split
  · refine mu_fold fun x hx => ?_
    obtain ⟨a, _, rfl⟩ := List.mem_map.1 hx
    rw [hM]
    exact meth_lt g (List.mem_of_getElem? (clAt_some h.1 h.2))
  · rfl
theorem mu_stS {w : Wd} (g : Good w) {C : List Bool} {y : Rs × List Bool} {n : Int} (hM : y.1.M.length = w.bodies.length) (hC : C.length = w.classes.length) : mu (stS w C y n).1 = mu y.1 := by
  unfold stS
  split
  · refine mu_fold fun x hx => ?_
    obtain ⟨a, ha, rfl⟩ := List.mem_map.1 hx
    obtain ⟨a0, a1, _⟩ := ls_mem.1 ha
    rw [hM]
    exact meth_lt g (List.mem_of_getElem? (clAt_some a0 (by omega)))
  · rfl
theorem foldC {w : Wd} (g : Good w) {S : List Bool} : ∀ {l : List Int} {y : Rs × List Bool}, y.1.M.length = w.bodies.length → (∀ x ∈ l, 0 ≤ x ∧ x < w.classes.length) → mu (l.foldl (stC w S) y).1 = mu y.1 ∧ (l.foldl (stC w S) y).1.M.length = y.1.M.length ∧ (l.foldl (stC w S) y).2.length = y.2.length
  | [], _, _, _ => ⟨rfl, rfl, rfl⟩
  | x :: l, y, hM, h => by
    obtain ⟨a, b⟩ := stC_len (w := w) (S := S) (y := y) (n := x)
    obtain ⟨c, d, e⟩ := foldC g (S := S) (l := l) (y := stC w S y x) (a.trans hM) (fun z hz => h z (by simp [hz]))
    rw [List.foldl_cons]
    exact ⟨c.trans (mu_stC g hM (h x (by simp))), d.trans a, e.trans b⟩
theorem foldS {w : Wd} (g : Good w) {C : List Bool} (hC : C.length = w.classes.length) : ∀ {l : List Int} {y : Rs × List Bool}, y.1.M.length = w.bodies.length → mu (l.foldl (stS w C) y).1 = mu y.1 ∧ (l.foldl (stS w C) y).1.M.length = y.1.M.length ∧ (l.foldl (stS w C) y).2.length = y.2.length
  | [], _, _ => ⟨rfl, rfl, rfl⟩
  | x :: l, y, hM => by
    obtain ⟨a, b⟩ := stS_len (w := w) (C := C) (y := y) (n := x)
    obtain ⟨c, d, e⟩ := foldS g hC (l := l) (y := stS w C y x) (a.trans hM)
    rw [List.foldl_cons]
    exact ⟨c.trans (mu_stS g hM hC), d.trans a, e.trans b⟩
def bdAt (w : Wd) (q : Int) : Bd := w.bodies.getD q.toNat ⟨[], [], []⟩
structure Ry where
  z : Rs
  C : List Bool
  S : List Bool
/-- One body. -/
def stB (w : Wd) (y : Ry) (q : Int) (Q : List Int) : Ry :=
  ⟨((bdAt w q).ss.foldl (stS w ((bdAt w q).cs.foldl (stC w y.S) ((bdAt w q).ms.foldl rch ⟨y.z.M, Q⟩, y.C)).2) (((bdAt w q).cs.foldl (stC w y.S) ((bdAt w q).ms.foldl rch ⟨y.z.M, Q⟩, y.C)).1, y.S)).1,
   ((bdAt w q).cs.foldl (stC w y.S) ((bdAt w q).ms.foldl rch ⟨y.z.M, Q⟩, y.C)).2,
   ((bdAt w q).ss.foldl (stS w ((bdAt w q).cs.foldl (stC w y.S) ((bdAt w q).ms.foldl rch ⟨y.z.M, Q⟩, y.C)).2) (((bdAt w q).cs.foldl (stC w y.S) ((bdAt w q).ms.foldl rch ⟨y.z.M, Q⟩, y.C)).1, y.S)).2⟩
def runR (w : Wd) : Nat → Ry → Ry
  | 0, y => y
  | k + 1, y => match y.z.Q with
    | [] => y
    | q :: Q => runR w k (stB w y q Q)
structure RyOk (w : Wd) (y : Ry) : Prop where
  m : y.z.M.length = w.bodies.length
  c : y.C.length = w.classes.length
  s : y.S.length = 500
theorem rc13_loop {w : Wd} (g : Good w) : ∀ (k : Nat) (y : Ry) (lo : Nat) (R : List Int), mu y.z ≤ k → rin y.z lo R → RyOk w y →
    ∃ lo' R', (runR w k y).z.Q = [] ∧ RyOk w (runR w k y) ∧ E.L 34 13 (rcV y.C y.S) (rcH w y.z y.C y.S lo R) = some ((.exit 2, rcV (runR w k y).C (runR w k y).S, rcH w (runR w k y).z (runR w k y).C (runR w k y).S lo' R'), True) := by
  intro k
  induction k with
  | zero =>
    intro y lo R hm hi ok
    have hQ : y.z.Q.length = 0 := by unfold mu at hm; omega
    refine ⟨lo, R, List.eq_nil_of_length_eq_zero hQ, ok, ?_⟩
    rw [show runR w 0 y = y from rfl, l34_13]
    simp (maxSteps := 100000000) only [ivc, anf, vlen, vbuiltin, nilR, eq_self, Nat.reduceEqDiff, Nat.reduceLT, Nat.reduceLeDiff, Nat.reduceAdd, Nat.reduceBEq, reduceCtorEq, ↓reduceIte, tyb, rcV, f73V, rcH, bR, iR, wdV, hQ, Int.lt_irrefl]
  | succ k ih =>
    intro y lo R hm hi ok
    cases hq : y.z.Q with
    | nil =>
      have e : runR w (k + 1) y = y := by rw [runR, hq]
      rw [e]
      refine ⟨lo, R, hq, ok, ?_⟩
      rw [l34_13]
      simp (maxSteps := 100000000) only [ivc, anf, vlen, vbuiltin, nilR, eq_self, Nat.reduceEqDiff, Nat.reduceLT, Nat.reduceLeDiff, Nat.reduceAdd, Nat.reduceBEq, reduceCtorEq, ↓reduceIte, tyb, rcV, f73V, rcH, bR, iR, wdV, hq, Int.lt_irrefl]
    | cons q Q =>
      have e : runR w (k + 1) y = runR w k (stB w y q Q) := by rw [runR, hq]
      obtain ⟨h1, h2, h3, h4, h5⟩ := hi
      obtain ⟨q0, q1⟩ := h5 q (by rw [hq]; simp)
      rw [ok.m] at q1
      have hbd : w.bodies[q.toNat]? = some (bdAt w q) := by
        unfold bdAt
        rw [List.getD_eq_getElem?_getD, List.getElem?_eq_getElem (by omega)]; rfl
      have hbm := List.mem_of_getElem? hbd
      obtain ⟨br1, br2, br3⟩ := g.br _ hbm
      obtain ⟨bl1, bl2, bl3⟩ := g.bl _ hbm
      rw [hq] at h1 h3
      rw [List.length_cons] at h3
      have hi1 : rin ⟨y.z.M, Q⟩ (lo + 1) R := ⟨by
        rw [← List.drop_drop, h1]; rfl, h2, by dsimp only; omega, h4, fun x hx => h5 x (by rw [hq]; simp [hx])⟩
      have okm := ok.m
      obtain ⟨lo2, R2, hi2, lp1⟩ := rc17_loop (w := w) (b := bdAt w q) (C := y.C) (S := y.S) (l := (bdAt w q).ms) (by omega) (bdAt w q).ms [] ⟨y.z.M, Q⟩ (lo + 1) R rfl hi1 (fun x hx => by dsimp only; rw [okm]; exact (br2 x hx).2)
      have l1 : ((bdAt w q).ms.foldl rch ⟨y.z.M, Q⟩).M.length = w.bodies.length := fold_len.trans okm
      have m1 : mu ((bdAt w q).ms.foldl rch ⟨y.z.M, Q⟩) = mu ⟨y.z.M, Q⟩ := mu_fold fun x hx => by dsimp only; rw [okm]; exact (br2 x hx).2
      have hst : stB w y q Q = ⟨((bdAt w q).ss.foldl (stS w ((bdAt w q).cs.foldl (stC w y.S) ((bdAt w q).ms.foldl rch ⟨y.z.M, Q⟩, y.C)).2) (((bdAt w q).cs.foldl (stC w y.S) ((bdAt w q).ms.foldl rch ⟨y.z.M, Q⟩, y.C)).1, y.S)).1,
        ((bdAt w q).cs.foldl (stC w y.S) ((bdAt w q).ms.foldl rch ⟨y.z.M, Q⟩, y.C)).2,
        ((bdAt w q).ss.foldl (stS w ((bdAt w q).cs.foldl (stC w y.S) ((bdAt w q).ms.foldl rch ⟨y.z.M, Q⟩, y.C)).2) (((bdAt w q).cs.foldl (stC w y.S) ((bdAt w q).ms.foldl rch ⟨y.z.M, Q⟩, y.C)).1, y.S)).2⟩ := rfl
      have m0 : mu ⟨y.z.M, Q⟩ + 1 = mu y.z := by
        unfold mu
        rw [hq]
        simp only [List.length_cons]
        omega
      generalize (bdAt w q).ms.foldl rch ⟨y.z.M, Q⟩ = z1 at *
      obtain ⟨lo3, R3, hi3, lp2⟩ := rc22_loop (w := w) (b := bdAt w q) (S := y.S) (l := (bdAt w q).cs) g (by omega) ok.s (bdAt w q).cs [] z1 y.C lo2 R2 rfl hi2 l1 ok.c br3
      obtain ⟨m2, l2, c2⟩ := foldC g (S := y.S) (l := (bdAt w q).cs) (y := (z1, y.C)) l1 br3
      dsimp only at m2 l2 c2
      have okc := ok.c
      generalize (bdAt w q).cs.foldl (stC w y.S) (z1, y.C) = z2 at *
      obtain ⟨lo4, R4, hi4, lp3⟩ := rc33_loop (w := w) (C := z2.2) (l := (bdAt w q).ss) g (by omega) (c2.trans okc) (bdAt w q).ss [] z2.1 y.S lo3 R3 rfl hi3 (l2.trans l1) ok.s br1
      obtain ⟨m3, l3, c3⟩ := foldS g (C := z2.2) (c2.trans okc) (l := (bdAt w q).ss) (y := (z2.1, y.S)) (l2.trans l1)
      dsimp only at m3 l3 c3
      generalize (bdAt w q).ss.foldl (stS w z2.2) (z2.1, y.S) = z3 at *
      obtain ⟨lo5, R5, k1, k2, ih'⟩ := ih ⟨z3.1, z2.2, z3.2⟩ lo4 R4 (by dsimp only; omega) hi4 ⟨l3.trans (l2.trans l1), c2.trans okc, c3.trans ok.s⟩
      rw [e, hst]
      refine ⟨lo5, R5, k1, k2, ?_⟩
      generalize runR w k ⟨z3.1, z2.2, z3.2⟩ = y2 at *
      have hg := getD_map (f := bdV) hbd
      have hR : (R.map (AV.int .i64)).getD lo .junk = .int .i64 q := by
        have hlo : R[lo]? = some q := by
          have := congrArg (·[0]?) h1
          simpa [List.getElem?_drop] using this
        exact getD_map hlo
      generalize bdAt w q = b at *
      have p1 : (0 < ((Q.length : Int) + 1)) = True := eq_true (by omega)
      have p2 : (0 ≤ q ∧ q < w.bodies.length) = True := eq_true ⟨q0, q1⟩
      have p3 : ((Q.length : Int) + 1).toNat - 1 = Q.length := by omega
      simp only [List.length_nil, Int.natCast_zero, rcV, f73V, rcH, rdH, bR, iR, wdV, bdV, List.cons_append, List.nil_append] at lp1 lp2 lp3 ih'
      rw [l34_13]
      simp (maxSteps := 100000000) only [ivc, anf, vop, vslice, vlen, vbuiltin, nilR, salloc, eq_self, Nat.reduceEqDiff, Nat.reduceLT, Nat.reduceLeDiff, Nat.reduceAdd, Nat.reduceBEq, Int.reduceLE, Int.reduceToNat, reduceCtorEq, implies_true, ↓reduceIte, tyb, rcV, f73V, rcH, bR, iR, wdV, bdV, hq, p1, p2, p3, hR, hg, lp1, lp2, lp3, ih']
      exact some_true (by omega)
end Go.Proofs.YtikppcfabnnhfaaDoor

/- Plain: what is reached is the least that is closed. -/
namespace Go.Proofs.YtikppcfabnnhfaaDoor
open Go Go.Aw
set_option linter.unusedVariables false
/-- Sets of methods, classes and selectors. -/
structure Cz where
  m : Int → Prop
  c : Int → Prop
  s : Int → Prop
/-- Closed under what bodies and entries name. -/
structure Clo (w : Wd) (R : List Int) (T : Cz) : Prop where
  root : ∀ x ∈ R, T.m x
  bm : ∀ q, T.m q → 0 ≤ q → q < w.bodies.length → ∀ x ∈ (bdAt w q).ms, T.m x
  bc : ∀ q, T.m q → 0 ≤ q → q < w.bodies.length → ∀ x ∈ (bdAt w q).cs, T.c x
  bs : ∀ q, T.m q → 0 ≤ q → q < w.bodies.length → ∀ x ∈ (bdAt w q).ss, T.s x
  en : ∀ c s, T.c c → T.s s → 0 ≤ c → c < w.classes.length → 0 ≤ methM (clAt w c) s → T.m (methM (clAt w c) s)
def inM (M : List Bool) (x : Int) : Prop := 0 ≤ x ∧ x < M.length ∧ getB M x.toNat = true
theorem inM_set {M : List Bool} {n : Nat} {x : Int} (hn : n < M.length) : inM (M.set n true) x ↔ inM M x ∨ x = n := by
  unfold inM getB
  rw [List.length_set, List.getD_eq_getElem?_getD, List.getElem?_set]
  constructor
  · rintro ⟨h1, h2, h3⟩
    by_cases e : n = x.toNat
    · exact .inr (by omega)
    · rw [if_neg e, ← List.getD_eq_getElem?_getD] at h3
      exact .inl ⟨h1, h2, h3⟩
  · rintro (⟨h1, h2, h3⟩ | rfl)
    · refine ⟨h1, h2, ?_⟩
      by_cases e : n = x.toNat
      · rw [if_pos e, if_pos hn]; rfl
      · rw [if_neg e, ← List.getD_eq_getElem?_getD]; exact h3
    · refine ⟨by omega, by omega, ?_⟩
      rw [if_pos (by omega), if_pos hn]; rfl
/-- A number is marked, if it is one; nothing else is. -/
theorem rch_in {z : Rs} {n x : Int} (hn : n < z.M.length) : inM (rch z n).M x ↔ inM z.M x ∨ (x = n ∧ 0 ≤ n) := by
  unfold rch
  by_cases h : 0 ≤ n ∧ getB z.M n.toNat = false
  · rw [if_pos h]
    show inM (z.M.set n.toNat true) x ↔ _
    rw [inM_set (by omega)]
    exact or_congr_right ⟨fun e => ⟨by omega, h.1⟩, fun e => by omega⟩
  · rw [if_neg h]
    constructor
    · exact .inl
    · rintro (h1 | ⟨rfl, h0⟩)
      · exact h1
      · refine ⟨h0, hn, ?_⟩
        cases hb : getB z.M x.toNat with
        | true => rfl
        | false => exact absurd ⟨h0, hb⟩ h
theorem fold_in : ∀ {l : List Int} {z : Rs} {x : Int}, (∀ y ∈ l, y < z.M.length) → (inM (l.foldl rch z).M x ↔ inM z.M x ∨ (x ∈ l ∧ 0 ≤ x))
  | [], z, x, _ => by simp
  | n :: l, z, x, h => by
    rw [List.foldl_cons, fold_in fun y hy => by rw [rch_len]; exact h y (by simp [hy]), rch_in (h n (by simp)), or_assoc]
    refine or_congr_right ?_
    rw [List.mem_cons]
    constructor
    · rintro (⟨rfl, h0⟩ | ⟨h1, h0⟩)
      · exact ⟨.inl rfl, h0⟩
      · exact ⟨.inr h1, h0⟩
    · rintro ⟨rfl | h1, h0⟩
      · exact .inl ⟨rfl, h0⟩
      · exact .inr ⟨h1, h0⟩
/-- What is marked newly stands in the queue. -/
theorem rch_q {z : Rs} {n x : Int} : (x ∈ (rch z n).Q → x ∈ z.Q ∨ x = n) ∧ (x ∈ z.Q → x ∈ (rch z n).Q) ∧ (n < z.M.length → inM (rch z n).M x → inM z.M x ∨ x ∈ (rch z n).Q) := by
  unfold rch
  by_cases h : 0 ≤ n ∧ getB z.M n.toNat = false
  · rw [if_pos h]
    refine ⟨fun hx => by simpa using hx, fun hx => by simp [hx], fun hn hx => ?_⟩
    rcases (inM_set (by omega)).1 hx with hx | hx
    · exact .inl hx
    · right
      simp
      omega
  · rw [if_neg h]
    exact ⟨.inl, id, fun _ => .inl⟩
/-- One step onwards. -/
structure Stp (z z' : Rs) : Prop where
  len : z'.M.length = z.M.length
  up : ∀ x, inM z.M x → inM z'.M x
  q1 : ∀ x, x ∈ z.Q → x ∈ z'.Q
  q2 : ∀ x, inM z'.M x → inM z.M x ∨ x ∈ z'.Q
  q3 : ∀ x, x ∈ z'.Q → x ∈ z.Q ∨ inM z'.M x
theorem Stp.refl (z : Rs) : Stp z z := ⟨rfl, fun _ h => h, fun _ h => h, fun _ h => .inl h, fun _ h => .inl h⟩
theorem Stp.trans {a b c : Rs} (h : Stp a b) (k : Stp b c) : Stp a c where
  len := k.len.trans h.len
  up x hx := k.up x (h.up x hx)
  q1 x hx := k.q1 x (h.q1 x hx)
  q2 x hx := (k.q2 x hx).elim (fun h1 => (h.q2 x h1).imp id (k.q1 x)) .inr
  q3 x hx := (k.q3 x hx).elim (fun h1 => (h.q3 x h1).imp id (k.up x)) .inr
theorem rch_stp {z : Rs} {n : Int} (hn : n < z.M.length) : Stp z (rch z n) where
  len := rch_len
  up x hx := (rch_in hn).2 (.inl hx)
  q1 x hx := rch_q.2.1 hx
  q2 x hx := rch_q.2.2 hn hx
  q3 x hx := by
    unfold rch at hx ⊢
    split at hx
    · rename_i h
      rw [if_pos h]
      rcases List.mem_append.1 hx with hx | hx
      · exact .inl hx
      · rw [List.mem_singleton.1 hx]
        exact .inr ((inM_set (by omega)).2 (.inr (by omega)))
    · exact .inl hx
theorem fold_stp : ∀ {l : List Int} {z : Rs}, (∀ y ∈ l, y < z.M.length) → Stp z (l.foldl rch z)
  | [], z, _ => .refl z
  | n :: l, z, h => (rch_stp (h n (by simp))).trans (fold_stp fun y hy => by rw [rch_len]; exact h y (by simp [hy]))
def enOk (w : Wd) (M C S : List Bool) : Prop := ∀ c s, inM C c → inM S s → 0 ≤ methM (clAt w c) s → inM M (methM (clAt w c) s)
def subT (T : Cz) (M C S : List Bool) : Prop := (∀ x, inM M x → T.m x) ∧ (∀ x, inM C x → T.c x) ∧ ∀ x, inM S x → T.s x
theorem stC_in {w : Wd} (g : Good w) {R : List Int} {S : List Bool} (hS : S.length = 500) {z : Rs} {C : List Bool} {n : Int} (hM : z.M.length = w.bodies.length) (hC : C.length = w.classes.length) (h : 0 ≤ n ∧ n < w.classes.length) :
    Stp z (stC w S (z, C) n).1 ∧ (∀ x, inM (stC w S (z, C) n).2 x ↔ inM C x ∨ x = n) ∧ (enOk w z.M C S → enOk w (stC w S (z, C) n).1.M (stC w S (z, C) n).2 S) ∧ ∀ T, Clo w R T → subT T z.M C S → T.c n → subT T (stC w S (z, C) n).1.M (stC w S (z, C) n).2 S := by
  have hc := List.mem_of_getElem? (clAt_some h.1 h.2)
  have hlt : ∀ y ∈ (lsM S 0).map (methM (clAt w n)), y < z.M.length := fun y hy => by
    obtain ⟨a, _, rfl⟩ := List.mem_map.1 hy
    rw [hM]; exact meth_lt g hc
  unfold stC
  by_cases hb : getB C n.toNat = false
  · rw [if_pos hb]
    have st := fold_stp hlt
    have hin : ∀ x, inM (C.set n.toNat true) x ↔ inM C x ∨ x = n := fun x => by
      rw [inM_set (by omega)]
      exact or_congr_right ⟨fun e => by omega, fun e => by omega⟩
    refine ⟨st, hin, fun he c s h1 h2 h3 => ?_, fun T hT hs hn => ⟨fun x hx => ?_, fun x hx => ?_, hs.2.2⟩⟩
    · rcases (hin c).1 h1 with h1 | rfl
      · exact st.up _ (he c s h1 h2 h3)
      · exact (fold_in hlt).2 (.inr ⟨List.mem_map.2 ⟨s, ls_mem.2 h2, rfl⟩, h3⟩)
    · rcases (fold_in hlt).1 hx with hx | ⟨hx, h0⟩
      · exact hs.1 x hx
      · obtain ⟨s, hs1, rfl⟩ := List.mem_map.1 hx
        exact hT.en n s hn (hs.2.2 s (ls_mem.1 hs1)) h.1 h.2 h0
    · rcases (hin x).1 hx with hx | rfl
      · exact hs.2.1 x hx
      · exact hn
  · rw [if_neg hb]
    refine ⟨.refl z, fun x => ⟨.inl, fun hx => hx.elim id fun e => ?_⟩, id, fun T _ hs _ => hs⟩
    subst e
    exact ⟨h.1, by dsimp only; omega, by simpa using hb⟩
theorem foldC_in {w : Wd} (g : Good w) {R : List Int} {S : List Bool} (hS : S.length = 500) : ∀ {l : List Int} {z : Rs} {C : List Bool}, z.M.length = w.bodies.length → C.length = w.classes.length → (∀ n ∈ l, 0 ≤ n ∧ n < w.classes.length) →
    Stp z (l.foldl (stC w S) (z, C)).1 ∧ (∀ x, inM (l.foldl (stC w S) (z, C)).2 x ↔ inM C x ∨ x ∈ l) ∧ (enOk w z.M C S → enOk w (l.foldl (stC w S) (z, C)).1.M (l.foldl (stC w S) (z, C)).2 S) ∧ ∀ T, Clo w R T → subT T z.M C S → (∀ n ∈ l, T.c n) → subT T (l.foldl (stC w S) (z, C)).1.M (l.foldl (stC w S) (z, C)).2 S
  | [], z, C, _, _, _ => ⟨.refl z, fun x => by simp, id, fun T _ h _ => h⟩
  | n :: l, z, C, hM, hC, h => by
    obtain ⟨a1, a2, a3, a4⟩ := stC_in g (R := R) hS hM hC (h n (by simp))
    obtain ⟨k1, k2⟩ := stC_len (w := w) (S := S) (y := (z, C)) (n := n)
    obtain ⟨b1, b2, b3, b4⟩ := foldC_in g (R := R) hS (l := l) (z := (stC w S (z, C) n).1) (C := (stC w S (z, C) n).2) (k1.trans hM) (k2.trans hC) (fun y hy => h y (by simp [hy]))
    rw [List.foldl_cons]
    refine ⟨a1.trans b1, fun x => ?_, fun he => b3 (a3 he), fun T hT hs hn => b4 T hT (a4 T hT hs (hn n (by simp))) fun y hy => hn y (by simp [hy])⟩
    rw [b2, a2, or_assoc, List.mem_cons]
theorem stS_in {w : Wd} (g : Good w) {R : List Int} {C : List Bool} (hC : C.length = w.classes.length) {z : Rs} {S : List Bool} {n : Int} (hM : z.M.length = w.bodies.length) (hS : S.length = 500) (h : selN n) :
    Stp z (stS w C (z, S) n).1 ∧ (∀ x, inM (stS w C (z, S) n).2 x ↔ inM S x ∨ x = n) ∧ (enOk w z.M C S → enOk w (stS w C (z, S) n).1.M C (stS w C (z, S) n).2) ∧ ∀ T, Clo w R T → subT T z.M C S → T.s n → subT T (stS w C (z, S) n).1.M C (stS w C (z, S) n).2 := by
  obtain ⟨n0, n1⟩ := h
  have hlt : ∀ y ∈ (lsM C 0).map (fun x => methM (clAt w x) n), y < z.M.length := fun y hy => by
    obtain ⟨a, ha, rfl⟩ := List.mem_map.1 hy
    obtain ⟨a0, a1, _⟩ := ls_mem.1 ha
    rw [hM]; exact meth_lt g (List.mem_of_getElem? (clAt_some a0 (by omega)))
  unfold stS
  by_cases hb : getB S n.toNat = false
  · rw [if_pos hb]
    have st := fold_stp hlt
    have hin : ∀ x, inM (S.set n.toNat true) x ↔ inM S x ∨ x = n := fun x => by
      rw [inM_set (by omega)]
      exact or_congr_right ⟨fun e => by omega, fun e => by omega⟩
    refine ⟨st, hin, fun he c s h1 h2 h3 => ?_, fun T hT hs hn => ⟨fun x hx => ?_, hs.2.1, fun x hx => ?_⟩⟩
    · rcases (hin s).1 h2 with h2 | rfl
      · exact st.up _ (he c s h1 h2 h3)
      · exact (fold_in hlt).2 (.inr ⟨List.mem_map.2 ⟨c, ls_mem.2 h1, rfl⟩, h3⟩)
    · rcases (fold_in hlt).1 hx with hx | ⟨hx, h0⟩
      · exact hs.1 x hx
      · obtain ⟨c, hc1, rfl⟩ := List.mem_map.1 hx
        obtain ⟨c0, c1, c2⟩ := ls_mem.1 hc1
        exact hT.en c n (hs.2.1 c ⟨c0, c1, c2⟩) hn c0 (by omega) h0
    · rcases (hin x).1 hx with hx | rfl
      · exact hs.2.2 x hx
      · exact hn
  · rw [if_neg hb]
    refine ⟨.refl z, fun x => ⟨.inl, fun hx => hx.elim id fun e => ?_⟩, id, fun T _ hs _ => hs⟩
    subst e
    exact ⟨n0, by dsimp only; omega, by simpa using hb⟩
theorem foldS_in {w : Wd} (g : Good w) {R : List Int} {C : List Bool} (hC : C.length = w.classes.length) : ∀ {l : List Int} {z : Rs} {S : List Bool}, z.M.length = w.bodies.length → S.length = 500 → (∀ n ∈ l, selN n) →
    Stp z (l.foldl (stS w C) (z, S)).1 ∧ (∀ x, inM (l.foldl (stS w C) (z, S)).2 x ↔ inM S x ∨ x ∈ l) ∧ (enOk w z.M C S → enOk w (l.foldl (stS w C) (z, S)).1.M C (l.foldl (stS w C) (z, S)).2) ∧ ∀ T, Clo w R T → subT T z.M C S → (∀ n ∈ l, T.s n) → subT T (l.foldl (stS w C) (z, S)).1.M C (l.foldl (stS w C) (z, S)).2
  | [], z, S, _, _, _ => ⟨.refl z, fun x => by simp, id, fun T _ h _ => h⟩
  | n :: l, z, S, hM, hS, h => by
    obtain ⟨a1, a2, a3, a4⟩ := stS_in g (R := R) hC hM hS (h n (by simp))
    obtain ⟨k1, k2⟩ := stS_len (w := w) (C := C) (y := (z, S)) (n := n)
    obtain ⟨b1, b2, b3, b4⟩ := foldS_in g (R := R) hC (l := l) (z := (stS w C (z, S) n).1) (S := (stS w C (z, S) n).2) (k1.trans hM) (k2.trans hS) (fun y hy => h y (by simp [hy]))
    rw [List.foldl_cons]
    refine ⟨a1.trans b1, fun x => ?_, fun he => b3 (a3 he), fun T hT hs hn => b4 T hT (a4 T hT hs (hn n (by simp))) fun y hy => hn y (by simp [hy])⟩
    rw [b2, a2, or_assoc, List.mem_cons]
/-- What holds between two bodies. -/
structure RyInv (w : Wd) (y : Ry) : Prop where
  ok : RyOk w y
  root : ∀ x ∈ w.roots, inM y.z.M x
  qm : ∀ q ∈ y.z.Q, inM y.z.M q
  done : ∀ q, inM y.z.M q → q ∉ y.z.Q → (∀ x ∈ (bdAt w q).ms, inM y.z.M x) ∧ (∀ x ∈ (bdAt w q).cs, inM y.C x) ∧ ∀ x ∈ (bdAt w q).ss, inM y.S x
  en : enOk w y.z.M y.C y.S
  least : ∀ T, Clo w w.roots T → subT T y.z.M y.C y.S
theorem stB_inv {w : Wd} (g : Good w) {y : Ry} {q : Int} {Q : List Int} (I : RyInv w y) (hq : y.z.Q = q :: Q) : RyInv w (stB w y q Q) := by
  have hqm := I.qm q (by rw [hq]; simp)
  obtain ⟨q0, q1, _⟩ := hqm
  have okm := I.ok.m
  have okc := I.ok.c
  have oks := I.ok.s
  have hbd : w.bodies[q.toNat]? = some (bdAt w q) := by
    unfold bdAt
    rw [List.getD_eq_getElem?_getD, List.getElem?_eq_getElem (by omega)]; rfl
  obtain ⟨br1, br2, br3⟩ := g.br _ (List.mem_of_getElem? hbd)
  have h1 : ∀ x ∈ (bdAt w q).ms, x < (⟨y.z.M, Q⟩ : Rs).M.length := fun x hx => by dsimp only; rw [okm]; exact (br2 x hx).2
  have s1 := fold_stp h1
  have i1 := fun x => fold_in (x := x) h1
  unfold stB
  generalize (bdAt w q).ms.foldl rch ⟨y.z.M, Q⟩ = z1 at *
  have l1 : z1.M.length = w.bodies.length := s1.len.trans okm
  obtain ⟨s2, c2, e2, t2⟩ := foldC_in g (R := w.roots) oks (l := (bdAt w q).cs) (z := z1) (C := y.C) l1 okc br3
  obtain ⟨_, l2, k2⟩ := foldC g (S := y.S) (l := (bdAt w q).cs) (y := (z1, y.C)) l1 br3
  generalize (bdAt w q).cs.foldl (stC w y.S) (z1, y.C) = y2 at *
  dsimp only at l2 k2
  obtain ⟨s3, c3, e3, t3⟩ := foldS_in g (R := w.roots) (C := y2.2) (k2.trans okc) (l := (bdAt w q).ss) (z := y2.1) (S := y.S) (l2.trans l1) oks br1
  obtain ⟨_, l3, k3⟩ := foldS g (C := y2.2) (k2.trans okc) (l := (bdAt w q).ss) (y := (y2.1, y.S)) (l2.trans l1)
  generalize (bdAt w q).ss.foldl (stS w y2.2) (y2.1, y.S) = y3 at *
  dsimp only at l3 k3
  have st := s1.trans (s2.trans s3)
  refine ⟨⟨l3.trans (l2.trans l1), k2.trans okc, k3.trans oks⟩, fun x hx => st.up x (I.root x hx), fun x hx => ?_, fun p hp hpq => ?_, ?_, fun T hT => ?_⟩
  · rcases st.q3 x hx with hx | hx
    · exact st.up x (I.qm x (by rw [hq]; simp only [List.mem_cons]; exact .inr hx))
    · exact hx
  · rcases st.q2 p hp with hp1 | hp1
    · by_cases e : p = q
      · subst e
        exact ⟨fun x hx => (s2.trans s3).up x ((i1 x).2 (.inr ⟨hx, (br2 x hx).1⟩)), fun x hx => (c2 x).2 (.inr hx), fun x hx => (c3 x).2 (.inr hx)⟩
      · obtain ⟨d1, d2, d3⟩ := I.done p hp1 (by
          rw [hq, List.mem_cons]
          rintro (h | h)
          · exact e h
          · exact hpq (st.q1 p h))
        exact ⟨fun x hx => st.up x (d1 x hx), fun x hx => (c2 x).2 (.inl (d2 x hx)), fun x hx => (c3 x).2 (.inl (d3 x hx))⟩
    · exact absurd hp1 hpq
  · exact e3 (e2 fun c s hc hs h0 => s1.up _ (I.en c s hc hs h0))
  · have T0 := I.least T hT
    have hTq := T0.1 q (I.qm q (by rw [hq]; simp))
    have T1 : subT T z1.M y.C y.S := ⟨fun x hx => by
      rcases (i1 x).1 hx with hx | ⟨hx, _⟩
      · exact T0.1 x hx
      · exact hT.bm q hTq q0 (by omega) x hx, T0.2.1, T0.2.2⟩
    exact t3 T hT (t2 T hT T1 (hT.bc q hTq q0 (by omega))) (hT.bs q hTq q0 (by omega))
theorem runR_inv {w : Wd} (g : Good w) : ∀ {k : Nat} {y : Ry}, RyInv w y → RyInv w (runR w k y)
  | 0, _, h => h
  | k + 1, y, h => by
    rw [runR]
    cases hq : y.z.Q with
    | nil => exact h
    | cons q Q => exact runR_inv g (stB_inv g h hq)
end Go.Proofs.YtikppcfabnnhfaaDoor

/- Reach. -/
namespace Go.Proofs.YtikppcfabnnhfaaDoor
open Go Go.Aw
set_option linter.unusedSimpArgs false
set_option linter.unusedVariables false
set_option maxRecDepth 100000
set_option maxHeartbeats 40000000
def fls (n : Nat) : List Bool := List.replicate n false
/-- What is reached. -/
def rz0 (w : Wd) : Rs := w.roots.foldl rch ⟨fls w.bodies.length, []⟩
def reaM (w : Wd) : Ry := runR w (mu (rz0 w)) ⟨rz0 w, fls w.classes.length, fls 500⟩
theorem rep_fls {n : Nat} : List.replicate n (AV.bool false) = (fls n).map AV.bool := List.map_replicate.symm
theorem fls500 : AV.bool false :: (fls 499).map AV.bool = (fls 500).map AV.bool := rfl
theorem fls_len {n : Nat} : (fls n).length = n := List.length_replicate
theorem reach_ev {w : Wd} : E.F 34 [wdV w] [] = some ((if ckM w = 0 then .tup [.ro 1 ((lsM (reaM w).z.M 0).map (AV.int .i64)), .ro 1 ((lsM (reaM w).C 0).map (AV.int .i64)), .ro 1 ((lsM (reaM w).S 0).map (AV.int .i64)), .int .i64 0] else .tup [.ro 1 [], .ro 1 [], .ro 1 [], .int .i64 (ckM w)], []), True) := by
  have h1 := check_ev (w := w)
  rw [e34]
  by_cases h : ckM w = 0
  · rw [if_pos h]
    rw [h] at h1
    have g := good_of h
    have gb := g.nb
    have gc := g.nc
    have gr := g.nr
    have hi0 : rin ⟨fls w.bodies.length, []⟩ 0 [] := ⟨rfl, by simp, by simp, by rw [fls_len]; exact gb, by simp⟩
    obtain ⟨lo1, R1, hi1, lp1⟩ := rc9_loop (w := w) (C := fls w.classes.length) (S := fls 500) (l := w.roots) (by omega) w.roots [] ⟨fls w.bodies.length, []⟩ 0 [] rfl hi0 (fun x hx => by dsimp only; rw [fls_len]; exact (g.rr x hx).2)
    have ok1 : RyOk w ⟨rz0 w, fls w.classes.length, fls 500⟩ := ⟨fold_len.trans fls_len, fls_len, fls_len⟩
    rw [show w.roots.foldl rch ⟨fls w.bodies.length, []⟩ = rz0 w from rfl] at lp1 hi1
    obtain ⟨lo2, R2, k1, k2, lp2⟩ := rc13_loop g (mu (rz0 w)) ⟨rz0 w, fls w.classes.length, fls 500⟩ lo1 R1 (Nat.le_refl _) hi1 ok1
    rw [show runR w (mu (rz0 w)) ⟨rz0 w, fls w.classes.length, fls 500⟩ = reaM w from rfl] at k1 k2 lp2
    have ml := ok1.m
    generalize reaM w = y at *
    dsimp only at ml
    generalize rz0 w = z1 at *
    obtain ⟨ym, yc, ys⟩ := k2
    have t1 := list_ev (l := y.z.M) (by omega)
    have t2 := list_ev (l := y.C) (by omega)
    have t3 := list_ev (l := y.S) (by omega)
    simp only [List.length_nil, Int.natCast_zero, fls_len, k1, rcV, f73V, rcH, bR, iR, wdV, List.map_nil, List.cons_append, List.nil_append] at h1 lp1 lp2 t1 t2 t3
    have nb0 : ((w.bodies.length : Int) < 0) = False := eq_false (by omega)
    have nc0 : ((w.classes.length : Int) < 0) = False := eq_false (by omega)
    simp (maxSteps := 100000000) only [ivc, anf, vop, vlen, vbuiltin, nilR, salloc, eq_self, Nat.reduceEqDiff, Nat.reduceLT, Nat.reduceLeDiff, Nat.reduceAdd, Nat.reduceMul, Nat.reduceBEq, Int.reduceLE, Int.reduceToNat, Int.reduceMul, reduceCtorEq, ↓reduceIte, tyb, ↓rep_fls, rep_fls, fls500, wdV, h1, lp1, lp2, t1, t2, t3]
    exact some_true (by omega)
  · rw [if_neg h]
    have h' : (ckM w != 0) = true := bne_iff_ne.2 h
    simp only [wdV] at h1
    simp (maxSteps := 100000000) only [ivc, anf, nilR, salloc, eq_self, Nat.reduceEqDiff, Nat.reduceLT, Nat.reduceLeDiff, Nat.reduceAdd, Nat.reduceBEq, ↓reduceIte, tyb, wdV, h1, h']
end Go.Proofs.YtikppcfabnnhfaaDoor

/- Plain: what Reach returns is closed, and the least that is. -/
namespace Go.Proofs.YtikppcfabnnhfaaDoor
open Go Go.Aw
set_option linter.unusedVariables false
theorem inM_fls {n : Nat} {x : Int} : ¬ inM (fls n) x := fun ⟨h0, h1, h2⟩ => by
  unfold getB fls at h2
  rw [List.getD_eq_getElem?_getD, List.getElem?_replicate] at h2
  split at h2 <;> cases h2
theorem ry_start {w : Wd} (g : Good w) : RyInv w ⟨rz0 w, fls w.classes.length, fls 500⟩ := by
  have h1 : ∀ x ∈ w.roots, x < (⟨fls w.bodies.length, []⟩ : Rs).M.length := fun x hx => by dsimp only; rw [fls_len]; exact (g.rr x hx).2
  have s1 := fold_stp h1
  have i1 := fun x => fold_in (x := x) h1
  have e : w.roots.foldl rch ⟨fls w.bodies.length, []⟩ = rz0 w := rfl
  rw [e] at s1 i1
  refine ⟨⟨s1.len.trans fls_len, fls_len, fls_len⟩, fun x hx => (i1 x).2 (.inr ⟨hx, (g.rr x hx).1⟩), fun q hq => ?_, fun q hq hn => ?_, fun c s hc => absurd hc inM_fls, fun T hT => ⟨fun x hx => ?_, fun x hx => absurd hx inM_fls, fun x hx => absurd hx inM_fls⟩⟩
  · rcases s1.q3 q hq with h | h
    · cases h
    · exact h
  · rcases s1.q2 q hq with h | h
    · exact absurd h inM_fls
    · exact absurd h hn
  · rcases (i1 x).1 hx with h | ⟨h, _⟩
    · exact absurd h inM_fls
    · exact hT.root x h
theorem rea_empty {w : Wd} (g : Good w) : (reaM w).z.Q = [] := by
  have gb := g.nb
  have gc := g.nc
  have gr := g.nr
  have hi0 : rin ⟨fls w.bodies.length, []⟩ 0 [] := ⟨rfl, by simp, by simp, by rw [fls_len]; exact gb, by simp⟩
  obtain ⟨lo1, R1, hi1, _⟩ := rc9_loop (w := w) (C := fls w.classes.length) (S := fls 500) (l := w.roots) (by omega) w.roots [] ⟨fls w.bodies.length, []⟩ 0 [] rfl hi0 (fun x hx => by dsimp only; rw [fls_len]; exact (g.rr x hx).2)
  obtain ⟨_, _, k1, _, _⟩ := rc13_loop g (mu (rz0 w)) ⟨rz0 w, fls w.classes.length, fls 500⟩ lo1 R1 (Nat.le_refl _) hi1 (ry_start g).ok
  exact k1
/-- What is reached, as lists. -/
def rM (w : Wd) : List Int := lsM (reaM w).z.M 0
def rC (w : Wd) : List Int := lsM (reaM w).C 0
def rS (w : Wd) : List Int := lsM (reaM w).S 0
def reT (w : Wd) : Cz := ⟨(· ∈ rM w), (· ∈ rC w), (· ∈ rS w)⟩
theorem rea_inv {w : Wd} (g : Good w) : RyInv w (reaM w) := runR_inv g (ry_start g)
/-- **Closed.** -/
theorem rea_clo {w : Wd} (g : Good w) : Clo w w.roots (reT w) := by
  have I := rea_inv g
  have hq := rea_empty g
  have d := fun q hq' => I.done q hq' (by rw [hq]; simp)
  refine ⟨fun x hx => ls_mem.2 (I.root x hx), fun q h _ _ x hx => ls_mem.2 ((d q (ls_mem.1 h)).1 x hx), fun q h _ _ x hx => ls_mem.2 ((d q (ls_mem.1 h)).2.1 x hx), fun q h _ _ x hx => ls_mem.2 ((d q (ls_mem.1 h)).2.2 x hx), fun c s hc hs _ _ h0 => ls_mem.2 (I.en c s (ls_mem.1 hc) (ls_mem.1 hs) h0)⟩
/-- **The least.** -/
theorem rea_least {w : Wd} (g : Good w) {T : Cz} (h : Clo w w.roots T) : (∀ x ∈ rM w, T.m x) ∧ (∀ x ∈ rC w, T.c x) ∧ ∀ x ∈ rS w, T.s x := by
  obtain ⟨a, b, c⟩ := (rea_inv g).least T h
  exact ⟨fun x hx => a x (ls_mem.1 hx), fun x hx => b x (ls_mem.1 hx), fun x hx => c x (ls_mem.1 hx)⟩
theorem rM_rng {w : Wd} (g : Good w) {x : Int} (h : x ∈ rM w) : 0 ≤ x ∧ x < w.bodies.length := by
  obtain ⟨a, b, _⟩ := ls_mem.1 h
  rw [(rea_inv g).ok.m] at b
  exact ⟨a, b⟩
theorem rC_rng {w : Wd} (g : Good w) {x : Int} (h : x ∈ rC w) : 0 ≤ x ∧ x < w.classes.length := by
  obtain ⟨a, b, _⟩ := ls_mem.1 h
  rw [(rea_inv g).ok.c] at b
  exact ⟨a, b⟩
/-- With more roots no less is reached. -/
theorem rea_mono {w v : Wd} (g : Good w) (gv : Good v) (hc : v.classes = w.classes) (hb : v.bodies = w.bodies) (hr : ∀ x ∈ w.roots, x ∈ v.roots) : (∀ x ∈ rM w, x ∈ rM v) ∧ (∀ x ∈ rC w, x ∈ rC v) ∧ ∀ x ∈ rS w, x ∈ rS v := by
  have h := rea_clo gv
  refine rea_least g (T := reT v) ⟨fun x hx => h.root x (hr x hx), fun q h1 h2 h3 x hx => h.bm q h1 h2 (by rw [hb]; exact h3) x (by unfold bdAt; rw [hb]; exact hx), fun q h1 h2 h3 x hx => h.bc q h1 h2 (by rw [hb]; exact h3) x (by unfold bdAt; rw [hb]; exact hx), fun q h1 h2 h3 x hx => h.bs q h1 h2 (by rw [hb]; exact h3) x (by unfold bdAt; rw [hb]; exact hx), fun c s h1 h2 h3 h4 h5 => ?_⟩
  have := h.en c s h1 h2 h3 (by rw [hc]; exact h4)
  unfold clAt at this h5 ⊢
  rw [hc] at this
  exact this h5
theorem nd_map_inj : ∀ {l : List Et} {a b : Et}, (l.map Et.s).Nodup → a ∈ l → b ∈ l → a.s = b.s → a = b
  | x :: l, a, b, h, ha, hb, e => by
    rw [List.map_cons, List.nodup_cons] at h
    obtain ⟨h1, h2⟩ := h
    by_cases ea : a = x
    · by_cases eb : b = x
      · rw [ea, eb]
      · have hb' : b ∈ l := (List.mem_cons.1 hb).resolve_left eb
        exact absurd (List.mem_map.2 ⟨b, hb', by rw [← e, ea]⟩) h1
    · have ha' : a ∈ l := (List.mem_cons.1 ha).resolve_left ea
      by_cases eb : b = x
      · exact absurd (List.mem_map.2 ⟨a, ha', by rw [e, eb]⟩) h1
      · exact nd_map_inj h2 ha' ((List.mem_cons.1 hb).resolve_left eb) e
/-- An entry of a class that is reached, by a selector that is. -/
theorem rea_en {w : Wd} (g : Good w) {k : Int} {e : Et} (hk : k ∈ rC w) (he : e ∈ clAt w k) (hs : e.s ∈ rS w) : e.m ∈ rM w := by
  obtain ⟨k0, k1⟩ := rC_rng g hk
  have hc := List.mem_of_getElem? (clAt_some k0 k1)
  have hm : methM (clAt w k) e.s = e.m := by
    have hnd := (clsok_of g _ hc).2
    unfold methM
    cases hf : (clAt w k).find? (·.s == e.s) with
    | none => exact absurd (beq_self_eq_true e.s) (List.find?_eq_none.1 hf e he)
    | some x =>
      have hx := List.mem_of_find?_eq_some hf
      have hxs : x.s = e.s := by simpa using List.find?_some hf
      have := nd_map_inj hnd hx he hxs
      rw [this]
  have := (rea_clo g).en k e.s hk hs k0 k1
  rw [hm] at this
  exact this (g.ent _ hc e he).2.1
end Go.Proofs.YtikppcfabnnhfaaDoor

/- The example's facts. -/
namespace Go.Proofs.YtikppcfabnnhfaaDoor
open Go Go.Aw
set_option linter.unusedSimpArgs false
set_option linter.unusedVariables false
set_option maxRecDepth 1000000
def exW : Wd := ⟨[[⟨0, 0⟩, ⟨1, 1⟩], [⟨1, 2⟩, ⟨2, 3⟩]], [⟨[], [], []⟩, ⟨[], [], []⟩, ⟨[], [], []⟩, ⟨[], [], []⟩], [0]⟩
def exC : List Et := [⟨0, 0⟩, ⟨2, 0⟩]
theorem ex_ck : ckM exW = 0 := by kernel_rfl
theorem ex_ck2 : ckM (moreW exW exC) = 0 := by kernel_rfl
theorem ex_cnt : cntM (graphW exW) 8 = 3 := by kernel_rfl
theorem ex_sz2 : szM (graphW (moreW exW exC)) 500 = 3 := by kernel_rfl
theorem ex_cc : ccW (graphW exW) [0, 1, 0] = 0 := by kernel_rfl
theorem ex_least : leastW (graphW exW) = 2 := by kernel_rfl
theorem ex_pack : packM [0, 1, 0] exW.classes ([], []) = ([⟨0, 0⟩, ⟨1, 1⟩, ⟨2, 3⟩, ⟨1, 2⟩], [0, 2]) := by kernel_rfl
theorem ex_grow : gwM (graphW (moreW exW exC)) exC [] (ms0 exW exC [0, 1, 0]) [] = some ([0, 1, 2], [2]) := by kernel_rfl
theorem ex_good : Good exW := good_of ex_ck
theorem ex_near {a b : Int} (ha : selN a) (hb : selN b) : hasW (graphW exW) (nb a) b = true ↔ a ≠ b ∧ (((a = 0 ∨ a = 1) ∧ (b = 0 ∨ b = 1)) ∨ ((a = 1 ∨ a = 2) ∧ (b = 1 ∨ b = 2))) := by
  rw [nearW ha hb (clsok_of ex_good)]
  refine and_congr_right fun _ => ?_
  simp [exW]
  omega
theorem rowI_nil {g : List Int} {a : Int} : ∀ {k : Nat} {b : Int}, (∀ x, b ≤ x → x < b + k → hasW g (nb a) x = false) → rowI g a k b = []
  | 0, _, _ => rfl
  | k + 1, b, h => by
    rw [rowI, h b (by omega) (by omega), rowI_nil (fun x h1 h2 => h x (by omega) (by omega))]
    rfl
theorem allI_nil {g : List Int} : ∀ {k : Nat} {a : Int}, (∀ x y, a ≤ x → x < y → y < a + k → hasW g (nb x) y = false) → allI g k a = []
  | 0, _, _ => rfl
  | k + 1, a, h => by
    rw [allI, rowI_nil (fun x h1 h2 => h a x (by omega) (by omega) (by omega)), allI_nil (fun x y h1 h2 h3 => h x y (by omega) h2 (by omega))]
    rfl
theorem ex_no {a b : Int} (ha : selN a) (hb : selN b) (h : ¬ (a ≠ b ∧ (((a = 0 ∨ a = 1) ∧ (b = 0 ∨ b = 1)) ∨ ((a = 1 ∨ a = 2) ∧ (b = 1 ∨ b = 2))))) : hasW (graphW exW) (nb a) b = false := by
  cases hh : hasW (graphW exW) (nb a) b with
  | false => rfl
  | true => exact absurd ((ex_near ha hb).1 hh) h
theorem ex_conf : cfM (graphW exW) = [(0, 1), (1, 2)] := by
  have e0 : hasW (graphW exW) (nb 0) 1 = true := (ex_near (by unfold selN; omega) (by unfold selN; omega)).2 (by omega)
  have e1 : hasW (graphW exW) (nb 1) 2 = true := (ex_near (by unfold selN; omega) (by unfold selN; omega)).2 (by omega)
  have no : ∀ a b : Int, 0 ≤ a → b < 500 → a < b → (a = 0 → b ≠ 1) → (a = 1 → b ≠ 2) → hasW (graphW exW) (nb a) b = false := fun a b h1 h2 h3 h4 h5 => ex_no (by unfold selN; omega) (by unfold selN; omega) (by omega)
  unfold cfM
  generalize graphW exW = g at e0 e1 no
  rw [show allI g 500 0 = rowI g 0 499 (0 + 1) ++ allI g 499 (0 + 1) from rfl, show rowI g 0 499 (0 + 1) = (if hasW g (nb 0) (0 + 1) = true then [((0 : Int), (0 : Int) + 1)] else []) ++ rowI g 0 498 (0 + 1 + 1) from rfl,
    show allI g 499 (0 + 1) = rowI g (0 + 1) 498 (0 + 1 + 1) ++ allI g 498 (0 + 1 + 1) from rfl, show rowI g (0 + 1) 498 (0 + 1 + 1) = (if hasW g (nb (0 + 1)) (0 + 1 + 1) = true then [((0 : Int) + 1, (0 : Int) + 1 + 1)] else []) ++ rowI g (0 + 1) 497 (0 + 1 + 1 + 1) from rfl]
  rw [rowI_nil (k := 498) (fun x h1 h2 => no 0 x (by omega) (by omega) (by omega) (by omega) (by omega)), rowI_nil (k := 497) (fun x h1 h2 => no (0 + 1) x (by omega) (by omega) (by omega) (by omega) (by omega)), allI_nil (fun x y h1 h2 h3 => no x y (by omega) (by omega) (by omega) (by omega) (by omega))]
  have z1 : ((0 : Int) + 1) = 1 := rfl
  have z2 : ((1 : Int) + 1) = 2 := rfl
  simp only [z1, z2, e0, e1, if_true, List.append_nil, List.cons_append, List.nil_append]
theorem ex_hasC : ∀ c ∈ exW.classes, ∀ e ∈ c, hasC [0, 1, 0] e := by
  have : ∀ c ∈ exW.classes, ∀ e ∈ c, (0 ≤ e.s ∧ e.s < 3 ∧ 0 ≤ colAt [0, 1, 0] e.s ∧ colAt [0, 1, 0] e.s < 500) := by
    unfold exW
    decide
  exact this
end Go.Proofs.YtikppcfabnnhfaaDoor

