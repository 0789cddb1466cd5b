/- Plain: tables, and the packed vector. -/
import Derived.Test.YtikppcfabnnhfaaDoorCNS13
import Derived.Test.YtikppcfabnnhfaaDoorCNC25
namespace Go.Proofs.YtikppcfabnnhfaaDoor
open Go Go.Aw
set_option linter.unusedVariables false
def cntO (v : List Et) : Nat := (v.filter fun e => decide (0 ≤ e.s)).length
theorem cnt_set : ∀ {v : List Et} {p : Nat} {x e : Et}, v[p]? = some e → e.s < 0 → 0 ≤ x.s → cntO (v.set p x) = cntO v + 1
  | [], _, _, _, h, _, _ => by cases h
  | y :: v, 0, x, e, h, h1, h2 => by
    cases h
    simp only [cntO, List.set_cons_zero, List.filter_cons, decide_eq_true h2, decide_eq_false (show ¬ 0 ≤ y.s by omega), if_true]
    rfl
  | y :: v, p + 1, x, e, h, h1, h2 => by
    have := cnt_set (v := v) (p := p) (x := x) (e := e) (by simpa using h) h1 h2
    simp only [cntO, List.set_cons_succ, List.filter_cons] at this ⊢
    split
    · simp only [List.length_cons, this]
    · exact this
theorem cnt_app {v w : List Et} : cntO (v ++ w) = cntO v + cntO w := by simp [cntO, List.filter_append]
theorem cnt_no {n : Nat} : cntO (reN n) = 0 := by
  unfold cntO reN
  rw [List.length_eq_zero_iff, List.filter_eq_nil_iff]
  intro e he
  rw [List.eq_of_mem_replicate he]
  decide
theorem noE_get {n p : Nat} {e : Et} (h : (reN n)[p]? = some e) : e = noE := List.eq_of_mem_replicate (List.mem_of_getElem? h)
/-- The colours of a class differ. -/
def injC (cs : List Int) (c : List Et) : Prop := c.Pairwise fun e f => colAt cs e.s ≠ colAt cs f.s
/-- **The table of a class.** -/
theorem tu_law {cs : List Int} : ∀ {r t m : List Et}, injC cs (m ++ r) → (∀ e ∈ m ++ r, hasC cs e ∧ (colAt cs e.s).toNat < t.length) →
    (∀ e ∈ m, t[(colAt cs e.s).toNat]? = some e) → (∀ (i : Nat) (e : Et), t[i]? = some e → 0 ≤ e.s → e ∈ m ∧ (colAt cs e.s).toNat = i) →
    (∀ e ∈ m ++ r, (tuM cs r t)[(colAt cs e.s).toNat]? = some e) ∧ (∀ (i : Nat) (e : Et), (tuM cs r t)[i]? = some e → 0 ≤ e.s → e ∈ m ++ r ∧ (colAt cs e.s).toNat = i) ∧ cntO (tuM cs r t) = cntO t + r.length
  | [], t, m, _, _, h1, h2 => by
    rw [List.append_nil]
    exact ⟨h1, h2, rfl⟩
  | x :: r, t, m, hi, hh, h1, h2 => by
    have e1 : m ++ x :: r = (m ++ [x]) ++ r := by simp
    rw [tuM]
    rw [e1] at hi hh ⊢
    have hx := hh x (by simp)
    have hne : ∀ e ∈ m, (colAt cs e.s).toNat ≠ (colAt cs x.s).toNat := fun e he hc => by
      unfold injC at hi
      rw [List.pairwise_append] at hi
      have := (List.pairwise_append.1 hi.1).2.2 e he x (by simp)
      have a := (hh e (by simp [he])).1
      unfold hasC at a hx
      omega
    obtain ⟨k1, k2, k3⟩ := tu_law (r := r) (t := t.set (colAt cs x.s).toNat x) (m := m ++ [x]) hi (fun e he => by rw [List.length_set]; exact hh e he) (fun e he => by
        rw [List.getElem?_set]
        rcases List.mem_append.1 he with he | he
        · rw [if_neg (fun h => hne e he h.symm)]
          exact h1 e he
        · rw [List.mem_singleton.1 he, if_pos rfl, if_pos hx.2]) (fun i e he h0 => by
        rw [List.getElem?_set] at he
        split at he
        · rename_i hi'
          split at he
          · cases he
            exact ⟨by simp, hi'⟩
          · cases he
        · obtain ⟨a, b⟩ := h2 i e he h0
          exact ⟨by simp [a], b⟩)
    refine ⟨k1, k2, ?_⟩
    have hlt := hx.2
    have hs : (t[(colAt cs x.s).toNat]).s < 0 := by
      rcases Int.lt_or_le (t[(colAt cs x.s).toNat]).s 0 with h | h
      · exact h
      · obtain ⟨a, b⟩ := h2 _ _ (List.getElem?_eq_getElem hlt) h
        exact absurd b (hne _ a)
    rw [k3, cnt_set (List.getElem?_eq_getElem hlt) hs hx.1.1, List.length_cons]
    omega
structure TabOk (cs : List Int) (c t : List Et) : Prop where
  hit : ∀ e ∈ c, t[(colAt cs e.s).toNat]? = some e
  inv : ∀ (i : Nat) (e : Et), t[i]? = some e → 0 ≤ e.s → e ∈ c ∧ (colAt cs e.s).toNat = i
  cnt : cntO t = c.length
theorem tab_law {cs : List Int} {c : List Et} (hi : injC cs c) (hh : ∀ e ∈ c, hasC cs e) : TabOk cs c (tblM cs c) := by
  obtain ⟨a, b, d⟩ := tsM_rng (n := 0) hh (by omega) (by omega)
  have := tu_law (cs := cs) (r := c) (t := reN (tsM cs c 0).toNat) (m := []) hi (fun e he => ⟨hh e he, by
    have := d e he
    have h2 := hh e he
    unfold hasC at h2
    simp only [reN, List.length_replicate]
    omega⟩) (by simp) (fun i e he h0 => by
    rw [noE_get he] at h0
    exact absurd h0 (by decide))
  rw [List.nil_append, cnt_no, Nat.zero_add] at this
  exact ⟨this.1, this.2.1, this.2.2⟩
/-- What is put, lies. -/
theorem put_law : ∀ {r : List Et} {p : Nat} {v : List Et}, (r = [] ∨ p + r.length ≤ v.length) → (∀ (i : Nat) (s e : Et), r[i]? = some s → 0 ≤ s.s → v[p + i]? = some e → e.s < 0) →
    (∀ (i : Nat) (s : Et), r[i]? = some s → 0 ≤ s.s → (putL r p v)[p + i]? = some s) ∧ (∀ (q : Nat), (∀ (i : Nat) (s : Et), r[i]? = some s → 0 ≤ s.s → q ≠ p + i) → (putL r p v)[q]? = v[q]?) ∧ cntO (putL r p v) = cntO v + cntO r
  | [], p, v, _, _ => by simp [putL, cntO]
  | x :: r, p, v, hl, hf => by
    have hl' : p + (r.length + 1) ≤ v.length := hl.resolve_left (by simp)
    have hp : p < v.length := by omega
    have e0 : ((p : Int)).toNat = p := by omega
    have e1 : (p : Int) + 1 = ((p + 1 : Nat) : Int) := by omega
    rw [putL, e0, e1]
    by_cases hx : 0 ≤ x.s
    · rw [if_pos hx]
      have hfree := hf 0 x v[p] rfl hx (by rw [Nat.add_zero]; exact List.getElem?_eq_getElem hp)
      obtain ⟨k1, k2, k3⟩ := put_law (r := r) (p := p + 1) (v := v.set p x) (.inr (by rw [List.length_set]; omega)) (fun i s e hs h0 he => by
        rw [List.getElem?_set, if_neg (by omega)] at he
        exact hf (i + 1) s e (by simpa using hs) h0 (by rw [show p + (i + 1) = p + 1 + i by omega]; exact he))
      refine ⟨fun i s hs h0 => ?_, fun q hq => ?_, ?_⟩
      · cases i with
        | zero =>
          cases hs
          have e := k2 p (fun i s _ _ => by omega)
          rw [List.getElem?_set, if_pos rfl, if_pos hp] at e
          exact e
        | succ i =>
          rw [show p + (i + 1) = p + 1 + i by omega]
          exact k1 i s (by simpa using hs) h0
      · have hqp : q ≠ p := by have := hq 0 x rfl hx; omega
        rw [k2 q (fun i s hs h0 => by have := hq (i + 1) s (by simpa using hs) h0; omega), List.getElem?_set, if_neg (fun h => hqp h.symm)]
      · rw [k3, cnt_set (List.getElem?_eq_getElem hp) hfree hx]
        have : cntO (x :: r) = cntO r + 1 := by simp [cntO, hx]
        omega
    · rw [if_neg hx]
      obtain ⟨k1, k2, k3⟩ := put_law (r := r) (p := p + 1) (v := v) (.inr (by omega)) (fun i s e hs h0 he => hf (i + 1) s e (by simpa using hs) h0 (by rw [show p + (i + 1) = p + 1 + i by omega]; exact he))
      refine ⟨fun i s hs h0 => ?_, fun q hq => ?_, ?_⟩
      · cases i with
        | zero => cases hs; exact absurd h0 hx
        | succ i =>
          rw [show p + (i + 1) = p + 1 + i by omega]
          exact k1 i s (by simpa using hs) h0
      · exact k2 q (fun i s hs h0 => by have := hq (i + 1) s (by simpa using hs) h0; omega)
      · rw [k3]
        have : cntO (x :: r) = cntO r := by simp [cntO, hx]
        omega
theorem fit_iff {vec : List Et} : ∀ {t : List Et} {p : Nat}, fitL vec t p = true ↔ ∀ (i : Nat) (s e : Et), t[i]? = some s → 0 ≤ s.s → vec[p + i]? = some e → e.s < 0
  | [], p => by simp [fitL]
  | x :: t, p => by
    rw [fitL, show (p : Int) + 1 = ((p + 1 : Nat) : Int) by omega]
    have ih := fit_iff (vec := vec) (t := t) (p := p + 1)
    have e0 : ((p : Int)).toNat = p := by omega
    rw [e0]
    constructor
    · intro h i s e hs h0 he
      split at h
      · cases h
      · rename_i hc
        cases i with
        | zero =>
          cases hs
          obtain ⟨hp, rfl⟩ := List.getElem?_eq_some_iff.1 he
          rw [Nat.add_zero] at hp
          have hg : vec.getD p ⟨0, 0⟩ = vec[p] := by rw [List.getD_eq_getElem?_getD, List.getElem?_eq_getElem hp]; rfl
          rw [hg] at hc
          have : ¬ 0 ≤ (vec[p]).s := fun h => hc ⟨h0, by omega, h⟩
          simp only [Nat.add_zero]
          omega
        | succ i => exact ih.1 h i s e (by simpa using hs) h0 (by rw [show p + 1 + i = p + (i + 1) by omega]; exact he)
    · intro h
      rw [if_neg, ih]
      · intro i s e hs h0 he
        exact h (i + 1) s e (by simpa using hs) h0 (by rw [show p + (i + 1) = p + 1 + i by omega]; exact he)
      · rintro ⟨h0, hp, h1⟩
        have hp' : p < vec.length := by omega
        have hg : vec.getD p ⟨0, 0⟩ = vec[p] := by rw [List.getD_eq_getElem?_getD, List.getElem?_eq_getElem hp']; rfl
        rw [hg] at h1
        have := h 0 x vec[p] rfl h0 (List.getElem?_eq_getElem hp')
        omega
theorem fAt_ok {ok : Int → Bool} : ∀ {k : Nat} {a : Int}, ok (a + k) = true → ok (fAt ok k a) = true
  | 0, a, h => by simpa [fAt] using h
  | k + 1, a, h => by
    rw [fAt]
    split
    · rename_i h; exact h
    · exact fAt_ok (by rw [show a + 1 + (k : Int) = a + ((k + 1 : Nat) : Int) by omega]; exact h)
theorem place_ok {offs : List Int} {vec t : List Et} : okA offs vec t (placeA offs vec t) = true ∧ 0 ≤ placeA offs vec t := by
  obtain ⟨h1, h2⟩ := top_fold (offs := offs) (n := vec.length)
  unfold placeA
  refine ⟨fAt_ok ?_, (fAt_rng (k := (topM offs vec).toNat) (a := 0)).1⟩
  have e : (0 : Int) + ((topM offs vec).toNat : Int) = topM offs vec := by unfold topM; omega
  rw [e, okA, Bool.and_eq_true]
  refine ⟨?_, fitL_far h1⟩
  rw [Bool.not_eq_true']
  cases hc : offs.contains (topM offs vec) with
  | false => rfl
  | true =>
    have := h2 _ (List.contains_iff_mem.1 hc)
    unfold topM at this
    omega
end Go.Proofs.YtikppcfabnnhfaaDoor
