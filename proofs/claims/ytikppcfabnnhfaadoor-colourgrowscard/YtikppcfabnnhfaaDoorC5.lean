/- ColourGrows: what Grow returns are colours of the greater world; a selector that had a colour and is not among the changed ones has it still, a changed one is one of the class; a class that the world has already changes nothing; for worlds and up to 20 entries as the statement's guard lets them in. The package's table math/bits.deBruijn64tab is as the program's text lays it. -/
import Derived.Test.YtikppcfabnnhfaaDoorC4
/- Plain: Colours are colours. -/
namespace Go.Proofs.YtikppcfabnnhfaaDoor
open Go Go.Aw
set_option linter.unusedVariables false
/-- Colours of the first n selectors fit. -/
def fitsN (g : List Int) (n : Nat) (cs : List Int) : Prop :=
  (∀ i : Nat, i < n → i < cs.length → (hasW g 0 i = true → 0 ≤ cs.getD i 0) ∧ (hasW g 0 i = false → cs.getD i 0 = -1)) ∧
  ∀ i j : Nat, i < n → j < n → i < cs.length → j < cs.length → 0 ≤ cs.getD i 0 → cs.getD i 0 = cs.getD j 0 → ¬ confG g i j
theorem set_get {cs : List Int} {n i : Nat} {v : Int} (h : n < cs.length) : (cs.set n v).getD i 0 = if i = n then v else cs.getD i 0 := by
  rw [List.getD_eq_getElem?_getD, List.getElem?_set]
  by_cases e : n = i
  · subst e; rw [if_pos rfl, if_pos h, if_pos rfl]; rfl
  · rw [if_neg e, if_neg (fun h => e h.symm), ← List.getD_eq_getElem?_getD]
theorem colI_fits {g : List Int} (hg : GrOk g) : ∀ {k n : Nat} {cs : List Int}, n + k = cs.length → cs.length ≤ 500 → colOk n cs → fitsN g n cs → fitsN g cs.length (colI g k n cs) ∧ colOk cs.length (colI g k n cs)
  | 0, n, cs, h, hl, h1, h2 => by
    have : n = cs.length := by omega
    subst this
    exact ⟨h2, h1⟩
  | k + 1, n, cs, h, hl, h1, h2 => by
    have hs := colOk_set (g := g) h1 hl
    have hb := least_le (g := g) h1 hl
    rw [colI]
    by_cases c : hasW g 0 n = true
    · rw [if_pos c] at hs ⊢
      have tk := takenW (g := g) (cs := cs) (s := n) (m := leastL (takW g n cs) 0) ⟨hb.1, by omega⟩ (fun c hc => by have := colOk_bd h1 hl c hc; omega)
      have lo := (least_ok (takW_r (g := g) (cs := cs) (s := n)) takW_len).2.2 (by omega)
      generalize leastL (takW g n cs) 0 = v at hs hb tk lo ⊢
      have no : ∀ i : Nat, i < cs.length → cs.getD i 0 = v → ¬ confG g n i := fun i hi he hc => by
        have := tk.2 ⟨i, hi, by rw [← get_D hi]; exact he, hc⟩
        rw [lo] at this; cases this
      have sn : selN (n : Int) := ⟨by omega, by omega⟩
      have := colI_fits hg (k := k) (n := n + 1) (cs := cs.set n v) (by rw [List.length_set]; omega) (by rw [List.length_set]; omega) hs ⟨fun i hi hil => ?_, fun i j hi hj hil hjl h0 he hc => ?_⟩
      · rwa [List.length_set] at this
      · rw [set_get (by omega)]
        split
        · rename_i e; subst e
          exact ⟨fun _ => hb.1, fun hf => (by rw [c] at hf; cases hf)⟩
        · exact h2.1 i (by omega) (by rwa [List.length_set] at hil)
      · rw [List.length_set] at hil hjl
        rw [set_get (by omega)] at h0
        rw [set_get (by omega), set_get (by omega)] at he
        by_cases e1 : i = n
        · subst e1
          rw [if_pos rfl] at he h0
          by_cases e2 : j = i
          · subst e2; exact hg.irr _ sn hc
          · rw [if_neg e2] at he
            exact no j hjl he.symm hc
        · rw [if_neg e1] at he h0
          by_cases e2 : j = n
          · subst e2
            rw [if_pos rfl] at he
            exact no i hil he (hg.sym _ _ ⟨by omega, by omega⟩ sn hc)
          · rw [if_neg e2] at he
            exact h2.2 i j (by omega) (by omega) hil hjl h0 he hc
    · have c' : hasW g 0 n = false := by simpa using c
      rw [if_neg c] at hs ⊢
      refine colI_fits hg (k := k) (n := n + 1) (cs := cs) (by omega) hl hs ⟨fun i hi hil => ?_, fun i j hi hj hil hjl h0 he hc => ?_⟩
      · by_cases e : i = n
        · subst e
          exact ⟨fun hf => (by rw [c'] at hf; cases hf), fun _ => h1.2 i (Nat.le_refl _) hil⟩
        · exact h2.1 i (by omega) hil
      · have e1 : i ≠ n := fun e => by subst e; rw [h1.2 i (Nat.le_refl _) hil] at h0; omega
        have e2 : j ≠ n := fun e => by subst e; rw [he, h1.2 j (Nat.le_refl _) hjl] at h0; omega
        exact h2.2 i j (by omega) (by omega) hil hjl h0 he hc
theorem colsM_len {g : List Int} : (colsM g).length = szM g 500 := by rw [colsM, colI_len, ms_len]
theorem colsM_fits {g : List Int} (hg : GrOk g) : fitsN g (colsM g).length (colsM g) ∧ colOk (colsM g).length (colsM g) := by
  have hz := szM_le g 500
  have h := colI_fits hg (k := szM g 500) (n := 0) (cs := ms (szM g 500)) (by rw [ms_len]; omega) (by rw [ms_len]; omega) colOk_ms ⟨fun i h => by omega, fun i j h => by omega⟩
  rw [ms_len] at h
  rwa [colsM_len]
end Go.Proofs.YtikppcfabnnhfaaDoor

/- Plain: what CheckColours takes. -/
namespace Go.Proofs.YtikppcfabnnhfaaDoor
open Go Go.Aw
set_option linter.unusedVariables false
/-- Colours of a graph. -/
structure ColsOk (g cs : List Int) : Prop where
  len : cs.length = szM g 500
  bd : ∀ c ∈ cs, -1 ≤ c ∧ c < 500
  kn : ∀ i : Nat, i < cs.length → (hasW g 0 i = true → 0 ≤ cs.getD i 0)
  un : ∀ i : Nat, i < cs.length → (hasW g 0 i = false → cs.getD i 0 = -1)
  no : ∀ i j : Nat, i < cs.length → j < cs.length → 0 ≤ cs.getD i 0 → cs.getD i 0 = cs.getD j 0 → ¬ confG g i j
theorem bad_iff {g : List Int} {n c : Int} : badC g n c = false ↔ (-1 ≤ c ∧ c < 500) ∧ (hasW g 0 n = true → 0 ≤ c) ∧ (hasW g 0 n = false → c = -1) := by
  unfold badC
  rw [Bool.or_eq_false_iff, Bool.or_eq_false_iff, decide_eq_false_iff_not, decide_eq_false_iff_not]
  by_cases hc : c = -1
  · subst hc
    cases h : hasW g 0 n
    · exact ⟨fun _ => ⟨⟨by omega, by omega⟩, fun h => (by cases h), fun _ => rfl⟩, fun _ => ⟨⟨rfl, by omega⟩, by omega⟩⟩
    · exact ⟨fun h => (by have := h.1.1; cases this), fun h => by have := h.2.1 rfl; omega⟩
  · have e : (c == -1) = false := beq_eq_false_iff_ne.2 hc
    rw [e]
    cases h : hasW g 0 n
    · exact ⟨fun h => (by have := h.1.1; cases this), fun h => absurd (h.2.2 rfl) hc⟩
    · exact ⟨fun h => ⟨⟨by omega, by omega⟩, fun _ => by omega, fun h => (by cases h)⟩, fun h => ⟨⟨rfl, by omega⟩, by omega⟩⟩
theorem anyB_iff {g : List Int} : ∀ {r : List Int} {n : Int}, anyB g r n = false ↔ ∀ i : Nat, i < r.length → badC g (n + i) (r.getD i 0) = false
  | [], n => by simp [anyB]
  | c :: r, n => by
    rw [anyB, Bool.or_eq_false_iff, anyB_iff]
    constructor
    · rintro ⟨h1, h2⟩ i hi
      cases i with
      | zero => simpa using h1
      | succ i =>
        have := h2 i (by simpa using hi)
        rw [show n + ((i + 1 : Nat) : Int) = n + 1 + i by omega]
        simpa using this
    · intro h
      refine ⟨by simpa using h 0 (by simp), fun i hi => ?_⟩
      have := h (i + 1) (by simpa using hi)
      rw [show n + ((i + 1 : Nat) : Int) = n + 1 + i by omega] at this
      simpa using this
theorem clash_iff {g cs : List Int} : ∀ {r : List Int} {n : Int}, clash g cs r n = false ↔ ∀ i : Nat, i < r.length → 0 ≤ r.getD i 0 → hasW (takW g (n + i) cs) 0 (r.getD i 0) = false
  | [], n => by simp [clash]
  | c :: r, n => by
    rw [clash, Bool.or_eq_false_iff, clash_iff, Bool.and_eq_false_imp]
    constructor
    · rintro ⟨h1, h2⟩ i hi h0
      cases i with
      | zero =>
        have := h1 (by simpa using h0)
        simpa using this
      | succ i =>
        have := h2 i (by simpa using hi) (by simpa using h0)
        rw [show n + ((i + 1 : Nat) : Int) = n + 1 + i by omega]
        simpa using this
    · intro h
      refine ⟨fun h0 => by have := h 0 (by simp) (by simpa using h0); simpa using this, fun i hi h0 => ?_⟩
      have := h (i + 1) (by simpa using hi) (by simpa using h0)
      rw [show n + ((i + 1 : Nat) : Int) = n + 1 + i by omega] at this
      simpa using this
theorem getD_mem {l : List Int} {i : Nat} (h : i < l.length) : l.getD i 0 ∈ l := by
  rw [get_D h]; exact List.getElem_mem _
/-- **What CheckColours takes.** -/
theorem cc_iff {g cs : List Int} : ccW g cs = 0 ↔ ColsOk g cs := by
  have hz := szM_le g 500
  unfold ccW
  constructor
  · intro h
    split at h
    case isFalse => cases h
    rename_i h1
    split at h
    · cases h
    rename_i h2
    split at h
    · cases h
    rename_i h3
    have a := anyB_iff.1 (show anyB g cs 0 = false by simpa using h2)
    have b := clash_iff.1 (show clash g cs cs 0 = false by simpa using h3)
    have a' := fun i hi => bad_iff.1 (a i hi)
    simp only [Int.zero_add] at a' b
    have bd : ∀ c ∈ cs, -1 ≤ c ∧ c < 500 := fun c hc => by
      obtain ⟨i, hi, rfl⟩ := List.mem_iff_getElem.1 hc
      rw [← get_D hi]
      exact (a' i hi).1
    refine ⟨h1, bd, fun i hi => (a' i hi).2.1, fun i hi => (a' i hi).2.2, fun i j hi hj h0 he hc => ?_⟩
    have := (takenW (g := g) (cs := cs) (s := i) (m := cs.getD i 0) ⟨h0, by have := bd _ (getD_mem hi); omega⟩ (fun c hc => by have := bd c hc; omega)).2 ⟨j, hj, by rw [← get_D hj]; exact he.symm, hc⟩
    rw [b i hi h0] at this
    cases this
  · intro h
    rw [if_pos h.len, if_neg, if_neg]
    · intro hc
      refine absurd (clash_iff.2 fun i hi h0 => ?_) (by rw [hc]; simp)
      cases hh : hasW (takW g (0 + i) cs) 0 (cs.getD i 0) with
      | false => rfl
      | true =>
        rw [Int.zero_add] at hh
        obtain ⟨j, hj, e, hc⟩ := (takenW (g := g) (cs := cs) (s := i) (m := cs.getD i 0) ⟨h0, by have := h.bd _ (getD_mem hi); omega⟩ (fun c hc => by have := h.bd c hc; omega)).1 hh
        exact absurd hc (h.no i j hi hj h0 (by rw [get_D hj]; exact e.symm))
    · intro hc
      refine absurd (anyB_iff.2 fun i hi => bad_iff.2 ⟨h.bd _ (getD_mem hi), ?_, ?_⟩) (by rw [hc]; simp)
      · rw [Int.zero_add]; exact h.kn i hi
      · rw [Int.zero_add]; exact h.un i hi
/-- **Colours are colours.** -/
theorem cols_ok {g : List Int} (hg : GrOk g) : ColsOk g (colsM g) := by
  obtain ⟨⟨a, b⟩, c⟩ := colsM_fits hg
  have hz := szM_le g 500
  exact ⟨colsM_len, colOk_bd c (by rw [colsM_len]; exact hz), fun i hi => (a i hi hi).1, fun i hi => (a i hi hi).2, fun i j hi hj => b i j hi hj hi hj⟩
end Go.Proofs.YtikppcfabnnhfaaDoor

/- Plain: tables, and the packed vector. -/
namespace Go.Proofs.YtikppcfabnnhfaaDoor
open Go Go.Aw
set_option linter.unusedVariables false
def cntO (v : List Et) : Nat := (v.filter fun e => decide (0 ≤ e.s)).length
theorem cnt_set : ∀ {v : List Et} {p : Nat} {x e : Et}, v[p]? = some e → e.s < 0 → 0 ≤ x.s → cntO (v.set p x) = cntO v + 1
  | [], _, _, _, h, _, _ => by cases h
  | y :: v, 0, x, e, h, h1, h2 => by
    cases h
    simp only [cntO, List.set_cons_zero, List.filter_cons, decide_eq_true h2, decide_eq_false (show ¬ 0 ≤ y.s by omega), if_true]
    rfl
  | y :: v, p + 1, x, e, h, h1, h2 => by
    have := cnt_set (v := v) (p := p) (x := x) (e := e) (by simpa using h) h1 h2
    simp only [cntO, List.set_cons_succ, List.filter_cons] at this ⊢
    split
    · simp only [List.length_cons, this]
    · exact this
theorem cnt_app {v w : List Et} : cntO (v ++ w) = cntO v + cntO w := by simp [cntO, List.filter_append]
theorem cnt_no {n : Nat} : cntO (reN n) = 0 := by
  unfold cntO reN
  rw [List.length_eq_zero_iff, List.filter_eq_nil_iff]
  intro e he
  rw [List.eq_of_mem_replicate he]
  decide
theorem noE_get {n p : Nat} {e : Et} (h : (reN n)[p]? = some e) : e = noE := List.eq_of_mem_replicate (List.mem_of_getElem? h)
/-- The colours of a class differ. -/
def injC (cs : List Int) (c : List Et) : Prop := c.Pairwise fun e f => colAt cs e.s ≠ colAt cs f.s
/-- **The table of a class.** -/
theorem tu_law {cs : List Int} : ∀ {r t m : List Et}, injC cs (m ++ r) → (∀ e ∈ m ++ r, hasC cs e ∧ (colAt cs e.s).toNat < t.length) →
    (∀ e ∈ m, t[(colAt cs e.s).toNat]? = some e) → (∀ (i : Nat) (e : Et), t[i]? = some e → 0 ≤ e.s → e ∈ m ∧ (colAt cs e.s).toNat = i) →
    (∀ e ∈ m ++ r, (tuM cs r t)[(colAt cs e.s).toNat]? = some e) ∧ (∀ (i : Nat) (e : Et), (tuM cs r t)[i]? = some e → 0 ≤ e.s → e ∈ m ++ r ∧ (colAt cs e.s).toNat = i) ∧ cntO (tuM cs r t) = cntO t + r.length
  | [], t, m, _, _, h1, h2 => by
    rw [List.append_nil]
    exact ⟨h1, h2, rfl⟩
  | x :: r, t, m, hi, hh, h1, h2 => by
    have e1 : m ++ x :: r = (m ++ [x]) ++ r := by simp
    rw [tuM]
    rw [e1] at hi hh ⊢
    have hx := hh x (by simp)
    have hne : ∀ e ∈ m, (colAt cs e.s).toNat ≠ (colAt cs x.s).toNat := fun e he hc => by
      unfold injC at hi
      rw [List.pairwise_append] at hi
      have := (List.pairwise_append.1 hi.1).2.2 e he x (by simp)
      have a := (hh e (by simp [he])).1
      unfold hasC at a hx
      omega
    obtain ⟨k1, k2, k3⟩ := tu_law (r := r) (t := t.set (colAt cs x.s).toNat x) (m := m ++ [x]) hi (fun e he => by rw [List.length_set]; exact hh e he) (fun e he => by
        rw [List.getElem?_set]
        rcases List.mem_append.1 he with he | he
        · rw [if_neg (fun h => hne e he h.symm)]
          exact h1 e he
        · rw [List.mem_singleton.1 he, if_pos rfl, if_pos hx.2]) (fun i e he h0 => by
        rw [List.getElem?_set] at he
        split at he
        · rename_i hi'
          split at he
          · cases he
            exact ⟨by simp, hi'⟩
          · cases he
        · obtain ⟨a, b⟩ := h2 i e he h0
          exact ⟨by simp [a], b⟩)
    refine ⟨k1, k2, ?_⟩
    have hlt := hx.2
    have hs : (t[(colAt cs x.s).toNat]).s < 0 := by
      rcases Int.lt_or_le (t[(colAt cs x.s).toNat]).s 0 with h | h
      · exact h
      · obtain ⟨a, b⟩ := h2 _ _ (List.getElem?_eq_getElem hlt) h
        exact absurd b (hne _ a)
    rw [k3, cnt_set (List.getElem?_eq_getElem hlt) hs hx.1.1, List.length_cons]
    omega
structure TabOk (cs : List Int) (c t : List Et) : Prop where
  hit : ∀ e ∈ c, t[(colAt cs e.s).toNat]? = some e
  inv : ∀ (i : Nat) (e : Et), t[i]? = some e → 0 ≤ e.s → e ∈ c ∧ (colAt cs e.s).toNat = i
  cnt : cntO t = c.length
theorem tab_law {cs : List Int} {c : List Et} (hi : injC cs c) (hh : ∀ e ∈ c, hasC cs e) : TabOk cs c (tblM cs c) := by
  obtain ⟨a, b, d⟩ := tsM_rng (n := 0) hh (by omega) (by omega)
  have := tu_law (cs := cs) (r := c) (t := reN (tsM cs c 0).toNat) (m := []) hi (fun e he => ⟨hh e he, by
    have := d e he
    have h2 := hh e he
    unfold hasC at h2
    simp only [reN, List.length_replicate]
    omega⟩) (by simp) (fun i e he h0 => by
    rw [noE_get he] at h0
    exact absurd h0 (by decide))
  rw [List.nil_append, cnt_no, Nat.zero_add] at this
  exact ⟨this.1, this.2.1, this.2.2⟩
/-- What is put, lies. -/
theorem put_law : ∀ {r : List Et} {p : Nat} {v : List Et}, (r = [] ∨ p + r.length ≤ v.length) → (∀ (i : Nat) (s e : Et), r[i]? = some s → 0 ≤ s.s → v[p + i]? = some e → e.s < 0) →
    (∀ (i : Nat) (s : Et), r[i]? = some s → 0 ≤ s.s → (putL r p v)[p + i]? = some s) ∧ (∀ (q : Nat), (∀ (i : Nat) (s : Et), r[i]? = some s → 0 ≤ s.s → q ≠ p + i) → (putL r p v)[q]? = v[q]?) ∧ cntO (putL r p v) = cntO v + cntO r
  | [], p, v, _, _ => by simp [putL, cntO]
  | x :: r, p, v, hl, hf => by
    have hl' : p + (r.length + 1) ≤ v.length := hl.resolve_left (by simp)
    have hp : p < v.length := by omega
    have e0 : ((p : Int)).toNat = p := by omega
    have e1 : (p : Int) + 1 = ((p + 1 : Nat) : Int) := by omega
    rw [putL, e0, e1]
    by_cases hx : 0 ≤ x.s
    · rw [if_pos hx]
      have hfree := hf 0 x v[p] rfl hx (by rw [Nat.add_zero]; exact List.getElem?_eq_getElem hp)
      obtain ⟨k1, k2, k3⟩ := put_law (r := r) (p := p + 1) (v := v.set p x) (.inr (by rw [List.length_set]; omega)) (fun i s e hs h0 he => by
        rw [List.getElem?_set, if_neg (by omega)] at he
        exact hf (i + 1) s e (by simpa using hs) h0 (by rw [show p + (i + 1) = p + 1 + i by omega]; exact he))
      refine ⟨fun i s hs h0 => ?_, fun q hq => ?_, ?_⟩
      · cases i with
        | zero =>
          cases hs
          have e := k2 p (fun i s _ _ => by omega)
          rw [List.getElem?_set, if_pos rfl, if_pos hp] at e
          exact e
        | succ i =>
          rw [show p + (i + 1) = p + 1 + i by omega]
          exact k1 i s (by simpa using hs) h0
      · have hqp : q ≠ p := by have := hq 0 x rfl hx; omega
        rw [k2 q (fun i s hs h0 => by have := hq (i + 1) s (by simpa using hs) h0; omega), List.getElem?_set, if_neg (fun h => hqp h.symm)]
      · rw [k3, cnt_set (List.getElem?_eq_getElem hp) hfree hx]
        have : cntO (x :: r) = cntO r + 1 := by simp [cntO, hx]
        omega
    · rw [if_neg hx]
      obtain ⟨k1, k2, k3⟩ := put_law (r := r) (p := p + 1) (v := v) (.inr (by omega)) (fun i s e hs h0 he => hf (i + 1) s e (by simpa using hs) h0 (by rw [show p + (i + 1) = p + 1 + i by omega]; exact he))
      refine ⟨fun i s hs h0 => ?_, fun q hq => ?_, ?_⟩
      · cases i with
        | zero => cases hs; exact absurd h0 hx
        | succ i =>
          rw [show p + (i + 1) = p + 1 + i by omega]
          exact k1 i s (by simpa using hs) h0
      · exact k2 q (fun i s hs h0 => by have := hq (i + 1) s (by simpa using hs) h0; omega)
      · rw [k3]
        have : cntO (x :: r) = cntO r := by simp [cntO, hx]
        omega
theorem fit_iff {vec : List Et} : ∀ {t : List Et} {p : Nat}, fitL vec t p = true ↔ ∀ (i : Nat) (s e : Et), t[i]? = some s → 0 ≤ s.s → vec[p + i]? = some e → e.s < 0
  | [], p => by simp [fitL]
  | x :: t, p => by
    rw [fitL, show (p : Int) + 1 = ((p + 1 : Nat) : Int) by omega]
    have ih := fit_iff (vec := vec) (t := t) (p := p + 1)
    have e0 : ((p : Int)).toNat = p := by omega
    rw [e0]
    constructor
    · intro h i s e hs h0 he
      split at h
      · cases h
      · rename_i hc
        cases i with
        | zero =>
          cases hs
          obtain ⟨hp, rfl⟩ := List.getElem?_eq_some_iff.1 he
          rw [Nat.add_zero] at hp
          have hg : vec.getD p ⟨0, 0⟩ = vec[p] := by rw [List.getD_eq_getElem?_getD, List.getElem?_eq_getElem hp]; rfl
          rw [hg] at hc
          have : ¬ 0 ≤ (vec[p]).s := fun h => hc ⟨h0, by omega, h⟩
          simp only [Nat.add_zero]
          omega
        | succ i => exact ih.1 h i s e (by simpa using hs) h0 (by rw [show p + 1 + i = p + (i + 1) by omega]; exact he)
    · intro h
      rw [if_neg, ih]
      · intro i s e hs h0 he
        exact h (i + 1) s e (by simpa using hs) h0 (by rw [show p + (i + 1) = p + 1 + i by omega]; exact he)
      · rintro ⟨h0, hp, h1⟩
        have hp' : p < vec.length := by omega
        have hg : vec.getD p ⟨0, 0⟩ = vec[p] := by rw [List.getD_eq_getElem?_getD, List.getElem?_eq_getElem hp']; rfl
        rw [hg] at h1
        have := h 0 x vec[p] rfl h0 (List.getElem?_eq_getElem hp')
        omega
theorem fAt_ok {ok : Int → Bool} : ∀ {k : Nat} {a : Int}, ok (a + k) = true → ok (fAt ok k a) = true
  | 0, a, h => by simpa [fAt] using h
  | k + 1, a, h => by
    rw [fAt]
    split
    · rename_i h; exact h
    · exact fAt_ok (by rw [show a + 1 + (k : Int) = a + ((k + 1 : Nat) : Int) by omega]; exact h)
theorem place_ok {offs : List Int} {vec t : List Et} : okA offs vec t (placeA offs vec t) = true ∧ 0 ≤ placeA offs vec t := by
  obtain ⟨h1, h2⟩ := top_fold (offs := offs) (n := vec.length)
  unfold placeA
  refine ⟨fAt_ok ?_, (fAt_rng (k := (topM offs vec).toNat) (a := 0)).1⟩
  have e : (0 : Int) + ((topM offs vec).toNat : Int) = topM offs vec := by unfold topM; omega
  rw [e, okA, Bool.and_eq_true]
  refine ⟨?_, fitL_far h1⟩
  rw [Bool.not_eq_true']
  cases hc : offs.contains (topM offs vec) with
  | false => rfl
  | true =>
    have := h2 _ (List.contains_iff_mem.1 hc)
    unfold topM at this
    omega
end Go.Proofs.YtikppcfabnnhfaaDoor

/- Plain: the packed vector answers as the classes do. -/
namespace Go.Proofs.YtikppcfabnnhfaaDoor
open Go Go.Aw
set_option linter.unusedVariables false
def sumL : List (List Et) → Nat
  | [] => 0
  | c :: r => c.length + sumL r
theorem sumL_app : ∀ {a b : List (List Et)}, sumL (a ++ b) = sumL a + sumL b
  | [], b => by simp [sumL]
  | c :: a, b => by rw [List.cons_append, sumL, sumL, sumL_app]; omega
/-- Of classes that lie in a vector. -/
theorem nd_inj : ∀ {l : List Int} {i j : Nat} {x : Int}, l.Nodup → l[i]? = some x → l[j]? = some x → i = j
  | y :: l, 0, 0, x, _, _, _ => rfl
  | y :: l, 0, j + 1, x, h, h1, h2 => by
    cases h1
    exact absurd (List.mem_of_getElem? (by simpa using h2)) (List.nodup_cons.1 h).1
  | y :: l, i + 1, 0, x, h, h1, h2 => by
    cases h2
    exact absurd (List.mem_of_getElem? (by simpa using h1)) (List.nodup_cons.1 h).1
  | y :: l, i + 1, j + 1, x, h, h1, h2 => congrArg (· + 1) (nd_inj (List.nodup_cons.1 h).2 (by simpa using h1) (by simpa using h2))
structure PkOk (cs : List Int) (d : List (List Et)) (v : List Et) (o : List Int) : Prop where
  len : o.length = d.length
  nd : o.Nodup
  nn : ∀ x ∈ o, 0 ≤ x
  sel : ∀ c ∈ d, ∀ e ∈ c, 0 ≤ e.s
  hit : ∀ (k : Nat) (c : List Et) (x : Int) (e : Et), d[k]? = some c → o[k]? = some x → e ∈ c → v[x.toNat + (colAt cs e.s).toNat]? = some e
  inv : ∀ (p : Nat) (e : Et), v[p]? = some e → 0 ≤ e.s → ∃ (k : Nat) (c : List Et) (x : Int), d[k]? = some c ∧ o[k]? = some x ∧ e ∈ c ∧ p = x.toNat + (colAt cs e.s).toNat
  cnt : cntO v = sumL d
theorem grow_get {vec t : List Et} {a : Int} {p : Nat} {e : Et} (h : (growM vec t a)[p]? = some e) : vec[p]? = some e ∨ (vec.length ≤ p ∧ e = noE) := by
  unfold growM at h
  split at h
  · rw [List.getElem?_append] at h
    split at h
    · exact .inl h
    · exact .inr ⟨by omega, noE_get h⟩
  · exact .inl h
theorem grow_old {vec t : List Et} {a : Int} {p : Nat} {e : Et} (h : vec[p]? = some e) : (growM vec t a)[p]? = some e := by
  unfold growM
  split
  · rw [List.getElem?_append, if_pos (List.getElem?_eq_some_iff.1 h).1]; exact h
  · exact h
theorem grow_cnt {vec t : List Et} {a : Int} : cntO (growM vec t a) = cntO vec := by
  unfold growM
  split
  · rw [cnt_app, cnt_no, Nat.add_zero]
  · rfl
theorem pk_step {cs : List Int} {d : List (List Et)} {v : List Et} {o : List Int} {c : List Et} (h : PkOk cs d v o) (hi : injC cs c) (hh : ∀ e ∈ c, hasC cs e) :
    PkOk cs (d ++ [c]) (putL (tblM cs c) (placeA o v (tblM cs c)) (growM v (tblM cs c) (placeA o v (tblM cs c)))) (o ++ [placeA o v (tblM cs c)]) := by
  have T := tab_law hi hh
  generalize tblM cs c = t at T ⊢
  obtain ⟨p1, p2⟩ := place_ok (offs := o) (vec := v) (t := t)
  generalize placeA o v t = a at p1 p2 ⊢
  obtain ⟨n, rfl⟩ : ∃ n : Nat, a = n := ⟨a.toNat, by omega⟩
  rw [okA, Bool.and_eq_true, Bool.not_eq_true'] at p1
  have hno : (n : Int) ∉ o := fun hm => by
    have := List.contains_iff_mem.2 hm
    rw [p1.1] at this; cases this
  have hfit := fit_iff.1 p1.2
  obtain ⟨g1, g2, g3⟩ := growM_len (vec := v) (t := t) (a := (n : Int)) (by omega)
  obtain ⟨k1, k2, k3⟩ := put_law (r := t) (p := n) (v := growM v t n) (g2.imp id fun h => by omega) (fun i s e hs h0 he => by
    rcases grow_get he with he | ⟨_, rfl⟩
    · exact hfit i s e hs h0 he
    · decide)
  have free : ∀ (q : Nat) (e : Et), v[q]? = some e → 0 ≤ e.s → ∀ (i : Nat) (s : Et), t[i]? = some s → 0 ≤ s.s → q ≠ n + i := fun q e he h0 i s hs hs0 hq => by
    have := hfit i s e hs hs0 (by rw [← hq]; exact he)
    omega
  have hod : ∀ {k : Nat} {c' : List Et} {x : Int}, (d ++ [c])[k]? = some c' → (o ++ [(n : Int)])[k]? = some x → (d[k]? = some c' ∧ o[k]? = some x) ∨ (c' = c ∧ x = n) := fun {k c' x} h1 h2 => by
    rw [List.getElem?_append] at h1 h2
    by_cases hk : k < d.length
    · rw [if_pos hk] at h1
      rw [if_pos (by rw [h.len]; exact hk)] at h2
      exact .inl ⟨h1, h2⟩
    · rw [if_neg hk] at h1
      rw [if_neg (by rw [h.len]; exact hk), h.len] at h2
      have : k - d.length = 0 := by
        have := (List.getElem?_eq_some_iff.1 h1).1
        simp at this
        omega
      rw [this] at h1 h2
      cases h1; cases h2
      exact .inr ⟨rfl, rfl⟩
  refine ⟨by simp [h.len], ?_, fun x hx => ?_, fun c' hc' e he => ?_, fun k c' x e h1 h2 he => ?_, fun p e hp h0 => ?_, ?_⟩
  · rw [List.nodup_append]
    refine ⟨h.nd, by simp, fun x hx y hy => ?_⟩
    rw [List.mem_singleton.1 hy]
    exact fun e => hno (e ▸ hx)
  · rcases List.mem_append.1 hx with hx | hx
    · exact h.nn x hx
    · rw [List.mem_singleton.1 hx]; omega
  · rcases List.mem_append.1 hc' with hc' | hc'
    · exact h.sel c' hc' e he
    · rw [List.mem_singleton.1 hc'] at he
      exact (hh e he).1
  · rcases hod h1 h2 with ⟨h1, h2⟩ | ⟨rfl, rfl⟩
    · have hv := h.hit k c' x e h1 h2 he
      obtain ⟨_, hlt⟩ := List.getElem?_eq_some_iff.1 hv
      have he0 : 0 ≤ e.s := h.sel c' (List.mem_of_getElem? h1) e he
      rw [k2 _ (fun i s hs hs0 => free _ e hv he0 i s hs hs0)]
      exact grow_old hv
    · rw [show ((n : Int)).toNat = n by omega]
      exact k1 _ e (T.hit e he) (hh e he).1
  · by_cases hq : ∃ (i : Nat) (s : Et), t[i]? = some s ∧ 0 ≤ s.s ∧ p = n + i
    · obtain ⟨i, s, hs, hs0, rfl⟩ := hq
      rw [k1 i s hs hs0] at hp
      cases hp
      obtain ⟨a1, a2⟩ := T.inv i _ hs hs0
      refine ⟨d.length, c, n, by simp, by rw [← h.len]; simp, a1, ?_⟩
      rw [a2]; omega
    · rw [k2 p (fun i s hs hs0 e => hq ⟨i, s, hs, hs0, e⟩)] at hp
      rcases grow_get hp with hp | ⟨_, rfl⟩
      · obtain ⟨k, c', x, b1, b2, b3, b4⟩ := h.inv p e hp h0
        refine ⟨k, c', x, ?_, ?_, b3, b4⟩
        · rw [List.getElem?_append, if_pos (List.getElem?_eq_some_iff.1 b1).1]; exact b1
        · rw [List.getElem?_append, if_pos (List.getElem?_eq_some_iff.1 b2).1]; exact b2
      · exact absurd h0 (by decide)
  · rw [k3, grow_cnt, h.cnt, T.cnt, sumL_app]
    simp [sumL]
theorem pk_all {cs : List Int} : ∀ {r d : List (List Et)} {v : List Et} {o : List Int}, PkOk cs d v o → (∀ c ∈ r, injC cs c ∧ ∀ e ∈ c, hasC cs e) → PkOk cs (d ++ r) (packM cs r (v, o)).1 (packM cs r (v, o)).2
  | [], d, v, o, h, _ => by rw [List.append_nil]; exact h
  | c :: r, d, v, o, h, hr => by
    have := pk_all (r := r) (pk_step h (hr c (by simp)).1 (hr c (by simp)).2) (fun c' hc' => hr c' (by simp [hc']))
    rw [List.append_assoc] at this
    exact this
theorem pk_nil {cs : List Int} : PkOk cs [] [] [] := ⟨rfl, List.nodup_nil, by simp, by simp, by simp, by simp, rfl⟩
/-- Two selectors of a class have two colours. -/
theorem inj_of {w : Wd} {cs : List Int} (g : Good w) (h : ColsOk (graphW w) cs) {c : List Et} (hc : c ∈ w.classes) : injC cs c ∧ ∀ e ∈ c, hasC cs e := by
  have hk := clsok_of g
  have hz := szM_le (graphW w) 500
  have has : ∀ e ∈ c, hasC cs e := fun e he => by
    obtain ⟨s1, s2⟩ := (hk c hc).1 e he
    have kn : hasW (graphW w) 0 e.s = true := (knownW ⟨s1, s2⟩ hk).2 ⟨c, hc, List.mem_map.2 ⟨e, he, rfl⟩⟩
    have hlt := szM_lt (g := graphW w) (n := 500) (m := e.s.toNat) (by rw [show ((e.s.toNat : Nat) : Int) = e.s by omega]; exact kn) (by omega)
    rw [← h.len] at hlt
    have h0 := h.kn e.s.toNat hlt (by rw [show ((e.s.toNat : Nat) : Int) = e.s by omega]; exact kn)
    have hb := h.bd _ (getD_mem hlt)
    exact ⟨s1, by omega, h0, hb.2⟩
  refine ⟨?_, has⟩
  have hp := g.asc c hc
  rw [List.pairwise_map] at hp
  refine hp.imp_of_mem fun {a b} ha hb hab he => ?_
  have a1 := has a ha
  have b1 := has b hb
  unfold hasC at a1 b1
  have := h.no a.s.toNat b.s.toNat (by omega) (by omega) a1.2.2.1 he
  rw [show ((a.s.toNat : Nat) : Int) = a.s by omega, show ((b.s.toNat : Nat) : Int) = b.s by omega] at this
  exact this ((nearW ((hk c hc).1 a ha) ((hk c hc).1 b hb) hk).2 ⟨by omega, c, hc, List.mem_map.2 ⟨a, ha, rfl⟩, List.mem_map.2 ⟨b, hb, rfl⟩⟩)
/-- The method of a class for a selector: that of the last entry that has it. -/
def wantM : List Et → Int → Int → Int
  | [], _, m => m
  | e :: r, s, m => wantM r s (if e.s = s then e.m else m)
theorem want_no {s : Int} : ∀ {c : List Et} {m : Int}, (∀ e ∈ c, e.s ≠ s) → wantM c s m = m
  | [], _, _ => rfl
  | e :: c, m, h => by rw [wantM, if_neg (h e (by simp)), want_no fun e he => h e (by simp [he])]
theorem want_at {s : Int} : ∀ {c : List Et} {m : Int} {e : Et}, (c.map Et.s).Nodup → e ∈ c → e.s = s → wantM c s m = e.m
  | x :: c, m, e, hnd, he, hs => by
    rw [List.map_cons, List.nodup_cons] at hnd
    rw [wantM]
    rcases List.mem_cons.1 he with rfl | he
    · rw [if_pos hs, want_no fun y hy hys => hnd.1 (List.mem_map.2 ⟨y, hy, hys.trans hs.symm⟩)]
    · exact want_at hnd.2 he hs
/-- **By colours and the vector each class finds what it has, and nothing else.** -/
theorem finds {w : Wd} {cs : List Int} (g : Good w) (h : ColsOk (graphW w) cs) {k : Nat} {c : List Et} (hk : w.classes[k]? = some c) {s : Int} :
    lookM (packM cs w.classes ([], [])).1 (packM cs w.classes ([], [])).2 cs k s = wantM c s (-1) := by
  have hc := List.mem_of_getElem? hk
  have P := pk_all (r := w.classes) (pk_nil (cs := cs)) (fun c hc => inj_of g h hc)
  rw [List.nil_append] at P
  generalize (packM cs w.classes ([], [])).1 = v at P ⊢
  generalize (packM cs w.classes ([], [])).2 = o at P ⊢
  have hkl := (List.getElem?_eq_some_iff.1 hk).1
  have hol : k < o.length := by rw [P.len]; exact hkl
  have ho := List.getElem?_eq_getElem hol
  have hog : o.getD k 0 = o[k] := get_D hol
  have hnn := P.nn _ (List.getElem_mem hol)
  generalize o[k] = x at ho hog hnn
  have hkt : ((k : Int)).toNat = k := by omega
  have hnd := (clsok_of g c hc).2
  by_cases he : ∃ e ∈ c, e.s = s
  · obtain ⟨e, he, rfl⟩ := he
    rw [want_at hnd he rfl]
    have hh := (inj_of g h hc).2 e he
    unfold hasC colAt at hh
    have hv := P.hit k c x e hk ho he
    obtain ⟨hlt, hge⟩ := List.getElem?_eq_some_iff.1 hv
    unfold colAt at hlt hge
    unfold lookM placeM
    rw [hkt, hog, if_neg (by omega), if_pos (by omega)]
    dsimp only
    have e2 : (x + cs.getD e.s.toNat 0).toNat = x.toNat + (cs.getD e.s.toNat 0).toNat := by omega
    rw [e2, List.getD_eq_getElem?_getD, List.getElem?_eq_getElem hlt, hge]
    exact if_pos rfl
  · rw [want_no fun e h1 h2 => he ⟨e, h1, h2⟩]
    unfold lookM placeM
    rw [hkt, hog]
    by_cases b1 : (k : Int) < 0 ∨ (o.length : Int) ≤ k ∨ s < 0 ∨ (cs.length : Int) ≤ s ∨ cs.getD s.toNat 0 < 0
    · rw [if_pos b1]
    rw [if_neg b1]
    by_cases b2 : 0 ≤ x + cs.getD s.toNat 0 ∧ x + cs.getD s.toNat 0 < v.length ∧ x ≤ v.length
    · rw [if_pos b2]
      dsimp only
      have hlt : (x + cs.getD s.toNat 0).toNat < v.length := by omega
      rw [List.getD_eq_getElem?_getD, List.getElem?_eq_getElem hlt]
      show (if (v[(x + cs.getD s.toNat 0).toNat]).s = s then _ else _) = _
      rw [if_neg]
      intro hs
      obtain ⟨k', c', x', d1, d2, d3, d4⟩ := P.inv _ _ (List.getElem?_eq_getElem hlt) (by omega)
      unfold colAt at d4
      rw [hs] at d4
      have hx' := P.nn x' (List.mem_of_getElem? d2)
      have hxx : x' = x := by omega
      subst hxx
      have hkk : k' = k := by
        exact nd_inj P.nd d2 ho
      subst hkk
      rw [hk] at d1
      cases d1
      exact he ⟨_, d3, hs⟩
    · rw [if_neg b2]
end Go.Proofs.YtikppcfabnnhfaaDoor

/- Plain: what Grow returns. -/
namespace Go.Proofs.YtikppcfabnnhfaaDoor
open Go Go.Aw
set_option linter.unusedVariables false
theorem szM_mono {g h : List Int} (hh : ∀ m : Nat, m < 500 → hasW g 0 m = true → hasW h 0 m = true) : szM g 500 ≤ szM h 500 := by
  cases e : szM g 500 with
  | zero => omega
  | succ m =>
    have h1 := (szM_spec (g := g) (n := 500)).2 m e
    have h2 := szM_le g 500
    have := szM_lt (hh m (by omega) h1) (show m < 500 by omega)
    omega
theorem sn_nat {i : Nat} (h : i < 500) : selN (i : Int) := ⟨by omega, by omega⟩
theorem moreW_cls {w : Wd} {cl : List Et} {c : List Et} : c ∈ (moreW w cl).classes ↔ c ∈ w.classes ∨ c = cl := by
  unfold moreW
  simp
structure GwInv (w : Wd) (cl : List Et) (l p0 : List Int) (p : List Et) (out chg : List Int) : Prop where
  len : out.length = p0.length
  bd : ∀ c ∈ out, -1 ≤ c ∧ c < 500
  old : ∀ i : Nat, i < out.length → hasW (graphW w) 0 i = true → 0 ≤ out.getD i 0
  un : ∀ i : Nat, i < out.length → hasW (graphW (moreW w cl)) 0 i = false → out.getD i 0 = -1
  pos : ∀ e ∈ p, 0 ≤ out.getD e.s.toNat 0
  noP : ∀ a ∈ p, ∀ b ∈ p, a.s ≠ b.s → out.getD a.s.toNat 0 ≠ out.getD b.s.toNat 0
  noW : ∀ i j : Nat, i < out.length → j < out.length → confG (graphW w) i j → 0 ≤ out.getD i 0 → out.getD i 0 ≠ out.getD j 0
  keep : ∀ i : Nat, i < out.length → (∀ e ∈ p, e.s ≠ i) → out.getD i 0 = p0.getD i 0
  chgs : ∀ c ∈ chg, (∃ e ∈ p, e.s = c) ∧ c.toNat < l.length ∧ 0 ≤ l.getD c.toNat 0 ∧ out.getD c.toNat 0 ≠ l.getD c.toNat 0
  same : ∀ s : Nat, s < l.length → 0 ≤ l.getD s 0 → (s : Int) ∉ chg → out.getD s 0 = l.getD s 0
theorem er_mem : ∀ {l : List Int} {k i : Nat} {x : Int}, i ≠ k → l[i]? = some x → x ∈ l.eraseIdx k
  | y :: l, 0, 0, x, h, _ => absurd rfl h
  | y :: l, 0, i + 1, x, _, h => by simpa using List.mem_of_getElem? (by simpa using h)
  | y :: l, k + 1, 0, x, _, h => by cases h; simp
  | y :: l, k + 1, i + 1, x, hne, h => by
    rw [List.eraseIdx_cons_succ]
    have h' : l[i]? = some x := by simpa using h
    exact List.mem_cons_of_mem _ (er_mem (k := k) (i := i) (fun e => hne (by rw [e])) h')
/-- Of 500 selectors one is not taken. -/
theorem least_lt {g out : List Int} (hg : GrOk g) {s : Int} (hs : selN s) (hsl : s.toNat < out.length) (hl : out.length ≤ 500) (hb : ∀ c ∈ out, -1 ≤ c ∧ c < 500) : 0 ≤ leastL (takW g s out) 0 ∧ leastL (takW g s out) 0 < 500 ∧ ∀ i : Nat, i < out.length → confG g s i → out.getD i 0 ≠ leastL (takW g s out) 0 := by
  obtain ⟨⟨a, b⟩, c, d⟩ := least_ok (takW_r (g := g) (cs := out) (s := s)) takW_len
  have lt : leastL (takW g s out) 0 < 500 := by
    have := pigeon2 (n := (leastL (takW g s out) 0).toNat) (l := out.eraseIdx s.toNat) (fun j h0 h1 => by
      have hj := c j h0 (by omega)
      obtain ⟨i, hi, e, hc⟩ := (takenW ⟨h0, by omega⟩ (fun c hc => by have := hb c hc; omega)).1 hj
      have hne : i ≠ s.toNat := fun e => by
        have h2 := hs.1
        rw [show (i : Int) = s by omega] at hc
        exact hg.irr s hs hc
      rw [← e]
      exact er_mem hne (List.getElem?_eq_getElem hi))
    rw [List.length_eraseIdx, if_pos hsl] at this
    omega
  refine ⟨a, lt, fun i hi hc he => ?_⟩
  have h1 := d (by omega)
  have := (takenW (g := g) (cs := out) (s := s) (m := leastL (takW g s out) 0) ⟨a, by omega⟩ (fun c hc => by have := hb c hc; omega)).2 ⟨i, hi, by rw [← get_D hi]; exact he, hc⟩
  rw [h1] at this
  cases this
theorem set_bd {out : List Int} {i : Nat} {v : Int} (hb : ∀ c ∈ out, -1 ≤ c ∧ c < 500) (h0 : 0 ≤ v) (h1 : v < 500) : ∀ c ∈ out.set i v, -1 ≤ c ∧ c < 500 := fun c hc => by
  rcases List.mem_or_eq_of_mem_set hc with hc | rfl
  · exact hb c hc
  · omega
/-- **Grow comes to its end, and keeps what it promises.** -/
theorem gw_law {w : Wd} {cl : List Et} {l p0 : List Int} (g : Good w) (gx : Good (moreW w cl)) (hz : p0.length = szM (graphW (moreW w cl)) 500)
    (hp0 : ∀ i : Nat, p0.getD i 0 = if i < l.length then l.getD i 0 else if i < p0.length then -1 else 0) : ∀ {r p : List Et} {out chg : List Int}, cl = p ++ r → GwInv w cl l p0 p out chg →
    ∃ o' c', gwM (graphW (moreW w cl)) r p out chg = some (o', c') ∧ GwInv w cl l p0 cl o' c'
  | [], p, out, chg, h, I => by
    rw [List.append_nil] at h
    subst h
    exact ⟨out, chg, rfl, I⟩
  | x :: r, p, out, chg, h, I => by
    have hk := clsok_of gx
    have hcl : cl ∈ (moreW w cl).classes := moreW_cls.2 (.inr rfl)
    have hgr := gr_ok hk
    have hz5 := szM_le (graphW (moreW w cl)) 500
    have sel : ∀ e ∈ cl, selN e.s ∧ e.s.toNat < out.length := fun e he => by
      have h1 := (hk cl hcl).1 e he
      have kn : hasW (graphW (moreW w cl)) 0 e.s = true := (knownW h1 hk).2 ⟨cl, hcl, List.mem_map.2 ⟨e, he, rfl⟩⟩
      have h2 := h1.1
      have h3 := h1.2
      have := szM_lt (n := 500) (m := e.s.toNat) (by rw [show ((e.s.toNat : Nat) : Int) = e.s by omega]; exact kn) (by omega)
      exact ⟨h1, by rw [I.len, hz]; exact this⟩
    have conf : ∀ a ∈ cl, ∀ b ∈ cl, a.s ≠ b.s → confG (graphW (moreW w cl)) a.s b.s := fun a ha b hb hab => (nearW (sel a ha).1 (sel b hb).1 hk).2 ⟨hab, cl, hcl, List.mem_map.2 ⟨a, ha, rfl⟩, List.mem_map.2 ⟨b, hb, rfl⟩⟩
    have up : ∀ i j : Nat, i < 500 → j < 500 → confG (graphW w) i j → confG (graphW (moreW w cl)) i j := fun i j hi hj hc => by
      obtain ⟨h1, c, hc, h2, h3⟩ := (nearW (sn_nat hi) (sn_nat hj) (clsok_of g)).1 hc
      exact (nearW (sn_nat hi) (sn_nat hj) hk).2 ⟨h1, c, moreW_cls.2 (.inl hc), h2, h3⟩
    have hx := sel x (by rw [h]; simp)
    have hxp : ∀ e ∈ p, e.s ≠ x.s := fun e he => by
      have hnd := (hk cl hcl).2
      rw [h, List.map_append, List.nodup_append] at hnd
      exact hnd.2.2 e.s (List.mem_map.2 ⟨e, he, rfl⟩) x.s (by simp)
    have hpc : ∀ e ∈ p, e ∈ cl := fun e he => by rw [h]; simp [he]
    have hxc : x ∈ cl := by rw [h]; simp
    have hout : out.length ≤ 500 := by rw [I.len, hz]; exact hz5
    have e1 : cl = (p ++ [x]) ++ r := by rw [h]; simp
    rw [gwM]
    by_cases b : 0 ≤ colAt out x.s ∧ (p.any fun e => colAt out e.s == colAt out x.s) = false
    · rw [if_pos b]
      have hne : ∀ e ∈ p, out.getD e.s.toNat 0 ≠ out.getD x.s.toNat 0 := fun e he => by
        have := List.any_eq_false.1 b.2 e he
        simpa [colAt] using this
      refine gw_law g gx hz hp0 e1 { I with pos := fun e he => ?_, noP := fun a ha c hc hac => ?_, keep := fun i hi hk => I.keep i hi fun e he => hk e (by simp [he]), chgs := fun c hc => ?_ }
      · rcases List.mem_append.1 he with he | he
        · exact I.pos e he
        · rw [List.mem_singleton.1 he]; exact b.1
      · rcases List.mem_append.1 ha with ha | ha
        · rcases List.mem_append.1 hc with hc | hc
          · exact I.noP a ha c hc hac
          · rw [List.mem_singleton.1 hc]; exact hne a ha
        · rw [List.mem_singleton.1 ha] at hac ⊢
          rcases List.mem_append.1 hc with hc | hc
          · exact (hne c hc).symm
          · rw [List.mem_singleton.1 hc] at hac
            exact absurd rfl hac
      · obtain ⟨⟨e, he, hs⟩, h2⟩ := I.chgs c hc
        exact ⟨⟨e, by simp [he], hs⟩, h2⟩
    · rw [if_neg b]
      obtain ⟨v0, v1, v2⟩ := least_lt hgr hx.1 hx.2 hout I.bd
      generalize hv : leastL (takW (graphW (moreW w cl)) x.s out) 0 = v at v0 v1 v2 ⊢
      rw [if_neg (by omega)]
      have hx0 := hx.1.1
      have gt : ∀ i : Nat, (out.set x.s.toNat v).getD i 0 = if i = x.s.toNat then v else out.getD i 0 := fun i => set_get hx.2
      have nat : ∀ e ∈ p, e.s.toNat ≠ x.s.toNat := fun e he => by
        have h1 := (sel e (hpc e he)).1.1
        have := hxp e he
        omega
      have hpv : ∀ e ∈ p, out.getD e.s.toNat 0 ≠ v := fun e he => v2 _ (sel e (hpc e he)).2 (by
        have h1 := (sel e (hpc e he)).1.1
        rw [show ((e.s.toNat : Nat) : Int) = e.s by omega]
        exact conf x hxc e (hpc e he) (hxp e he).symm)
      have hxk : out.getD x.s.toNat 0 = p0.getD x.s.toNat 0 := I.keep _ hx.2 fun e he => by
        have := hxp e he
        omega
      refine gw_law g gx hz hp0 e1 ⟨by rw [List.length_set]; exact I.len, set_bd I.bd v0 v1, fun i hi hi2 => ?_, fun i hi hi2 => ?_, fun e he => ?_, fun a ha c hc hac => ?_, fun i j hi hj hc h0 => ?_, fun i hi hk => ?_, fun c hc => ?_, fun s hs h0 hsn => ?_⟩
      · rw [List.length_set] at hi
        rw [gt]
        split
        · exact v0
        · exact I.old i hi hi2
      · rw [List.length_set] at hi
        rw [gt, if_neg]
        · exact I.un i hi hi2
        · intro e
          subst e
          rw [show ((x.s.toNat : Nat) : Int) = x.s by omega, (knownW hx.1 hk).2 ⟨cl, hcl, List.mem_map.2 ⟨x, hxc, rfl⟩⟩] at hi2
          cases hi2
      · rw [gt]
        rcases List.mem_append.1 he with he | he
        · rw [if_neg (nat e he)]; exact I.pos e he
        · rw [List.mem_singleton.1 he, if_pos rfl]; exact v0
      · rw [gt, gt]
        rcases List.mem_append.1 ha with ha | ha
        · rw [if_neg (nat a ha)]
          rcases List.mem_append.1 hc with hc | hc
          · rw [if_neg (nat c hc)]; exact I.noP a ha c hc hac
          · rw [List.mem_singleton.1 hc, if_pos rfl]; exact hpv a ha
        · rw [List.mem_singleton.1 ha] at hac ⊢
          rw [if_pos rfl]
          rcases List.mem_append.1 hc with hc | hc
          · rw [if_neg (nat c hc)]; exact (hpv c hc).symm
          · rw [List.mem_singleton.1 hc] at hac
            exact absurd rfl hac
      · rw [List.length_set] at hi hj
        rw [gt] at h0
        rw [gt, gt]
        by_cases e1 : i = x.s.toNat
        · rw [if_pos e1]
          by_cases e2 : j = x.s.toNat
          · rw [e1, e2] at hc
            exact absurd hc ((gr_ok (clsok_of g)).irr _ (sn_nat (by omega)))
          · rw [if_neg e2]
            refine (v2 j hj ?_).symm
            have := up i j (by omega) (by omega) hc
            rwa [show ((i : Nat) : Int) = x.s by omega] at this
        · rw [if_neg e1] at h0 ⊢
          by_cases e2 : j = x.s.toNat
          · rw [if_pos e2]
            refine v2 i hi ?_
            have := hgr.sym _ _ (sn_nat (by omega)) (sn_nat (by omega)) (up i j (by omega) (by omega) hc)
            rwa [show ((j : Nat) : Int) = x.s by omega] at this
          · rw [if_neg e2]
            exact I.noW i j hi hj hc h0
      · rw [List.length_set] at hi
        rw [gt, if_neg]
        · exact I.keep i hi fun e he => hk e (by simp [he])
        · intro e
          exact hk x (by simp) (by omega)
      · have old : ∀ c ∈ chg, (∃ e ∈ p ++ [x], e.s = c) ∧ c.toNat < l.length ∧ 0 ≤ l.getD c.toNat 0 ∧ (out.set x.s.toNat v).getD c.toNat 0 ≠ l.getD c.toNat 0 := fun c hc => by
          obtain ⟨⟨e, he, hs⟩, h2, h3, h4⟩ := I.chgs c hc
          refine ⟨⟨e, by simp [he], hs⟩, h2, h3, ?_⟩
          rw [gt, if_neg (by rw [← hs]; exact nat e he)]
          exact h4
        by_cases b3 : 0 ≤ colAt out x.s
        · rw [if_pos b3] at hc
          rcases List.mem_append.1 hc with hc | hc
          · exact old c hc
          · rw [List.mem_singleton.1 hc]
            unfold colAt at b3
            have hq := hp0 x.s.toNat
            have hxl : x.s.toNat < l.length := by
              rcases Nat.lt_or_ge x.s.toNat l.length with h | h
              · exact h
              · rw [if_neg (by omega), if_pos (by rw [← I.len]; exact hx.2), ← hxk] at hq
                omega
            rw [if_pos hxl, ← hxk] at hq
            refine ⟨⟨x, by simp, rfl⟩, hxl, by omega, ?_⟩
            rw [gt, if_pos rfl, ← hq]
            have any : (p.any fun e => colAt out e.s == colAt out x.s) = true := by
              cases hh : (p.any fun e => colAt out e.s == colAt out x.s) with
              | true => rfl
              | false => exact absurd ⟨b3, hh⟩ b
            obtain ⟨e, he, hec⟩ := List.any_eq_true.1 any
            have := hpv e he
            have hec := beq_iff_eq.1 hec
            unfold colAt at hec
            rw [hec] at this
            exact this.symm
        · rw [if_neg b3] at hc
          exact old c hc
      · rw [gt]
        split
        · rename_i e
          subst e
          have hq := hp0 x.s.toNat
          rw [if_pos hs, ← hxk] at hq
          by_cases b3 : 0 ≤ colAt out x.s
          · rw [if_pos b3] at hsn
            exact absurd (by simp; omega) hsn
          · unfold colAt at b3
            omega
        · refine I.same s hs h0 fun hm => hsn ?_
          split
          · simp [hm]
          · exact hm
/-- **What Grow returns are colours of the greater world.** -/
theorem gw_ok {w : Wd} {cl : List Et} {l p0 out chg : List Int} (g : Good w) (gx : Good (moreW w cl)) (hz : p0.length = szM (graphW (moreW w cl)) 500) (I : GwInv w cl l p0 cl out chg) : ColsOk (graphW (moreW w cl)) out := by
  have hk := clsok_of gx
  have hcl : cl ∈ (moreW w cl).classes := moreW_cls.2 (.inr rfl)
  have hz5 := szM_le (graphW (moreW w cl)) 500
  have hl := I.len
  refine ⟨by rw [hl, hz], I.bd, fun i hi hk2 => ?_, I.un, fun i j hi hj h0 he hc => ?_⟩
  · obtain ⟨c, hc, hm⟩ := (knownW (sn_nat (by omega)) hk).1 hk2
    rcases moreW_cls.1 hc with hc | rfl
    · exact I.old i hi ((knownW (sn_nat (by omega)) (clsok_of g)).2 ⟨c, hc, hm⟩)
    · obtain ⟨e, he, hs⟩ := List.mem_map.1 hm
      have := I.pos e he
      rwa [show e.s.toNat = i by omega] at this
  · obtain ⟨hij, c, hcc, h1, h2⟩ := (nearW (sn_nat (by omega)) (sn_nat (by omega)) hk).1 hc
    rcases moreW_cls.1 hcc with hcc | rfl
    · exact I.noW i j hi hj ((nearW (sn_nat (by omega)) (sn_nat (by omega)) (clsok_of g)).2 ⟨hij, c, hcc, h1, h2⟩) h0 he
    · obtain ⟨a, ha, hsa⟩ := List.mem_map.1 h1
      obtain ⟨b, hb, hsb⟩ := List.mem_map.1 h2
      have := I.noP a ha b hb (by omega)
      rw [show a.s.toNat = i by omega, show b.s.toNat = j by omega] at this
      exact this he
theorem ms0_get {w : Wd} {cl : List Et} {cs : List Int} {i : Nat} : (ms0 w cl cs).getD i 0 = if i < cs.length then cs.getD i 0 else if i < (ms0 w cl cs).length then -1 else 0 := by
  unfold ms0
  rw [List.getD_eq_getElem?_getD, List.getElem?_append]
  split
  · rw [List.getD_eq_getElem?_getD]
  · rename_i h
    rw [List.length_append, ms_len]
    split
    · rename_i h2
      rw [← List.getD_eq_getElem?_getD, ms_get (by omega)]
    · rename_i h2
      rw [List.getElem?_eq_none (by rw [ms_len]; omega)]; rfl
theorem known_up {w : Wd} {cl : List Et} (g : Good w) (gx : Good (moreW w cl)) {i : Nat} (hi : i < 500) (h : hasW (graphW w) 0 i = true) : hasW (graphW (moreW w cl)) 0 i = true := by
  obtain ⟨c, hc, hm⟩ := (knownW (sn_nat hi) (clsok_of g)).1 h
  exact (knownW (sn_nat hi) (clsok_of gx)).2 ⟨c, moreW_cls.2 (.inl hc), hm⟩
theorem sz_up {w : Wd} {cl : List Et} (g : Good w) (gx : Good (moreW w cl)) : szM (graphW w) 500 ≤ szM (graphW (moreW w cl)) 500 := szM_mono fun _ hm h => known_up g gx hm h
theorem ms0_len {w : Wd} {cl : List Et} {cs : List Int} (g : Good w) (gx : Good (moreW w cl)) (h : ColsOk (graphW w) cs) : (ms0 w cl cs).length = szM (graphW (moreW w cl)) 500 := by
  have := sz_up g gx
  have := h.len
  unfold ms0
  rw [List.length_append, ms_len]; omega
theorem gw_start {w : Wd} {cl : List Et} {cs : List Int} (g : Good w) (gx : Good (moreW w cl)) (h : ColsOk (graphW w) cs) : GwInv w cl cs (ms0 w cl cs) [] (ms0 w cl cs) [] := by
  have hz5 := szM_le (graphW (moreW w cl)) 500
  have hl := ms0_len g gx h
  refine ⟨rfl, fun c hc => ?_, fun i hi hk => ?_, fun i hi hk => ?_, by simp, by simp, fun i j hi hj hc h0 => ?_, fun _ _ _ => rfl, by simp, fun s hs h0 _ => ?_⟩
  · unfold ms0 at hc
    rcases List.mem_append.1 hc with hc | hc
    · exact h.bd c hc
    · rw [List.eq_of_mem_replicate hc]; omega
  · have := szM_lt hk (show i < 500 by omega)
    rw [← h.len] at this
    rw [ms0_get, if_pos this]
    exact h.kn i this hk
  · rw [ms0_get]
    split
    · rename_i hi2
      refine h.un i hi2 ?_
      cases hh : hasW (graphW w) 0 i with
      | false => rfl
      | true =>
        rw [known_up g gx (by omega) hh] at hk
        cases hk
    · first | rfl | rw [if_pos hi]
  · have kn : ∀ a b : Nat, a < 500 → b < 500 → confG (graphW w) a b → a < cs.length := fun a b ha hb hc => by
      obtain ⟨_, c, hcc, h1, _⟩ := (nearW (sn_nat ha) (sn_nat hb) (clsok_of g)).1 hc
      have := szM_lt ((knownW (sn_nat ha) (clsok_of g)).2 ⟨c, hcc, h1⟩) ha
      rw [h.len]; exact this
    have hi2 := kn i j (by omega) (by omega) hc
    have hj2 := kn j i (by omega) (by omega) ((gr_ok (clsok_of g)).sym _ _ (sn_nat (by omega)) (sn_nat (by omega)) hc)
    rw [ms0_get, if_pos hi2] at h0 ⊢
    rw [ms0_get, if_pos hj2]
    exact fun he => h.no i j hi2 hj2 h0 he hc
  · rw [ms0_get, if_pos hs]
/-- **Grow.** -/
theorem grow_law {w : Wd} {cl : List Et} {cs : List Int} (g : Good w) (gx : Good (moreW w cl)) (h : ColsOk (graphW w) cs) :
    ∃ o' c', gwM (graphW (moreW w cl)) cl [] (ms0 w cl cs) [] = some (o', c') ∧ ColsOk (graphW (moreW w cl)) o' ∧ GwInv w cl cs (ms0 w cl cs) cl o' c' := by
  obtain ⟨o', c', h1, h2⟩ := gw_law g gx (ms0_len g gx h) (fun i => ms0_get) (p := []) (r := cl) rfl (gw_start g gx h)
  exact ⟨o', c', h1, gw_ok g gx (ms0_len g gx h) h2, h2⟩
/-- A class that fits already changes nothing. -/
theorem gw_same {g : List Int} : ∀ {r p : List Et} {out chg : List Int}, (∀ e ∈ p ++ r, 0 ≤ colAt out e.s) → ((p ++ r).Pairwise fun e f => colAt out e.s ≠ colAt out f.s) → gwM g r p out chg = some (out, chg)
  | [], p, out, chg, _, _ => rfl
  | x :: r, p, out, chg, h, hp => by
    have e1 : p ++ x :: r = (p ++ [x]) ++ r := by simp
    rw [gwM, if_pos]
    · exact gw_same (by rw [← e1]; exact h) (by rw [← e1]; exact hp)
    · refine ⟨h x (by simp), ?_⟩
      rw [List.any_eq_false]
      intro e he
      have := (List.pairwise_append.1 hp).2.2 e he x (by simp)
      simpa using this
theorem grow_old_class {w : Wd} {cl : List Et} {cs : List Int} (g : Good w) (h : ColsOk (graphW w) cs) (hc : cl ∈ w.classes) (hl : w.classes.length < 200) :
    Good (moreW w cl) ∧ gwM (graphW (moreW w cl)) cl [] (ms0 w cl cs) [] = some (cs, []) := by
  have hin : ∀ c, c ∈ (moreW w cl).classes ↔ c ∈ w.classes := fun c => by
    rw [moreW_cls]
    exact ⟨fun h => h.elim id fun e => e ▸ hc, .inl⟩
  have gx : Good (moreW w cl) := {
    nc := by simp only [moreW, List.length_append, List.length_cons, List.length_nil]; omega
    nb := g.nb
    nr := g.nr
    len := fun c h => g.len c ((hin c).1 h)
    ent := fun c h => g.ent c ((hin c).1 h)
    asc := fun c h => g.asc c ((hin c).1 h)
    bl := g.bl
    br := fun b hb => by
      obtain ⟨a1, a2, a3⟩ := g.br b hb
      refine ⟨a1, a2, fun x hx => ?_⟩
      have := a3 x hx
      simp only [moreW, List.length_append, List.length_cons, List.length_nil]
      omega
    rr := g.rr }
  refine ⟨gx, ?_⟩
  have hz : szM (graphW (moreW w cl)) 500 ≤ szM (graphW w) 500 := szM_mono fun m hm h => by
    obtain ⟨c, hc, hh⟩ := (knownW (sn_nat hm) (clsok_of gx)).1 h
    exact (knownW (sn_nat hm) (clsok_of g)).2 ⟨c, (hin c).1 hc, hh⟩
  have e : ms0 w cl cs = cs := by
    unfold ms0
    rw [show szM (graphW (moreW w cl)) 500 - cs.length = 0 by rw [h.len]; omega]
    simp [ms]
  rw [e]
  obtain ⟨i1, i2⟩ := inj_of g h hc
  exact gw_same (p := []) (by simpa using fun e he => (i2 e he).2.2.1) (by rw [List.nil_append]; exact i1)
end Go.Proofs.YtikppcfabnnhfaaDoor

/- has, within; Grow with its errors. -/
namespace Go.Proofs.YtikppcfabnnhfaaDoor
open Go Go.Aw
set_option linter.unusedSimpArgs false
set_option linter.unusedVariables false
set_option maxRecDepth 100000
set_option maxHeartbeats 40000000
theorem has_loop {l : List Int} {x : Int} (hl : l.length ≤ 1000000) : ∀ (r m : List Int), l = m ++ r →
    ∃ e : Int, E.L 33 3 [.ro 1 (l.map (AV.int .i64)), .int .i64 x, .bool false, .int .i64 m.length] [] = some ((if r.contains x then .ret else .exit 0, [.ro 1 (l.map (AV.int .i64)), .int .i64 x, .bool (r.contains x), .int .i64 e], []), True) := by
  intro r
  induction r with
  | nil =>
    intro m h
    rw [List.append_nil] at h
    subst h
    refine ⟨l.length, ?_⟩
    have q : ((l.length : Int) < l.length) = False := eq_false (by omega)
    rw [l33_3]
    simp (maxSteps := 100000000) only [ivc, anf, vlen, vbuiltin, nilR, eq_self, Nat.reduceEqDiff, Nat.reduceLT, Nat.reduceBEq, reduceCtorEq, ↓reduceIte, tyb, q, List.contains_nil]
  | cons y r ih =>
    intro m h
    have hn : m.length + (r.length + 1) = l.length := by rw [h]; simp
    have hi' : (m.length : Int) < l.length := by omega
    have hg := getD_map (f := AV.int .i64) (show l[m.length]? = some y by rw [h]; simp)
    have hw : IntKind.i64.wrap ((m.length : Int) + 1) = m.length + 1 := wrap_id (by omega) (by omega)
    have hc : (0 ≤ (m.length : Int) ∧ (m.length : Int) < l.length) = True := eq_true (by omega)
    by_cases hx : y = x
    · refine ⟨m.length, ?_⟩
      have hx' : (y == x) = true := beq_iff_eq.2 hx
      have hb : (y :: r).contains x = true := by simp [hx]
      rw [hb, l33_3]
      simp (maxSteps := 100000000) only [ivc, anf, vlen, vbuiltin, nilR, eq_self, Nat.reduceEqDiff, Nat.reduceLT, Nat.reduceBEq, reduceCtorEq, ↓reduceIte, tyb, hi', hg, hx']
      exact some_true (by omega)
    · obtain ⟨e, ih'⟩ := ih (m ++ [y]) (by simp [h])
      refine ⟨e, ?_⟩
      have hx' : (y == x) = false := beq_eq_false_iff_ne.2 hx
      have hb : (y :: r).contains x = r.contains x := by
        rw [List.contains_cons]
        have : (x == y) = false := beq_eq_false_iff_ne.2 (fun h => hx h.symm)
        rw [this]; rfl
      simp only [List.length_append, List.length_cons, List.length_nil, Nat.zero_add, Int.natCast_add, Int.cast_ofNat_Int] at ih'
      rw [hb, l33_3]
      simp (maxSteps := 100000000) only [ivc, anf, vlen, vbuiltin, nilR, eq_self, Nat.reduceEqDiff, Nat.reduceLT, Nat.reduceBEq, reduceCtorEq, ↓reduceIte, tyb, hi', hg, hw, hx', ih']
      exact some_true (by omega)
theorem has33_ev {l : List Int} {x : Int} (hl : l.length ≤ 1000000) : E.F 33 [.ro 1 (l.map (AV.int .i64)), .int .i64 x] [] = some ((.bool (l.contains x), []), True) := by
  obtain ⟨e, lp⟩ := has_loop (x := x) hl l [] rfl
  simp only [List.length_nil, Int.natCast_zero] at lp
  rw [e33]
  cases hb : l.contains x with
  | true =>
    simp only [hb, if_true] at lp
    simp (maxSteps := 100000000) only [ivc, anf, eq_self, Nat.reduceEqDiff, Nat.reduceLT, Nat.reduceLeDiff, Nat.reduceAdd, Nat.reduceBEq, reduceCtorEq, ↓reduceIte, lp]
  | false =>
    simp only [hb, Bool.false_eq_true, if_false] at lp
    simp (maxSteps := 100000000) only [ivc, anf, eq_self, Nat.reduceEqDiff, Nat.reduceLT, Nat.reduceLeDiff, Nat.reduceAdd, Nat.reduceBEq, reduceCtorEq, ↓reduceIte, lp]
/-- What CheckColours says. -/
def ccM (w : Wd) (cs : List Int) : Int := if ckM w = 0 then ccW (graphW w) cs else ckM w
theorem grow_bad2 {w : Wd} {cs : List Int} {cl : List Et} (hwl : w.classes.length ≤ 1000) (h : ccM w cs = 0) (h3 : ckM (moreW w cl) ≠ 0) :
    E.F 17 [wdV w, .ro 1 (cs.map (AV.int .i64)), .ro 2 (cl.map enV)] [] = some ((.tup [.ro 1 [], .ro 1 [], .int .i64 (ckM (moreW w cl))], []), True) := by
  have a1 := cc_ev (w := w) (cs := cs) okW_of
  rw [show (if ckM w = 0 then ccW (graphW w) cs else ckM w) = ccM w cs from rfl, h] at a1
  have a2 := clone45_ev (l := w.classes) (by omega)
  have a3 := check_ev (w := moreW w cl)
  have h' : (ckM (moreW w cl) != 0) = true := bne_iff_ne.2 h3
  generalize ckM (moreW w cl) = e at a3 h'
  simp only [wdV] at a1
  simp only [wdV, moreW, clV, List.map_append, List.map_cons, List.map_nil] at a3
  rw [e17]
  simp (maxSteps := 100000000) only [ivc, anf, vop, nilR, salloc, sappend, eq_self, Nat.reduceEqDiff, Nat.reduceLT, Nat.reduceLeDiff, Nat.reduceAdd, Nat.reduceMul, Nat.reduceBEq, Int.reduceNeg, ↓reduceIte, tyb, wdV, a1, a2, a3, h']
  exact some_true (by omega)
/-- Grow, where all is right. -/
theorem grow_good {w : Wd} {cs : List Int} {cl : List Et} (g : Good w) (gx : Good (moreW w cl)) (h : ColsOk (graphW w) cs) {o' c' : List Int} (hr : gwM (graphW (moreW w cl)) cl [] (ms0 w cl cs) [] = some (o', c')) :
    E.F 17 [wdV w, .ro 1 (cs.map (AV.int .i64)), .ro 2 (cl.map enV)] [] = some ((.tup [.ro 1 (o'.map (AV.int .i64)), .ro 1 (c'.map (AV.int .i64)), .int .i64 0], []), True) := by
  have gc := g.nc
  have hk := clsok_of gx
  have hz := sz_up g gx
  have hl := h.len
  refine grow_ev (by omega) (ck_of_good g) (okW_of (ck_of_good g)) (cc_iff.2 h) (ck_of_good gx) (okW_of (ck_of_good gx)) (by omega) (fun c hc => (h.bd c hc).2) (fun e he => ?_) hr
  have hcl : cl ∈ (moreW w cl).classes := moreW_cls.2 (.inr rfl)
  have h1 := (hk cl hcl).1 e he
  have kn := (knownW h1 hk).2 ⟨cl, hcl, List.mem_map.2 ⟨e, he, rfl⟩⟩
  have h2 := h1.1
  have h3 := h1.2
  have := szM_lt (n := 500) (m := e.s.toNat) (by rw [show ((e.s.toNat : Nat) : Int) = e.s by omega]; exact kn) (by omega)
  omega
end Go.Proofs.YtikppcfabnnhfaaDoor

/- The example's facts. -/
namespace Go.Proofs.YtikppcfabnnhfaaDoor
open Go Go.Aw
set_option linter.unusedSimpArgs false
set_option linter.unusedVariables false
set_option maxRecDepth 1000000
def exW : Wd := ⟨[[⟨0, 0⟩, ⟨1, 1⟩], [⟨1, 2⟩, ⟨2, 3⟩]], [⟨[], [], []⟩, ⟨[], [], []⟩, ⟨[], [], []⟩, ⟨[], [], []⟩], [0]⟩
def exC : List Et := [⟨0, 0⟩, ⟨2, 0⟩]
theorem ex_ck : ckM exW = 0 := by kernel_rfl
theorem ex_ck2 : ckM (moreW exW exC) = 0 := by kernel_rfl
theorem ex_cnt : cntM (graphW exW) 8 = 3 := by kernel_rfl
theorem ex_sz2 : szM (graphW (moreW exW exC)) 500 = 3 := by kernel_rfl
theorem ex_cc : ccW (graphW exW) [0, 1, 0] = 0 := by kernel_rfl
theorem ex_least : leastW (graphW exW) = 2 := by kernel_rfl
theorem ex_pack : packM [0, 1, 0] exW.classes ([], []) = ([⟨0, 0⟩, ⟨1, 1⟩, ⟨2, 3⟩, ⟨1, 2⟩], [0, 2]) := by kernel_rfl
theorem ex_grow : gwM (graphW (moreW exW exC)) exC [] (ms0 exW exC [0, 1, 0]) [] = some ([0, 1, 2], [2]) := by kernel_rfl
theorem ex_good : Good exW := good_of ex_ck
theorem ex_near {a b : Int} (ha : selN a) (hb : selN b) : hasW (graphW exW) (nb a) b = true ↔ a ≠ b ∧ (((a = 0 ∨ a = 1) ∧ (b = 0 ∨ b = 1)) ∨ ((a = 1 ∨ a = 2) ∧ (b = 1 ∨ b = 2))) := by
  rw [nearW ha hb (clsok_of ex_good)]
  refine and_congr_right fun _ => ?_
  simp [exW]
  omega
theorem rowI_nil {g : List Int} {a : Int} : ∀ {k : Nat} {b : Int}, (∀ x, b ≤ x → x < b + k → hasW g (nb a) x = false) → rowI g a k b = []
  | 0, _, _ => rfl
  | k + 1, b, h => by
    rw [rowI, h b (by omega) (by omega), rowI_nil (fun x h1 h2 => h x (by omega) (by omega))]
    rfl
theorem allI_nil {g : List Int} : ∀ {k : Nat} {a : Int}, (∀ x y, a ≤ x → x < y → y < a + k → hasW g (nb x) y = false) → allI g k a = []
  | 0, _, _ => rfl
  | k + 1, a, h => by
    rw [allI, rowI_nil (fun x h1 h2 => h a x (by omega) (by omega) (by omega)), allI_nil (fun x y h1 h2 h3 => h x y (by omega) h2 (by omega))]
    rfl
theorem ex_no {a b : Int} (ha : selN a) (hb : selN b) (h : ¬ (a ≠ b ∧ (((a = 0 ∨ a = 1) ∧ (b = 0 ∨ b = 1)) ∨ ((a = 1 ∨ a = 2) ∧ (b = 1 ∨ b = 2))))) : hasW (graphW exW) (nb a) b = false := by
  cases hh : hasW (graphW exW) (nb a) b with
  | false => rfl
  | true => exact absurd ((ex_near ha hb).1 hh) h
theorem ex_conf : cfM (graphW exW) = [(0, 1), (1, 2)] := by
  have e0 : hasW (graphW exW) (nb 0) 1 = true := (ex_near (by unfold selN; omega) (by unfold selN; omega)).2 (by omega)
  have e1 : hasW (graphW exW) (nb 1) 2 = true := (ex_near (by unfold selN; omega) (by unfold selN; omega)).2 (by omega)
  have no : ∀ a b : Int, 0 ≤ a → b < 500 → a < b → (a = 0 → b ≠ 1) → (a = 1 → b ≠ 2) → hasW (graphW exW) (nb a) b = false := fun a b h1 h2 h3 h4 h5 => ex_no (by unfold selN; omega) (by unfold selN; omega) (by omega)
  unfold cfM
  generalize graphW exW = g at e0 e1 no
  rw [show allI g 500 0 = rowI g 0 499 (0 + 1) ++ allI g 499 (0 + 1) from rfl, show rowI g 0 499 (0 + 1) = (if hasW g (nb 0) (0 + 1) = true then [((0 : Int), (0 : Int) + 1)] else []) ++ rowI g 0 498 (0 + 1 + 1) from rfl,
    show allI g 499 (0 + 1) = rowI g (0 + 1) 498 (0 + 1 + 1) ++ allI g 498 (0 + 1 + 1) from rfl, show rowI g (0 + 1) 498 (0 + 1 + 1) = (if hasW g (nb (0 + 1)) (0 + 1 + 1) = true then [((0 : Int) + 1, (0 : Int) + 1 + 1)] else []) ++ rowI g (0 + 1) 497 (0 + 1 + 1 + 1) from rfl]
  rw [rowI_nil (k := 498) (fun x h1 h2 => no 0 x (by omega) (by omega) (by omega) (by omega) (by omega)), rowI_nil (k := 497) (fun x h1 h2 => no (0 + 1) x (by omega) (by omega) (by omega) (by omega) (by omega)), allI_nil (fun x y h1 h2 h3 => no x y (by omega) (by omega) (by omega) (by omega) (by omega))]
  have z1 : ((0 : Int) + 1) = 1 := rfl
  have z2 : ((1 : Int) + 1) = 2 := rfl
  simp only [z1, z2, e0, e1, if_true, List.append_nil, List.cons_append, List.nil_append]
theorem ex_hasC : ∀ c ∈ exW.classes, ∀ e ∈ c, hasC [0, 1, 0] e := by
  have : ∀ c ∈ exW.classes, ∀ e ∈ c, (0 ≤ e.s ∧ e.s < 3 ∧ 0 ≤ colAt [0, 1, 0] e.s ∧ colAt [0, 1, 0] e.s < 500) := by
    unfold exW
    decide
  exact this
end Go.Proofs.YtikppcfabnnhfaaDoor

namespace Go.Proofs.YtikppcfabnnhfaaDoor
open Go Go.Aw
noncomputable def givL : FuncId → List AV → HL → Option ((AV × HL) × Prop) := fun f a l => if f = 24 then EP.F 24 a l else E.F f a l
noncomputable def ANL : Go.Aw.An := mkAn [12, 13, 15, 20, 23, 26, 27, 30, 32, 33, 38, 41, 42, 47, 48, 50, 54, 57, 58, 60, 61, 62, 67, 69, 71, 72, 75, 80, 81, 84, 85, 86, 87, 93] [28, 31, 36, 37, 53, 63, 64, 65, 66, 78, 82, 83] []
  [3, 4, 6, 7, 8, 9, 11]
  [(3, 6, [0, 1, 2, 3, 4, 11, 12]), (4, 10, [1, 2, 4, 5, 7, 8]), (6, 27, [5, 6, 7, 10, 13, 15, 16, 17]), (6, 23, [4, 5, 6, 7, 10, 13, 15]), (6, 19, [5, 6, 7, 10, 13, 14]), (7, 25, [1, 3, 5, 6, 7, 9, 10, 11, 12]), (7, 21, [1, 2, 3, 5, 6, 7, 9, 10]), (7, 17, [1, 2, 3, 5, 6, 7, 9]), (7, 12, [1, 3, 5, 6, 7, 8]), (8, 24, [1, 2, 5, 7, 8, 11, 12, 13]), (8, 20, [1, 2, 4, 5, 7, 8, 11]), (8, 15, [1, 2, 4, 5, 7, 8, 10]), (9, 16, [2, 12, 13, 14])]
  [(3, 6, [(0, [], 2), (1, [], 1), (2, [], 1), (5, [], 2)]), (4, 10, [(0, [], 2), (4, [0], 1)]), (6, 27, [(3, [], 1)]), (6, 23, [(4, [], 1)]), (6, 19, [(3, [], 1)]), (7, 25, [(1, [], 1), (2, [], 2), (3, [], 1)]), (7, 21, [(2, [], 1), (3, [], 2), (4, [], 1)]), (7, 17, [(2, [], 1), (3, [], 2), (4, [], 1)]), (7, 12, [(1, [], 1), (2, [], 2), (3, [], 1)]), (8, 24, [(0, [], 2), (2, [], 1), (3, [], 1), (4, [], 1)]), (8, 20, [(0, [], 2), (3, [], 1), (4, [], 1), (5, [], 1)]), (8, 15, [(0, [], 2), (3, [], 1), (4, [], 1), (5, [], 1)]), (9, 16, [(1, [], 2), (2, [], 2)])]
  []
  []
  [15, 17, 18, 21, 22, 24, 25, 28, 29, 31, 34, 35, 36, 37, 39, 53, 63, 64, 65, 66, 83]
  [(3, 7, ([45, 1000000, 1000034, 1000012, 1000035, 1000034, 1000035, 1000036, 1000036, 1000037, 1000000, 1000039, 1000012, 1000040, 1000039, 1000040, 1000041, 1000041, 1000042], false, [], [some 33, some 34, some 35, some 36, some 37, some 39, some 40, some 41, some 42])), (4, 11, ([53, 1000007, 1000046, 1000002, 1000048, 1000008, 1000050, 1000049, 1000050, 1000051, 1000007, 1000055], false, [7], [some 46, some 48, some 50, some 51, some 55])), (6, 4, ([], false, [], [])), (8, 16, ([], false, [], [])), (8, 25, ([], false, [], [])), (8, 26, ([], false, [], [])), (8, 29, ([1000002, 1000168, 1000169, 1000170, 1000172, 1000165], false, [], [some 167, some 168, some 170, some 165])), (9, 4, ([], false, [], [])), (9, 17, ([], false, [], []))] [17, 21, 24, 29, 34, 40] [] givL
noncomputable abbrev EL : Sig := ev Tryd.prog G ANL
theorem ok3L : fchk Tryd.prog ANL 3 = true := by kernel_rfl
theorem ok4L : fchk Tryd.prog ANL 4 = true := by kernel_rfl
theorem ok6L : fchk Tryd.prog ANL 6 = true := by kernel_rfl
theorem ok7L : fchk Tryd.prog ANL 7 = true := by kernel_rfl
theorem ok8L : fchk Tryd.prog ANL 8 = true := by kernel_rfl
theorem ok9L : fchk Tryd.prog ANL 9 = true := by kernel_rfl
theorem ok11L : fchk Tryd.prog ANL 11 = true := by kernel_rfl
theorem evokL : EvOk Tryd.prog G ANL where
  chk f h := by
    have h : [3, 4, 6, 7, 8, 9, 11].contains f = true := h
    have h := List.contains_iff_mem.1 h
    simp only [List.mem_cons, List.mem_nil_iff, or_false] at h
    rcases h with rfl | rfl | rfl | rfl | rfl | rfl | rfl
    · exact ok3L
    · exact ok4L
    · exact ok6L
    · exact ok7L
    · exact ok8L
    · exact ok9L
    · exact ok11L
  pureG g := by
    by_cases h : g = 0
    · subst h; exact .inl (by kernel_rfl)
    · exact .inr (if_neg h)
  mixed := by kernel_rfl
  giv f a l r l' φ h hφ := by
    by_cases e : f = 24
    · subst e; exact ev_sound evokP h hφ
    · have h' : givL f a l = some ((r, l'), φ) := h
      rw [givL, if_neg e] at h'
      exact ev_sound evok h' hφ
theorem acpL : ∀ f k, ANL.cp f k = has2 f k [] := fun _ _ => rfl
set_option maxRecDepth 100000
theorem anf0L : (ANL.bor 3 = false) ∧ (ANL.pur 3 = false) ∧ (ANL.ro 3 = false) ∧ (ANL.frz 3 = false) ∧ (ANL.fra 3 = false) ∧ (ANL.res 3 = []) ∧ (ANL.bor 4 = false) ∧ (ANL.pur 4 = false) ∧ (ANL.ro 4 = false) ∧ (ANL.frz 4 = false) ∧ (ANL.fra 4 = false) ∧ (ANL.res 4 = []) ∧ (ANL.bor 6 = false) ∧ (ANL.pur 6 = false) ∧ (ANL.ro 6 = false) ∧ (ANL.frz 6 = false) ∧ (ANL.fra 6 = false) ∧ (ANL.res 6 = []) ∧ (ANL.bor 7 = false) ∧ (ANL.pur 7 = false) ∧ (ANL.ro 7 = false) ∧ (ANL.frz 7 = false) ∧ (ANL.fra 7 = false) ∧ (ANL.res 7 = []) ∧ (ANL.bor 8 = false) ∧ (ANL.pur 8 = false) ∧ (ANL.ro 8 = false) ∧ (ANL.frz 8 = false) ∧ (ANL.fra 8 = false) ∧ (ANL.res 8 = []) ∧ (ANL.bor 9 = false) ∧ (ANL.pur 9 = false) ∧ (ANL.ro 9 = false) ∧ (ANL.frz 9 = false) ∧ (ANL.fra 9 = false) ∧ (ANL.res 9 = []) ∧ (ANL.bor 11 = false) ∧ (ANL.pur 11 = false) ∧ (ANL.ro 11 = false) ∧ (ANL.frz 11 = false) ∧ (ANL.fra 11 = false) ∧ (ANL.res 11 = []) ∧ (ANL.bor 12 = true) ∧ (ANL.pur 12 = false) ∧ (ANL.ro 12 = false) ∧ (ANL.frz 12 = false) ∧ (ANL.fra 12 = false) ∧ (ANL.res 12 = []) ∧ (ANL.bor 13 = true) ∧ (ANL.pur 13 = false) ∧ (ANL.ro 13 = false) ∧ (ANL.frz 13 = false) ∧ (ANL.fra 13 = false) ∧ (ANL.res 13 = []) ∧ (ANL.bor 14 = false) ∧ (ANL.pur 14 = false) ∧ (ANL.ro 14 = false) ∧ (ANL.frz 14 = false) ∧ (ANL.fra 14 = false) ∧ (ANL.res 14 = []) ∧ (ANL.bor 15 = true) ∧ (ANL.pur 15 = false) ∧ (ANL.ro 15 = false) ∧ (ANL.frz 15 = true) ∧ (ANL.fra 15 = false) ∧ (ANL.res 15 = []) ∧ (ANL.bor 17 = false) ∧ (ANL.pur 17 = false) ∧ (ANL.ro 17 = false) ∧ (ANL.frz 17 = true) ∧ (ANL.fra 17 = true) ∧ (ANL.res 17 = []) ∧ (ANL.bor 18 = false) ∧ (ANL.pur 18 = false) ∧ (ANL.ro 18 = false) ∧ (ANL.frz 18 = true) ∧ (ANL.fra 18 = false) ∧ (ANL.res 18 = []) ∧ (ANL.bor 19 = false) ∧ (ANL.pur 19 = false) ∧ (ANL.ro 19 = false) ∧ (ANL.frz 19 = false) ∧ (ANL.fra 19 = false) ∧ (ANL.res 19 = []) ∧ (ANL.bor 20 = true) ∧ (ANL.pur 20 = false) ∧ (ANL.ro 20 = false) ∧ (ANL.frz 20 = false) ∧ (ANL.fra 20 = false) ∧ (ANL.res 20 = []) ∧ (ANL.bor 21 = false) ∧ (ANL.pur 21 = false) ∧ (ANL.ro 21 = false) ∧ (ANL.frz 21 = true) ∧ (ANL.fra 21 = true) ∧ (ANL.res 21 = []) ∧ (ANL.bor 22 = false) ∧ (ANL.pur 22 = false) ∧ (ANL.ro 22 = false) ∧ (ANL.frz 22 = true) ∧ (ANL.fra 22 = false) ∧ (ANL.res 22 = []) ∧ (ANL.bor 24 = false) ∧ (ANL.pur 24 = false) ∧ (ANL.ro 24 = false) ∧ (ANL.frz 24 = true) ∧ (ANL.fra 24 = true) ∧ (ANL.res 24 = []) ∧ (ANL.bor 25 = false) ∧ (ANL.pur 25 = false) ∧ (ANL.ro 25 = false) ∧ (ANL.frz 25 = true) ∧ (ANL.fra 25 = false) ∧ (ANL.res 25 = []) ∧ (ANL.bor 26 = true) ∧ (ANL.pur 26 = false) ∧ (ANL.ro 26 = false) ∧ (ANL.frz 26 = false) ∧ (ANL.fra 26 = false) ∧ (ANL.res 26 = []) ∧ (ANL.bor 27 = true) ∧ (ANL.pur 27 = false) ∧ (ANL.ro 27 = false) ∧ (ANL.frz 27 = false) ∧ (ANL.fra 27 = false) ∧ (ANL.res 27 = []) ∧ (ANL.bor 28 = false) ∧ (ANL.pur 28 = true) ∧ (ANL.ro 28 = false) ∧ (ANL.frz 28 = true) ∧ (ANL.fra 28 = false) ∧ (ANL.res 28 = []) ∧ (ANL.bor 29 = false) ∧ (ANL.pur 29 = false) ∧ (ANL.ro 29 = false) ∧ (ANL.frz 29 = true) ∧ (ANL.fra 29 = true) ∧ (ANL.res 29 = []) ∧ (ANL.bor 31 = false) ∧ (ANL.pur 31 = true) ∧ (ANL.ro 31 = false) ∧ (ANL.frz 31 = true) ∧ (ANL.fra 31 = false) ∧ (ANL.res 31 = []) ∧ (ANL.bor 32 = true) ∧ (ANL.pur 32 = false) ∧ (ANL.ro 32 = false) ∧ (ANL.frz 32 = false) ∧ (ANL.fra 32 = false) ∧ (ANL.res 32 = []) ∧ (ANL.bor 33 = true) ∧ (ANL.pur 33 = false) ∧ (ANL.ro 33 = false) ∧ (ANL.frz 33 = false) ∧ (ANL.fra 33 = false) ∧ (ANL.res 33 = []) ∧ (ANL.bor 34 = false) ∧ (ANL.pur 34 = false) ∧ (ANL.ro 34 = false) ∧ (ANL.frz 34 = true) ∧ (ANL.fra 34 = true) ∧ (ANL.res 34 = []) ∧ (ANL.bor 36 = false) ∧ (ANL.pur 36 = true) ∧ (ANL.ro 36 = false) ∧ (ANL.frz 36 = true) ∧ (ANL.fra 36 = false) ∧ (ANL.res 36 = []) ∧ (ANL.bor 37 = false) ∧ (ANL.pur 37 = true) ∧ (ANL.ro 37 = false) ∧ (ANL.frz 37 = true) ∧ (ANL.fra 37 = false) ∧ (ANL.res 37 = []) ∧ (ANL.bor 39 = false) ∧ (ANL.pur 39 = false) ∧ (ANL.ro 39 = false) ∧ (ANL.frz 39 = true) ∧ (ANL.fra 39 = false) ∧ (ANL.res 39 = []) ∧ (ANL.dr 3 7 = some ([45, 1000000, 1000034, 1000012, 1000035, 1000034, 1000035, 1000036, 1000036, 1000037, 1000000, 1000039, 1000012, 1000040, 1000039, 1000040, 1000041, 1000041, 1000042], false, [], [some 33, some 34, some 35, some 36, some 37, some 39, some 40, some 41, some 42])) ∧ (ANL.dr 4 11 = some ([53, 1000007, 1000046, 1000002, 1000048, 1000008, 1000050, 1000049, 1000050, 1000051, 1000007, 1000055], false, [7], [some 46, some 48, some 50, some 51, some 55])) ∧ (ANL.dr 6 4 = some ([], false, [], [])) ∧ (ANL.dr 8 16 = some ([], false, [], [])) ∧ (ANL.dr 8 25 = some ([], false, [], [])) ∧ (ANL.dr 8 26 = some ([], false, [], [])) ∧ (ANL.dr 8 29 = some ([1000002, 1000168, 1000169, 1000170, 1000172, 1000165], false, [], [some 167, some 168, some 170, some 165])) ∧ (ANL.dr 9 4 = some ([], false, [], [])) ∧ (ANL.dr 9 17 = some ([], false, [], [])) ∧ (ANL.keep 3 6 = some [0, 1, 2, 3, 4, 11, 12]) ∧ (ANL.fix 3 6 = [(0, [], 2), (1, [], 1), (2, [], 1), (5, [], 2)]) ∧ (ANL.frl 3 6 = false) ∧ (ANL.keep 4 10 = some [1, 2, 4, 5, 7, 8]) ∧ (ANL.fix 4 10 = [(0, [], 2), (4, [0], 1)]) ∧ (ANL.frl 4 10 = false) ∧ (ANL.keep 6 27 = some [5, 6, 7, 10, 13, 15, 16, 17]) ∧ (ANL.fix 6 27 = [(3, [], 1)]) ∧ (ANL.frl 6 27 = false) ∧ (ANL.keep 6 23 = some [4, 5, 6, 7, 10, 13, 15]) ∧ (ANL.fix 6 23 = [(4, [], 1)]) ∧ (ANL.frl 6 23 = false) ∧ (ANL.keep 6 19 = some [5, 6, 7, 10, 13, 14]) ∧ (ANL.fix 6 19 = [(3, [], 1)]) ∧ (ANL.frl 6 19 = false) ∧ (ANL.keep 7 25 = some [1, 3, 5, 6, 7, 9, 10, 11, 12]) ∧ (ANL.fix 7 25 = [(1, [], 1), (2, [], 2), (3, [], 1)]) ∧ (ANL.frl 7 25 = false) ∧ (ANL.keep 7 21 = some [1, 2, 3, 5, 6, 7, 9, 10]) ∧ (ANL.fix 7 21 = [(2, [], 1), (3, [], 2), (4, [], 1)]) ∧ (ANL.frl 7 21 = false) ∧ (ANL.keep 7 17 = some [1, 2, 3, 5, 6, 7, 9]) ∧ (ANL.fix 7 17 = [(2, [], 1), (3, [], 2), (4, [], 1)]) ∧ (ANL.frl 7 17 = false) ∧ (ANL.keep 7 12 = some [1, 3, 5, 6, 7, 8]) ∧ (ANL.fix 7 12 = [(1, [], 1), (2, [], 2), (3, [], 1)]) ∧ (ANL.frl 7 12 = false) ∧ (ANL.keep 8 24 = some [1, 2, 5, 7, 8, 11, 12, 13]) ∧ (ANL.fix 8 24 = [(0, [], 2), (2, [], 1), (3, [], 1), (4, [], 1)]) ∧ (ANL.frl 8 24 = false) ∧ (ANL.keep 8 20 = some [1, 2, 4, 5, 7, 8, 11]) ∧ (ANL.fix 8 20 = [(0, [], 2), (3, [], 1), (4, [], 1), (5, [], 1)]) ∧ (ANL.frl 8 20 = false) ∧ (ANL.keep 8 15 = some [1, 2, 4, 5, 7, 8, 10]) ∧ (ANL.fix 8 15 = [(0, [], 2), (3, [], 1), (4, [], 1), (5, [], 1)]) ∧ (ANL.frl 8 15 = false) ∧ (ANL.keep 9 16 = some [2, 12, 13, 14]) ∧ (ANL.fix 9 16 = [(1, [], 2), (2, [], 2)]) ∧ (ANL.frl 9 16 = false) := by and_intros <;> kernel_rfl
theorem anfL : type_of% @anf0L ∧ type_of% @acpL := ⟨@anf0L, @acpL⟩
variable (a v : List AV) (l : HL)
theorem l8_24L : type_of% (ev_lp ANL G 8 24 190 [1, 2, 5, 7, 8, 11, 12, 13] (by kernel_rfl) Tryd.func8 rfl rfl rfl (by kernel_rfl) v l) :=
  ev_lp ANL G 8 24 190 [1, 2, 5, 7, 8, 11, 12, 13] (by kernel_rfl) Tryd.func8 rfl rfl rfl (by kernel_rfl) v l
theorem l8_20L : type_of% (ev_lp ANL G 8 20 190 [1, 2, 4, 5, 7, 8, 11] (by kernel_rfl) Tryd.func8 rfl rfl rfl (by kernel_rfl) v l) :=
  ev_lp ANL G 8 20 190 [1, 2, 4, 5, 7, 8, 11] (by kernel_rfl) Tryd.func8 rfl rfl rfl (by kernel_rfl) v l
theorem l8_15L : type_of% (ev_lp ANL G 8 15 190 [1, 2, 4, 5, 7, 8, 10] (by kernel_rfl) Tryd.func8 rfl rfl rfl (by kernel_rfl) v l) :=
  ev_lp ANL G 8 15 190 [1, 2, 4, 5, 7, 8, 10] (by kernel_rfl) Tryd.func8 rfl rfl rfl (by kernel_rfl) v l
theorem e8L : type_of% (ev_fn ANL G 8 190 [.tmp 4] (by kernel_rfl) Tryd.func8 rfl rfl rfl a l) :=
  ev_fn ANL G 8 190 [.tmp 4] (by kernel_rfl) Tryd.func8 rfl rfl rfl a l
theorem e11L : type_of% (ev_fn ANL G 11 97 [.tmp 0] (by kernel_rfl) Tryd.func11 rfl rfl rfl a l) :=
  ev_fn ANL G 11 97 [.tmp 0] (by kernel_rfl) Tryd.func11 rfl rfl rfl a l
theorem gv12L : EL.F 12 a l = E.F 12 a l := ev_giv (by kernel_rfl) a l
theorem gv14L : EL.F 14 a l = E.F 14 a l := ev_giv (by kernel_rfl) a l
theorem gv15L : EL.F 15 a l = E.F 15 a l := ev_giv (by kernel_rfl) a l
theorem gv17L : EL.F 17 a l = E.F 17 a l := ev_giv (by kernel_rfl) a l
theorem gv20L : EL.F 20 a l = E.F 20 a l := ev_giv (by kernel_rfl) a l
theorem gv26L : EL.F 26 a l = E.F 26 a l := ev_giv (by kernel_rfl) a l
theorem gv29L : EL.F 29 a l = E.F 29 a l := ev_giv (by kernel_rfl) a l
theorem gv32L : EL.F 32 a l = E.F 32 a l := ev_giv (by kernel_rfl) a l
theorem gv33L : EL.F 33 a l = E.F 33 a l := ev_giv (by kernel_rfl) a l
theorem gv36L : EL.F 36 a l = E.F 36 a l := ev_giv (by kernel_rfl) a l
theorem gv39L : EL.F 39 a l = E.F 39 a l := ev_giv (by kernel_rfl) a l
end Go.Proofs.YtikppcfabnnhfaaDoor

/- awake. -/
namespace Go.Proofs.YtikppcfabnnhfaaDoor
open Go Go.Aw
set_option linter.unusedSimpArgs false
set_option linter.unusedVariables false
set_option maxRecDepth 100000
set_option maxHeartbeats 40000000
theorem same_loop {a b : List Int} (hl : a.length = b.length) (hla : a.length ≤ 1000000) : ∀ (r m q p : List Int), a = m ++ r → b = p ++ q → m.length = p.length →
    ∃ e : Int, E.L 20 5 [.ro 1 (a.map (AV.int .i64)), .ro 1 (b.map (AV.int .i64)), .bool false, .int .i64 m.length] [] = some ((if r == q then .exit 0 else .ret, [.ro 1 (a.map (AV.int .i64)), .ro 1 (b.map (AV.int .i64)), .bool false, .int .i64 e], []), True) := by
  intro r
  induction r with
  | nil =>
    intro m q p h1 h2 h3
    have hq : q = [] := List.eq_nil_of_length_eq_zero (by have la := congrArg List.length h1; have lb := congrArg List.length h2; rw [List.length_append] at la lb; simp only [List.length_nil] at la; omega)
    subst hq
    have hn : m.length = a.length := by rw [h1]; simp
    refine ⟨a.length, ?_⟩
    have qq : ((a.length : Int) < a.length) = False := eq_false (by omega)
    rw [hn, l20_5]
    simp (maxSteps := 100000000) only [ivc, anf, vlen, vbuiltin, nilR, eq_self, Nat.reduceEqDiff, Nat.reduceLT, Nat.reduceAdd, Nat.reduceBEq, reduceCtorEq, ↓reduceIte, tyb, qq]
  | cons x r ih =>
    intro m q p h1 h2 h3
    have la := congrArg List.length h1
    have lb := congrArg List.length h2
    match q with
    | [] => simp at la lb; omega
    | y :: q =>
      simp only [List.length_append, List.length_cons] at la lb
      have hi' : (m.length : Int) < a.length := by omega
      have ga := getD_map (f := AV.int .i64) (show a[m.length]? = some x by rw [h1]; simp)
      have gb := getD_map (f := AV.int .i64) (show b[m.length]? = some y by rw [h2, h3]; simp)
      have hw : IntKind.i64.wrap ((m.length : Int) + 1) = m.length + 1 := wrap_id (by omega) (by omega)
      have c1 : (0 ≤ (m.length : Int) ∧ (m.length : Int) < a.length) = True := eq_true (by omega)
      have c2 : (0 ≤ (m.length : Int) ∧ (m.length : Int) < b.length) = True := eq_true (by omega)
      by_cases hx : x = y
      · have hx' : (x != y) = false := by rw [hx]; simp
        have hb : ((x :: r) == (y :: q)) = (r == q) := by simp [hx]
        obtain ⟨e, ih'⟩ := ih (m ++ [x]) q (p ++ [y]) (by simp [h1]) (by simp [h2]) (by simp [h3])
        refine ⟨e, ?_⟩
        simp only [List.length_append, List.length_cons, List.length_nil, Nat.zero_add, Int.natCast_add, Int.cast_ofNat_Int] at ih'
        rw [hb, l20_5]
        simp (maxSteps := 100000000) only [ivc, anf, vlen, vbuiltin, nilR, eq_self, Nat.reduceEqDiff, Nat.reduceLT, Nat.reduceAdd, Nat.reduceBEq, reduceCtorEq, ↓reduceIte, tyb, hi', ga, gb, hw, c2, hx', ih']
        exact some_true (by omega)
      · have hx' : (x != y) = true := bne_iff_ne.2 hx
        have hb : ((x :: r) == (y :: q)) = false := by simp [hx]
        refine ⟨m.length, ?_⟩
        rw [hb, l20_5]
        simp (maxSteps := 100000000) only [ivc, anf, vlen, vbuiltin, nilR, eq_self, Nat.reduceEqDiff, Nat.reduceLT, Nat.reduceAdd, Nat.reduceBEq, reduceCtorEq, ↓reduceIte, tyb, hi', ga, gb, c2, hx']
        exact some_true (by omega)
theorem same_ev {a b : List Int} (hla : a.length ≤ 1000000) : E.F 20 [.ro 1 (a.map (AV.int .i64)), .ro 1 (b.map (AV.int .i64))] [] = some ((.bool (a == b), []), True) := by
  rw [e20]
  by_cases h : a.length = b.length
  · have hb : ((a.length : Int) != b.length) = false := by rw [h]; simp
    obtain ⟨e, lp⟩ := same_loop h hla a [] b [] rfl rfl rfl
    simp only [List.length_nil, Int.natCast_zero] at lp
    by_cases hab : (a == b) = true
    · rw [hab]
      simp only [hab, if_true] at lp
      simp (maxSteps := 100000000) only [ivc, anf, vlen, vbuiltin, nilR, eq_self, Nat.reduceEqDiff, Nat.reduceLT, Nat.reduceLeDiff, Nat.reduceAdd, Nat.reduceBEq, reduceCtorEq, ↓reduceIte, tyb, hb, lp]
    · have hab' : (a == b) = false := by simpa using hab
      rw [hab']
      simp only [hab', Bool.false_eq_true, if_false] at lp
      simp (maxSteps := 100000000) only [ivc, anf, vlen, vbuiltin, nilR, eq_self, Nat.reduceEqDiff, Nat.reduceLT, Nat.reduceLeDiff, Nat.reduceAdd, Nat.reduceBEq, reduceCtorEq, ↓reduceIte, tyb, hb, lp]
  · have hb : ((a.length : Int) != b.length) = true := by simp; omega
    have hab' : (a == b) = false := by
      cases hh : a == b with
      | false => rfl
      | true => exact absurd (congrArg List.length (eq_of_beq hh)) h
    rw [hab']
    simp (maxSteps := 100000000) only [ivc, anf, vlen, vbuiltin, nilR, eq_self, Nat.reduceEqDiff, Nat.reduceLT, Nat.reduceLeDiff, Nat.reduceAdd, Nat.reduceBEq, reduceCtorEq, ↓reduceIte, tyb, hb]
theorem ex_ev : E.F 39 [] [] = some ((wdV exW, []), True) := by
  rw [e39]
  simp (maxSteps := 100000000) only [ivc, anf, vop, salloc, eq_self, Nat.reduceEqDiff, Nat.reduceLT, Nat.reduceLeDiff, Nat.reduceAdd, Nat.reduceMul, Nat.reduceBEq, Int.reduceLE, Int.reduceToNat, Int.reduceMul, reduceCtorEq, ↓reduceIte, tyb, exW, wdV, clV, enV, bdV]
theorem gv24L (a : List AV) (l : HL) : EL.F 24 a l = EP.F 24 a l := ev_giv (A := ANL) (by kernel_rfl) a l
theorem awake_ev : EL.F 11 [] [] = some ((.bool true, []), True) := by
  have a1 := ex_ev
  have a2 := conf_ev (w := exW) okW_of
  rw [if_pos ex_ck, ex_conf] at a2
  have a3 := least15_ev (w := exW) okW_of
  rw [if_pos ex_ck, ex_cnt, if_neg (by decide), ex_least] at a3
  have a4 := pack_ev (w := exW) (cs := [0, 1, 0]) okW_of (fun _ _ => ex_hasC)
  rw [if_pos ex_ck, if_pos ex_cc, ex_pack] at a4
  have a5 := grow_ev (w := exW) (cs := [0, 1, 0]) (cl := exC) (by decide) ex_ck (okW_of ex_ck) ex_cc ex_ck2 (okW_of ex_ck2) (by rw [ex_sz2]; decide) (by decide) (by rw [ex_sz2]; decide) ex_grow
  have s1 := same_ev (a := [0, 2]) (b := [0, 2]) (by decide)
  have s2 := same_ev (a := [0, 1, 2]) (b := [0, 1, 2]) (by decide)
  have s3 := same_ev (a := [2]) (b := [2]) (by decide)
  have s4 := look_ev (v := [⟨0, 0⟩, ⟨1, 1⟩, ⟨2, 3⟩, ⟨1, 2⟩]) (offs := [0, 2]) (l := [0, 1, 0]) (c := 1) (s := 2) (by decide) (by unfold i64r; decide) (by unfold i64r; decide)
  rw [show lookM [⟨0, 0⟩, ⟨1, 1⟩, ⟨2, 3⟩, ⟨1, 2⟩] [0, 2] [0, 1, 0] 1 2 = 3 from by kernel_rfl] at s4
  simp only [exW, exC, wdV, clV, enV, bdV, pV, List.map_cons, List.map_nil, beq_self_eq_true] at a1 a2 a3 a4 a5 s1 s2 s3 s4
  rw [e11L]
  simp (maxSteps := 100000000) only [ivc, vop, vlen, vbuiltin, nilR, salloc, eq_self, Nat.reduceEqDiff, Nat.reduceLT, Nat.reduceLeDiff, Nat.reduceAdd, Nat.reduceMul, Nat.reduceBEq, Int.reduceLT, Int.reduceLE, Int.reduceToNat, reduceCtorEq, ↓reduceIte, anfL, gv39L, gv36L, gv15L, gv24L, gv17L, gv20L, gv12L, tyb, a1, a2, a3, a4, a5, s1, s2, s3, s4]
end Go.Proofs.YtikppcfabnnhfaaDoor

/- ColourFinds: the walk. -/
namespace Go.Proofs.YtikppcfabnnhfaaDoor
open Go Go.Aw
set_option linter.unusedSimpArgs false
set_option linter.unusedVariables false
set_option maxRecDepth 100000
set_option maxHeartbeats 40000000
def iV (l : List Int) : AV := .ro 1 (l.map (AV.int .i64))
/-- The result's place, that nobody reads any more. -/
def xB : Bool → AV
  | true => .junk
  | false => .bool false
end Go.Proofs.YtikppcfabnnhfaaDoor

/- ColourGrows: the walk. -/
namespace Go.Proofs.YtikppcfabnnhfaaDoor
open Go Go.Aw
set_option linter.unusedSimpArgs false
set_option linter.unusedVariables false
set_option maxRecDepth 100000
set_option maxHeartbeats 40000000
theorem gr15_loop {w : Wd} {mo : List Et} {l nx ch : List Int} (hll : l.length ≤ 1000000) (hn : l.length ≤ nx.length) (hc : ch.length ≤ 1000000)
    (hf : ∀ s : Nat, s < l.length → 0 ≤ l.getD s 0 → ch.contains (s : Int) = false → nx.getD s 0 = l.getD s 0) : ∀ (k s : Nat), s + k = l.length →
    EL.L 8 15 [clV mo, .ptr 60000 0 0, .bool false, iV l, iV nx, iV ch, .int .i64 s] (wO w) = some ((.exit 0, [clV mo, .ptr 60000 0 0, .bool false, iV l, iV nx, iV ch, .int .i64 l.length], wO w), True) := by
  intro k
  induction k with
  | zero =>
    intro s h
    have : s = l.length := by omega
    subst this
    have q : ((l.length : Int) < l.length) = False := eq_false (by omega)
    rw [l8_15L]
    simp (maxSteps := 100000000) only [ivc, vlen, vbuiltin, nilR, eq_self, Nat.reduceEqDiff, Nat.reduceLT, Nat.reduceLeDiff, Nat.reduceAdd, reduceCtorEq, ↓reduceIte, anfL, tyb, clV, iV, wO, wdV, q]
  | succ k ih =>
    intro s h
    have q : ((s : Int) < l.length) = True := eq_true (by omega)
    have q1 : (0 ≤ (s : Int) ∧ (s : Int) < l.length) = True := eq_true (by omega)
    have q2 : (0 ≤ (s : Int) ∧ (s : Int) < nx.length) = True := eq_true (by omega)
    have hs : ((s : Int)).toNat = s := by omega
    have hw : IntKind.i64.wrap ((s : Int) + 1) = s + 1 := wrap_id (by omega) (by omega)
    have k1 := getI (l := l) (i := s) (by omega)
    have k2 := getI (l := nx) (i := s) (by omega)
    have hv := has33_ev (l := ch) (x := s) hc
    have ih' := ih (s + 1) (by omega)
    simp only [clV, iV, wO, wdV, Int.natCast_add, Int.cast_ofNat_Int] at ih'
    rw [l8_15L]
    by_cases b1 : 0 ≤ l.getD s 0
    · cases b2 : ch.contains (s : Int) with
      | true =>
        rw [b2] at hv
        simp (maxSteps := 100000000) only [ivc, vop, vlen, vbuiltin, nilR, eq_self, Nat.reduceEqDiff, Nat.reduceLT, Nat.reduceLeDiff, Nat.reduceAdd, reduceCtorEq, ↓reduceIte, anfL, gv33L, tyb, clV, iV, wO, wdV, q, q2, hs, hw, k1, k2, hv, b1, ih']
        exact some_true (by omega)
      | false =>
        rw [b2] at hv
        have b3 : (nx.getD s 0 != l.getD s 0) = false := by rw [hf s (by omega) b1 b2]; simp
        simp (maxSteps := 100000000) only [ivc, vop, vlen, vbuiltin, nilR, eq_self, Nat.reduceEqDiff, Nat.reduceLT, Nat.reduceLeDiff, Nat.reduceAdd, reduceCtorEq, ↓reduceIte, anfL, gv33L, tyb, clV, iV, wO, wdV, q, q2, hs, hw, k1, k2, hv, b1, b3, ih']
        exact some_true (by omega)
    · simp (maxSteps := 100000000) only [ivc, vop, vlen, vbuiltin, nilR, eq_self, Nat.reduceEqDiff, Nat.reduceLT, Nat.reduceLeDiff, Nat.reduceAdd, reduceCtorEq, ↓reduceIte, anfL, tyb, clV, iV, wO, wdV, q, q2, hs, hw, k1, k2, b1, ih']
      exact some_true (by omega)
theorem gr24_loop {w : Wd} {mo : List Et} {l nx ch : List Int} {i : Nat} (hm : mo.length ≤ 1000000) (hi : i < ch.length) : ∀ (r m : List Et) (b : Bool), mo = m ++ r →
    EL.L 8 24 [clV mo, .ptr 60000 0 0, iV l, iV nx, iV ch, .int .i64 i, .bool b, .int .i64 m.length] (wO w) = some ((.exit 4, [clV mo, .ptr 60000 0 0, iV l, iV nx, iV ch, .int .i64 i, .bool (b || r.any fun e => e.s == ch.getD i 0), .int .i64 mo.length], wO w), True) := by
  have q2 : (0 ≤ (i : Int) ∧ (i : Int) < ch.length) = True := eq_true (by omega)
  have hs : ((i : Int)).toNat = i := by omega
  have k1 := getI (l := ch) (i := i) hi
  intro r
  induction r with
  | nil =>
    intro m b h
    rw [List.append_nil] at h
    subst h
    have q : ((mo.length : Int) < mo.length) = False := eq_false (by omega)
    rw [l8_24L]
    simp (maxSteps := 100000000) only [ivc, vlen, vbuiltin, nilR, eq_self, Nat.reduceEqDiff, Nat.reduceLT, Nat.reduceLeDiff, Nat.reduceAdd, reduceCtorEq, ↓reduceIte, anfL, tyb, clV, iV, wO, wdV, q, List.any_nil]
  | cons x r ih =>
    intro m b h
    have hn : m.length + (r.length + 1) = mo.length := by rw [h]; simp
    have hi' : (m.length : Int) < mo.length := by omega
    have hg := getD_map (f := enV) (show mo[m.length]? = some x by rw [h]; simp)
    have hw : IntKind.i64.wrap ((m.length : Int) + 1) = m.length + 1 := wrap_id (by omega) (by omega)
    have hc : (0 ≤ (m.length : Int) ∧ (m.length : Int) < mo.length) = True := eq_true (by omega)
    have ih' := ih (m ++ [x]) (b || (x.s == ch.getD i 0)) (by simp [h])
    rw [Bool.or_assoc] at ih'
    simp only [List.length_append, List.length_cons, List.length_nil, Nat.zero_add, Int.natCast_add, Int.cast_ofNat_Int, clV, iV, wO, wdV] at ih'
    rw [List.any_cons, l8_24L]
    cases b with
    | true =>
      simp only [Bool.true_or] at ih'
      simp (maxSteps := 100000000) only [ivc, vop, vlen, vbuiltin, nilR, eq_self, Nat.reduceEqDiff, Nat.reduceLT, Nat.reduceLeDiff, Nat.reduceAdd, reduceCtorEq, ↓reduceIte, anfL, tyb, clV, iV, wO, wdV, enV, hi', hg, hw, q2, hs, k1, ih']
    | false =>
      simp only [Bool.false_or] at ih'
      simp (maxSteps := 100000000) only [ivc, vop, vlen, vbuiltin, nilR, eq_self, Nat.reduceEqDiff, Nat.reduceLT, Nat.reduceLeDiff, Nat.reduceAdd, reduceCtorEq, ↓reduceIte, anfL, tyb, clV, iV, wO, wdV, enV, hi', hg, hw, q2, hs, k1, ih']
      exact some_true (by omega)
theorem gr20_loop {w : Wd} {mo : List Et} {l nx ch : List Int} (hm : mo.length ≤ 1000000) (hll : l.length ≤ 1000000) (hn : l.length ≤ nx.length) (hc : ch.length ≤ 1000000)
    (hf : ∀ c ∈ ch, (mo.any fun e => e.s == c) = true ∧ 0 ≤ c ∧ c < l.length ∧ 0 ≤ l.getD c.toNat 0 ∧ nx.getD c.toNat 0 ≠ l.getD c.toNat 0) : ∀ (k i : Nat) (b : Bool), i + k = ch.length →
    ∃ b', EL.L 8 20 [clV mo, .ptr 60000 0 0, xB b, iV l, iV nx, iV ch, .int .i64 i] (wO w) = some ((.exit 2, [clV mo, .ptr 60000 0 0, xB b', iV l, iV nx, iV ch, .int .i64 ch.length], wO w), True) := by
  intro k
  induction k with
  | zero =>
    intro i b h
    have : i = ch.length := by omega
    subst this
    refine ⟨b, ?_⟩
    have q : ((ch.length : Int) < ch.length) = False := eq_false (by omega)
    rw [l8_20L]
    cases b
    · simp (maxSteps := 100000000) only [ivc, vlen, vbuiltin, nilR, eq_self, Nat.reduceEqDiff, Nat.reduceLT, Nat.reduceLeDiff, Nat.reduceAdd, reduceCtorEq, ↓reduceIte, anfL, tyb, clV, iV, xB, wO, wdV, q]
    · simp (maxSteps := 100000000) only [ivc, vlen, vbuiltin, nilR, eq_self, Nat.reduceEqDiff, Nat.reduceLT, Nat.reduceLeDiff, Nat.reduceAdd, reduceCtorEq, ↓reduceIte, anfL, tyb, clV, iV, xB, wO, wdV, q]
  | succ k ih =>
    intro i b h
    obtain ⟨b', ih'⟩ := ih (i + 1) true (by omega)
    refine ⟨b', ?_⟩
    have q : ((i : Int) < ch.length) = True := eq_true (by omega)
    have q1 : (0 ≤ (i : Int) ∧ (i : Int) < ch.length) = True := eq_true (by omega)
    have hs : ((i : Int)).toNat = i := by omega
    have hw : IntKind.i64.wrap ((i : Int) + 1) = i + 1 := wrap_id (by omega) (by omega)
    have k1 := getI (l := ch) (i := i) (by omega)
    have lp := gr24_loop (w := w) (l := l) (nx := nx) (ch := ch) (i := i) hm (by omega) mo [] false rfl
    obtain ⟨f1, f2, f3, f4, f5⟩ := hf _ (getD_mem (show i < ch.length by omega))
    rw [f1] at lp
    generalize ch.getD i 0 = c at k1 f2 f3 f4 f5
    have q2 : (0 ≤ c ∧ c < l.length) = True := eq_true ⟨f2, f3⟩
    have q3 : (0 ≤ c ∧ c < nx.length) = True := eq_true ⟨f2, by omega⟩
    have q4 : ((l.length : Int) ≤ c) = False := eq_false (by omega)
    have q5 : (l.getD c.toNat 0 < 0) = False := eq_false (by omega)
    have q6 : (nx.getD c.toNat 0 == l.getD c.toNat 0) = false := beq_eq_false_iff_ne.2 f5
    have k2 := getI (l := l) (i := c.toNat) (by omega)
    have k3 := getI (l := nx) (i := c.toNat) (by omega)
    simp only [clV, iV, wO, wdV, Int.natCast_add, Int.cast_ofNat_Int, List.length_nil, Bool.false_or] at ih' lp
    rw [show xB true = .junk from rfl] at ih'
    rw [l8_20L]
    cases b <;> cases b' <;> simp only [xB] at ih' ⊢ <;> simp (maxSteps := 100000000) only [ivc, vop, vlen, vbuiltin, nilR, eq_self, Nat.reduceEqDiff, Nat.reduceLT, Nat.reduceLeDiff, Nat.reduceAdd, reduceCtorEq, ↓reduceIte, anfL, tyb, clV, iV, wO, wdV, q, q2, q3, q4, q5, q6, hs, hw, k1, k2, k3, lp, ih'] <;> exact some_true (by omega)
end Go.Proofs.YtikppcfabnnhfaaDoor

/- ColourGrows: all. -/
namespace Go.Proofs.YtikppcfabnnhfaaDoor
open Go Go.Aw
set_option linter.unusedSimpArgs false
set_option linter.unusedVariables false
set_option maxRecDepth 100000
set_option maxHeartbeats 40000000
theorem gw_chg {g : List Int} : ∀ {r p : List Et} {out chg o' c' : List Int}, gwM g r p out chg = some (o', c') → c'.length ≤ chg.length + r.length
  | [], p, out, chg, o', c', h => by cases h; simp
  | x :: r, p, out, chg, o', c', h => by
    rw [gwM] at h
    rw [List.length_cons]
    split at h
    · have := gw_chg h
      omega
    · split at h
      · cases h
      · have := gw_chg h
        split at this
        · rw [List.length_append] at this
          simp only [List.length_cons, List.length_nil] at this
          omega
        · omega
theorem grows_ev {w : Wd} {mo : List Et} (hw : inpW w) : EL.F 8 [wdV w, clV mo] [] = some ((.bool true, []), True) := by
  have aw := awake_ev
  have sm := small_ev hw
  rw [e8L]
  cases hs : smallM w with
  | false =>
    rw [hs] at sm
    simp only [wdV] at sm
    simp (maxSteps := 100000000) only [ivc, vop, vlen, vbuiltin, nilR, salloc, eq_self, Nat.reduceEqDiff, Nat.reduceLT, Nat.reduceLeDiff, Nat.reduceAdd, Nat.reduceMul, Int.reduceLT, reduceCtorEq, ↓reduceIte, anfL, gv14L, tyb, wdV, clV, sm, aw]
  | true =>
  rw [hs] at sm
  by_cases h1 : (20 : Int) < mo.length
  · simp only [wdV] at sm
    simp (maxSteps := 100000000) only [ivc, vop, vlen, vbuiltin, nilR, salloc, eq_self, Nat.reduceEqDiff, Nat.reduceLT, Nat.reduceLeDiff, Nat.reduceAdd, Nat.reduceMul, Int.reduceLT, reduceCtorEq, ↓reduceIte, anfL, gv14L, tyb, wdV, clV, sm, h1, aw]
  by_cases h2 : (11 : Int) < w.classes.length
  · simp only [wdV] at sm
    simp (maxSteps := 100000000) only [ivc, vop, vlen, vbuiltin, nilR, salloc, eq_self, Nat.reduceEqDiff, Nat.reduceLT, Nat.reduceLeDiff, Nat.reduceAdd, Nat.reduceMul, reduceCtorEq, ↓reduceIte, anfL, gv14L, tyb, wdV, clV, sm, h1, h2, aw]
  have l1 := colours_ev (w := w) okW_of
  by_cases c1 : ckM w ≠ 0
  · rw [if_neg c1] at l1
    have c1' : (ckM w != 0) = true := bne_iff_ne.2 c1
    simp only [wdV] at sm l1
    simp (maxSteps := 100000000) only [ivc, vop, vlen, vbuiltin, nilR, salloc, eq_self, Nat.reduceEqDiff, Nat.reduceLT, Nat.reduceLeDiff, Nat.reduceAdd, Nat.reduceMul, reduceCtorEq, ↓reduceIte, anfL, gv14L, gv29L, tyb, wdV, clV, sm, h1, h2, l1, c1', aw]
  have c1 : ckM w = 0 := Classical.not_not.1 c1
  rw [if_pos c1] at l1
  have g := good_of c1
  have ok := cols_ok (gr_ok (clsok_of g))
  have hz := szM_le (graphW w) 500
  have hll : (colsM (graphW w)).length ≤ 500 := by rw [ok.len]; exact hz
  have cc : ccM w (colsM (graphW w)) = 0 := by unfold ccM; rw [if_pos c1]; exact cc_iff.2 ok
  have x1 := check_ev (w := moreW w mo)
  by_cases c2 : ckM (moreW w mo) ≠ 0
  · have l2 := grow_bad2 (cl := mo) (by omega) cc c2
    have c2' : (ckM (moreW w mo) != 0) = true := bne_iff_ne.2 c2
    generalize colsM (graphW w) = l at *
    generalize ckM (moreW w mo) = er at l2 c2' x1
    have e1 : (er == er) = true := by simp
    simp only [wdV] at sm l1 l2
    simp only [wdV, moreW, List.map_append, List.map_cons, List.map_nil, clV] at x1
    simp (maxSteps := 100000000) only [ivc, vop, vlen, vbuiltin, nilR, salloc, sappend, eq_self, Nat.reduceEqDiff, Nat.reduceLT, Nat.reduceLeDiff, Nat.reduceAdd, Nat.reduceMul, reduceCtorEq, ↓reduceIte, anfL, gv14L, gv29L, gv17L, gv32L, tyb, wdV, clV, sm, h1, h2, l1, l2, x1, c2', aw]
    exact some_true (by omega)
  have c2 : ckM (moreW w mo) = 0 := Classical.not_not.1 c2
  have gx := good_of c2
  obtain ⟨nx, ch, gr, okx, I⟩ := grow_law g gx ok
  have l2 := grow_good g gx ok gr
  have x2 := cc_ev (w := moreW w mo) (cs := nx) okW_of
  rw [if_pos c2, cc_iff.2 okx] at x2
  have hlx := okx.len
  have hzx := szM_le (graphW (moreW w mo)) 500
  have hup := sz_up g gx
  have hlen := ok.len
  have hcl : mo ∈ (moreW w mo).classes := moreW_cls.2 (.inr rfl)
  have hsel := fun e he => (clsok_of gx mo hcl).1 e he
  have chl : ch.length ≤ 1000000 := by
    have := gw_chg gr
    simp only [List.length_nil] at this
    omega
  have f1 : ∀ s : Nat, s < (colsM (graphW w)).length → 0 ≤ (colsM (graphW w)).getD s 0 → ch.contains (s : Int) = false → nx.getD s 0 = (colsM (graphW w)).getD s 0 := fun s hs h0 hc => I.same s hs h0 fun hm => by
    rw [List.contains_iff_mem.2 hm] at hc
    cases hc
  have f2 : ∀ c ∈ ch, (mo.any fun e => e.s == c) = true ∧ 0 ≤ c ∧ c < (colsM (graphW w)).length ∧ 0 ≤ (colsM (graphW w)).getD c.toNat 0 ∧ nx.getD c.toNat 0 ≠ (colsM (graphW w)).getD c.toNat 0 := fun c hc => by
    obtain ⟨⟨e, he, rfl⟩, a2, a3, a4⟩ := I.chgs c hc
    have := (hsel e he).1
    exact ⟨List.any_eq_true.2 ⟨e, he, by simp⟩, this, by omega, a3, a4⟩
  have lp1 := gr15_loop (w := w) (mo := mo) (l := colsM (graphW w)) (nx := nx) (ch := ch) (by omega) (by omega) chl f1 (colsM (graphW w)).length 0 (by omega)
  obtain ⟨b', lp2⟩ := gr20_loop (w := w) (mo := mo) (l := colsM (graphW w)) (nx := nx) (ch := ch) (by omega) (by omega) (by omega) chl f2 ch.length 0 false (by omega)
  have sme := same_ev (a := colsM (graphW w)) (b := colsM (graphW w)) (by omega)
  rw [beq_self_eq_true] at sme
  have q0 : ((ch.length : Int) != 0) = ((ch.length : Int) != 0) := rfl
  rw [show xB false = .bool false from rfl] at lp2
  simp only [clV, iV, wO, Int.natCast_zero] at lp1 lp2
  simp only [wdV, moreW, List.map_append, List.map_cons, List.map_nil, clV] at x1 x2
  have gs : ∀ c0 r, w.classes = c0 :: r → Good (moreW w c0) ∧ gwM (graphW (moreW w c0)) c0 [] (ms0 w c0 (colsM (graphW w))) [] = some (colsM (graphW w), []) := fun c0 r hh => grow_old_class g ok (by rw [hh]; simp) (by omega)
  by_cases h3 : w.classes = []
  · generalize colsM (graphW w) = l at *
    simp only [wdV, h3, List.map_nil, List.nil_append] at sm l1 l2 lp1 lp2 x1 x2
    cases b' <;> simp only [xB] at lp2 <;> simp (maxSteps := 100000000) only [ivc, vop, vlen, vbuiltin, nilR, salloc, sappend, eq_self, Nat.reduceEqDiff, Nat.reduceLT, Nat.reduceLeDiff, Nat.reduceAdd, Nat.reduceMul, Int.reduceLT, reduceCtorEq, ↓reduceIte, anfL, gv14L, gv29L, gv17L, gv26L, tyb, wdV, clV, h3, sm, h1, l1, l2, x2, lp1, lp2, aw] <;> exact some_true (by omega)
  · obtain ⟨c0, r, h4⟩ : ∃ c0 r, w.classes = c0 :: r := by
      match h5 : w.classes with
      | [] => exact absurd h5 h3
      | c0 :: r => exact ⟨c0, r, rfl⟩
    obtain ⟨gx0, gr0⟩ := gs c0 r h4
    have l3 := grow_good g gx0 ok gr0
    have hg0 : (w.classes.map clV).getD 0 .junk = .ro 2 (c0.map enV) := by rw [h4]; rfl
    have h5 : (0 < (w.classes.length : Int)) = True := eq_true (by rw [h4]; simp only [List.length_cons]; omega)
    generalize colsM (graphW w) = l at *
    simp only [wdV, List.map_nil] at sm l1 l2 l3 lp1 lp2 x1 x2
    cases b' <;> simp only [xB] at lp2 <;> simp (maxSteps := 100000000) only [ivc, vop, vlen, vbuiltin, nilR, salloc, sappend, eq_self, Nat.reduceEqDiff, Nat.reduceLT, Nat.reduceLeDiff, Nat.reduceAdd, Nat.reduceMul, Nat.reduceSub, Nat.reduceBEq, Int.reduceLE, Int.reduceToNat, reduceCtorEq, ↓reduceIte, anfL, gv14L, gv29L, gv17L, gv26L, gv20L, tyb, wdV, clV, hg0, h5, sm, h1, h2, l1, l2, l3, x2, lp1, lp2, sme, aw] <;> exact some_true (by omega)
end Go.Proofs.YtikppcfabnnhfaaDoor

namespace Go.Proofs.YtikppcfabnnhfaaDoor
open Go Go.Aw
set_option linter.unusedSimpArgs false
set_option linter.unusedVariables false
set_option maxRecDepth 100000
theorem grows_lifted (os : Os) (started : os.Started) (H : Type) (enc : TypeId × Value → H) :
    ReturnsInHanded {} Tryd.checked os 8 .any (fun w args => (Rows.colourGrowsSpec.pre enc Tryd.prog Tryd.f8 [] false w args ∧ laidMetH Tryd.prog laidL w) ∧ sizedMet enc Tryd.prog Tryd.f8 (OpenSpec.ofChange Rows.colourGrowsSpec) false w args)
      (Rows.colourGrowsSpec.post enc Tryd.prog Tryd.f8 false true false false) := by
  refine returnsInHanded_of_change_and (C := Tryd.checked) (X := fun w _ => laidMetH Tryd.prog laidL w) (fun _ _ _ hh h => h.of_heap hh) own started (by kernel_rfl) Tryd.func8
    (ChangeSpec.witness_shaped (enc := enc) (C := Tryd.checked) (os := os) (X := fun w _ => laidMetH Tryd.prog laidL w) false (World.doorLaid Tryd.prog 400 os) #[.agg #[.slice none 0 0, .slice none 0 0, .slice none 0 0], .slice none 0 0] 8 rfl (World.shaped_of_RefB (by kernel_rfl) (by kernel_rfl)) (by kernel_rfl) (by kernel_rfl) (by kernel_rfl) (door_met os _)) ?_
  intro W base args ds gs before hval hW _ hsz hL _
  refine law_contractG (G := G) (A := ANL) evokL laidOut (fn := Tryd.f8) (l := [35, 32, 33, 23, 36, 71, 83, 3, 5]) (by kernel_rfl) (ts := [35, 36]) (by rw [Tryd.params8]) (by kernel_rfl) (by kernel_rfl) (tb := 4) (by kernel_rfl) Tryd.underlying4 rfl (tab_laid hL) hval hW hsz (fun ds h => ?_) fun nx hl ht => ?_
  · match ds, h with
    | [a, b], _ => exact ⟨rfl, rfl, rfl⟩
  · match nx, hl with
    | [a, b], _ =>
      obtain ⟨wa, hia, hra, ha⟩ := world_of (ht 0 35 a rfl rfl)
      obtain ⟨lb, rb, _, nb, hb⟩ := pairs_of Tryd.underlying36 Tryd.underlying71 rfl (by kernel_rfl) (by kernel_rfl) (ht 1 36 b rfl rfl)
      refine ⟨[], ?_⟩
      have := grows_ev (mo := lb) hia
      show EL.F 8 [argA Tryd.prog 35 a.2, argA Tryd.prog 36 b.2] [] = _
      rw [hb]
      simp only [argA, Tryd.underlying35, Tryd.underlying36, List.getD_cons_zero]
      rw [ha]
      exact this
theorem grows_holds : Rows.ColourGrowsSaid :=
  OpenClaim.holds_of_wide 8 Tryd.f8 rfl rfl rfl rfl rfl rfl rfl ⟨rfl, rfl, rfl, rfl, rfl⟩ rfl rfl rfl rfl rfl (by kernel_rfl) Tryd.func8 (by kernel_rfl)
    (of_decide_eq_true (by kernel_rfl)) (by unfold Func.isWrapper; first | (rw [if_pos (by decide +kernel)]; kernel_rfl) | (rw [if_neg (by decide +kernel)]; exact ⟨rfl, rfl⟩))
    (fun os started H enc _ => grows_lifted os started H enc)
theorem grows_card : Rows.ColourGrowsCardSaid :=
  Claim7.holds_tied_plain_at .later [] [.data] true (true, "3dc01f15a731540aeb3bad63498fda4938458450b3483f3d83b3da088dc41856") false
    grows_holds (fun _ h => by cases h) (by kernel_rfl) (fun _ h => by cases h) colourGrows_row_tie rfl ⟨rfl, rfl⟩ (by kernel_rfl) rfl
    (fun f fn hf hfn => by
      obtain rfl : f = 8 := Option.some.inj ((show Tryd.prog.funcNamed "hackamore/hackamorelaw23.ColourGrows" = some 8 by kernel_rfl).symm.trans hf) |>.symm
      obtain rfl : fn = Tryd.f8 := (Option.some.inj (Tryd.func8.symm.trans hfn)).symm
      exact ⟨by kernel_rfl, fun j t ht => by
        rw [Tryd.params8] at ht
        have hm : t ∈ [35, 36] := by simpa using Array.mem_of_getElem? ht
        have hall : ([35, 36].all fun u => !Tryd.prog.wantsStandIn u) = true := by kernel_rfl
        exact (show Tryd.prog.wantsStandIn t = false by simpa using List.all_eq_true.1 hall t hm)⟩)
    (by kernel_rfl)
end Go.Proofs.YtikppcfabnnhfaaDoor

