/- Plain: Least says the least number of colours. -/
import Derived.Test.YtikppcfabnnhfaaDoorCNS6
namespace Go.Proofs.YtikppcfabnnhfaaDoor
open Go Go.Aw
set_option linter.unusedVariables false
theorem done_ms : doneC [] (ms 500) := ⟨ms_ok, by simp, fun i hi h => by rw [ms_get hi] at h; omega⟩
/-- A graph as a world has it. -/
structure GrOk (g : List Int) : Prop where
  sym : ∀ a b, selN a → selN b → confG g a b → confG g b a
  irr : ∀ a, selN a → ¬ confG g a a
theorem knW_sel {g : List Int} {s : Int} (h : s ∈ knW g) : selN s := by
  have := knI_mem.1 h
  exact ⟨this.1, by omega⟩
theorem knW_mem {g : List Int} {s : Int} : s ∈ knW g ↔ selN s ∧ hasW g 0 s = true := by
  unfold knW
  rw [knI_mem]
  unfold selN
  constructor
  · rintro ⟨a, b, c⟩; exact ⟨⟨a, by omega⟩, c⟩
  · rintro ⟨⟨a, b⟩, c⟩; exact ⟨a, by omega, c⟩
theorem knW_nd {g : List Int} : (knW g).Nodup := knI_nodup
theorem knW_le {g : List Int} : (knW g).length ≤ 500 := knI_len
/-- Found just if there is one. -/
theorem col_iff {g : List Int} (hg : GrOk g) {most : Int} (hm : most ≤ 500) : (colM g most (knW g) (ms 500)).isSome = true ↔ Cable g (knW g) most := by
  constructor
  · intro h
    obtain ⟨x, hx⟩ := Option.isSome_iff_exists.1 h
    obtain ⟨f, f1, f2⟩ := col_sound hm hg.sym hg.irr done_ms (fun s hs => knW_sel hs) (by simp) knW_nd (by simp) (by simp) hx
    exact ⟨f, fun s hs => f1 s (by simpa using hs), fun a ha b hb => f2 a (by simpa using ha) b (by simpa using hb)⟩
  · rintro ⟨f, f1, f2⟩
    exact col_complete hm done_ms (fun s hs => knW_sel hs) (by simp) knW_nd ⟨f, fun s hs => f1 s (by simpa using hs), fun a ha b hb => f2 a (by simpa using ha) b (by simpa using hb), by simp⟩
theorem idx_inj {L : List Int} {a b : Int} (ha : a ∈ L) (hb : b ∈ L) (h : L.idxOf a = L.idxOf b) : a = b := by
  have h1 := List.getElem_idxOf (List.idxOf_lt_length_of_mem ha)
  have h2 := List.getElem_idxOf (List.idxOf_lt_length_of_mem hb)
  rw [← h1, ← h2]
  congr 1
theorem cable_len {g : List Int} (hg : GrOk g) : Cable g (knW g) (knW g).length :=
  ⟨fun s => (knW g).idxOf s, fun s hs => by
    have := List.idxOf_lt_length_of_mem hs
    dsimp only
    omega, fun a ha b hb hab he => by
    dsimp only at he
    have : a = b := idx_inj ha hb (by omega)
    subst this
    exact hg.irr a (knW_sel ha) hab⟩
theorem minM_spec {g L cs : List Int} : ∀ {k : Nat} {m : Int}, (m ≤ minM g L cs k m ∧ minM g L cs k m ≤ m + k) ∧ (∀ j, m ≤ j → j < minM g L cs k m → (colM g j L cs).isSome = false) ∧ (minM g L cs k m < m + k → (colM g (minM g L cs k m) L cs).isSome = true)
  | 0, m => ⟨⟨Int.le_refl _, by simp [minM]⟩, fun j h1 h2 => by simp only [minM] at h2; omega, fun h => by simp only [minM] at h; omega⟩
  | k + 1, m => by
    rw [minM]
    split
    · rename_i h
      exact ⟨⟨Int.le_refl _, by omega⟩, fun j h1 h2 => by omega, fun _ => h⟩
    · rename_i h
      obtain ⟨⟨a1, a2⟩, b, c⟩ := minM_spec (g := g) (L := L) (cs := cs) (k := k) (m := m + 1)
      refine ⟨⟨by omega, by omega⟩, fun j h1 h2 => ?_, fun h1 => c (by omega)⟩
      by_cases e : j = m
      · subst e; simpa using h
      · exact b j (by omega) h2
/-- **Least.** -/
theorem least_spec {g : List Int} (hg : GrOk g) : 0 ≤ leastW g ∧ Cable g (knW g) (leastW g) ∧ ∀ j, 0 ≤ j → Cable g (knW g) j → leastW g ≤ j := by
  have hL := knW_le (g := g)
  obtain ⟨⟨a1, a2⟩, b, c⟩ := minM_spec (g := g) (L := knW g) (cs := ms 500) (k := (knW g).length) (m := 0)
  have e : minM g (knW g) (ms 500) (knW g).length 0 = leastW g := rfl
  rw [e] at a1 a2 b c
  refine ⟨a1, ?_, fun j hj hc => ?_⟩
  · by_cases h : leastW g < 0 + (knW g).length
    · exact (col_iff hg (by omega)).1 (c h)
    · have : leastW g = (knW g).length := by omega
      rw [this]
      exact cable_len hg
  · rcases Int.lt_or_le j (leastW g) with h | h
    · have := b j hj h
      rw [(col_iff hg (by omega)).2 hc] at this
      cases this
    · exact h
/-! What the classes say. -/
def Kn (cs : List (List Et)) (s : Int) : Prop := ∃ c ∈ cs, s ∈ c.map Et.s
def Cf (cs : List (List Et)) (a b : Int) : Prop := a ≠ b ∧ ∃ c ∈ cs, a ∈ c.map Et.s ∧ b ∈ c.map Et.s
def CabW (cs : List (List Et)) (k : Int) : Prop := ∃ f : Int → Int, (∀ s, Kn cs s → 0 ≤ f s ∧ f s < k) ∧ ∀ a b, Cf cs a b → f a ≠ f b
theorem kn_sel {cs : List (List Et)} (h : clsok cs) {s : Int} (hs : Kn cs s) : selN s := by
  obtain ⟨c, hc, hs⟩ := hs
  obtain ⟨e, he, rfl⟩ := List.mem_map.1 hs
  exact (h c hc).1 e he
theorem gr_ok {w : Wd} (h : clsok w.classes) : GrOk (graphW w) where
  sym a b ha hb hab := by
    obtain ⟨h1, c, hc, h2, h3⟩ := (nearW ha hb h).1 hab
    exact (nearW hb ha h).2 ⟨h1.symm, c, hc, h3, h2⟩
  irr a ha hab := ((nearW ha ha h).1 hab).1 rfl
theorem cable_iff {w : Wd} (h : clsok w.classes) {k : Int} : Cable (graphW w) (knW (graphW w)) k ↔ CabW w.classes k := by
  have km : ∀ s, s ∈ knW (graphW w) ↔ Kn w.classes s := fun s => by
    rw [knW_mem]
    constructor
    · rintro ⟨h1, h2⟩; exact (knownW h1 h).1 h2
    · intro h1; exact ⟨kn_sel h h1, (knownW (kn_sel h h1) h).2 h1⟩
  constructor
  · rintro ⟨f, f1, f2⟩
    refine ⟨f, fun s hs => f1 s ((km s).2 hs), fun a b hab => ?_⟩
    obtain ⟨h1, c, hc, h2, h3⟩ := hab
    have ka : Kn w.classes a := ⟨c, hc, h2⟩
    have kb : Kn w.classes b := ⟨c, hc, h3⟩
    exact f2 a ((km a).2 ka) b ((km b).2 kb) ((nearW (kn_sel h ka) (kn_sel h kb) h).2 ⟨h1, c, hc, h2, h3⟩)
  · rintro ⟨f, f1, f2⟩
    refine ⟨f, fun s hs => f1 s ((km s).1 hs), fun a ha b hb hab => f2 a b ?_⟩
    exact (nearW (knW_sel ha) (knW_sel hb) h).1 hab
/-- **Least, in the world's own words.** -/
theorem least_w {w : Wd} (h : clsok w.classes) : 0 ≤ leastW (graphW w) ∧ CabW w.classes (leastW (graphW w)) ∧ ∀ j, 0 ≤ j → CabW w.classes j → leastW (graphW w) ≤ j := by
  obtain ⟨a, b, c⟩ := least_spec (gr_ok h)
  exact ⟨a, (cable_iff h).1 b, fun j hj hc => c j hj ((cable_iff h).2 hc)⟩
theorem cab_sub {cs ds : List (List Et)} {k : Int} (h : ∀ c ∈ cs, c ∈ ds) (hc : CabW ds k) : CabW cs k := by
  obtain ⟨f, f1, f2⟩ := hc
  refine ⟨f, fun s ⟨c, hc, hs⟩ => f1 s ⟨c, h c hc, hs⟩, fun a b ⟨h1, c, hc, h2⟩ => f2 a b ⟨h1, c, h c hc, h2⟩⟩
/-- More classes need no less. -/
theorem least_mono {v w : Wd} (hv : clsok v.classes) (hw : clsok w.classes) (h : ∀ c ∈ v.classes, c ∈ w.classes) : leastW (graphW v) ≤ leastW (graphW w) :=
  (least_w hv).2.2 _ (least_w hw).1 (cab_sub h (least_w hw).2.1)
/-- A list of k different numbers below n is not longer than n. -/
theorem pigeon : ∀ {n : Nat} {l : List Int}, l.Nodup → (∀ x ∈ l, 0 ≤ x ∧ x < n) → l.length ≤ n
  | 0, l, _, h => by
    match l with
    | [] => exact Nat.le_refl 0
    | x :: l => have := h x (by simp); omega
  | n + 1, l, hnd, h => by
    by_cases hm : (n : Int) ∈ l
    · have hl := List.length_erase_of_mem hm
      have := pigeon (n := n) (l := l.erase (n : Int)) (hnd.erase _) (fun x hx => by
        have hx' := (List.Nodup.mem_erase_iff hnd).1 hx
        have := h x hx'.2
        have hne := hx'.1
        omega)
      have hp := List.length_pos_of_mem hm
      omega
    · have := pigeon (n := n) (l := l) hnd (fun x hx => by
        have := h x hx
        have hne : x ≠ n := fun e => hm (e ▸ hx)
        omega)
      omega
theorem nodup_map_of {f : Int → Int} : ∀ {l : List Int}, l.Nodup → (∀ a ∈ l, ∀ b ∈ l, a ≠ b → f a ≠ f b) → (l.map f).Nodup
  | [], _, _ => List.nodup_nil
  | x :: l, h, hf => by
    rw [List.map_cons, List.nodup_cons]
    refine ⟨fun hm => ?_, nodup_map_of (List.nodup_cons.1 h).2 fun a ha b hb => hf a (by simp [ha]) b (by simp [hb])⟩
    obtain ⟨y, hy, he⟩ := List.mem_map.1 hm
    exact hf y (by simp [hy]) x (by simp) (fun e => (List.nodup_cons.1 h).1 (e ▸ hy)) he
/-- Each class needs its entries' number. -/
theorem least_class {w : Wd} (h : clsok w.classes) {c : List Et} (hc : c ∈ w.classes) : (c.length : Int) ≤ leastW (graphW w) := by
  obtain ⟨h0, ⟨f, f1, f2⟩, _⟩ := least_w h
  have hnd := nodup_map_of (f := f) (h c hc).2 (fun a ha b hb hab => f2 a b ⟨hab, c, hc, ha, hb⟩)
  have := pigeon (n := (leastW (graphW w)).toNat) hnd (fun x hx => by
    obtain ⟨s, hs, rfl⟩ := List.mem_map.1 hx
    have := f1 s ⟨c, hc, hs⟩
    omega)
  simp only [List.length_map] at this
  omega
end Go.Proofs.YtikppcfabnnhfaaDoor
