/- Plain: the graph. -/
import Derived.Test.YtikppcfabnnhfaaDoorCNS1
namespace Go.Proofs.YtikppcfabnnhfaaDoor
open Go Go.Aw
set_option linter.unusedSimpArgs false
set_option linter.unusedVariables false
def gok (g : List Int) : Prop := g.length = 4008 ∧ allR g
theorem gok_add {g : List Int} {c : Nat} {n : Int} (h : gok g) : gok (addW g c n) := ⟨by rw [addW_len]; exact h.1, addW_r h.2⟩
theorem nb_eq (s : Int) : 8 + s.toNat * 8 = 8 * (s.toNat + 1) := by omega
theorem nb_eq' (s : Int) : nb s = 8 * (s.toNat + 1) := by unfold nb; omega
def selN (s : Int) : Prop := 0 ≤ s ∧ s < 500
theorem near_add {g : List Int} {s n a b : Int} (h : gok g) (hs : selN s) (hn : selN n) (ha : selN a) (hb : selN b) : hasW (addW g (8 + s.toNat * 8) n) (nb a) b = (hasW g (nb a) b || decide (s = a ∧ n = b)) := by
  rw [nb_eq, nb_eq', has_add h.2 (by have := h.1; have := hs.2; omega) ⟨hn.1, by have := hn.2; omega⟩ ⟨hb.1, by have := hb.2; omega⟩]
  congr 1
  rw [Bool.eq_iff_iff, decide_eq_true_eq, decide_eq_true_eq]
  have := hs.1; have := ha.1
  omega
theorem near_known {g : List Int} {n a b : Int} (h : gok g) (hn : selN n) (ha : selN a) (hb : selN b) : hasW (addW g 0 n) (nb a) b = hasW g (nb a) b := by
  rw [show (0 : Nat) = 8 * 0 from rfl, nb_eq', has_add h.2 (by have := h.1; omega) ⟨hn.1, by have := hn.2; omega⟩ ⟨hb.1, by have := hb.2; omega⟩]
  simp
theorem known_add {g : List Int} {n m : Int} (h : gok g) (hn : selN n) (hm : 0 ≤ m ∧ m < 512) : hasW (addW g 0 n) 0 m = (hasW g 0 m || decide (n = m)) := by
  have e := has_add (a := 0) (b := 0) (n := n) (m := m) h.2 (by have := h.1; omega) ⟨hn.1, by have := hn.2; omega⟩ hm
  rw [show 8 * 0 = 0 from rfl] at e
  rw [e]
  simp
theorem known_near {g : List Int} {s n m : Int} (h : gok g) (hs : selN s) (hn : selN n) (hm : 0 ≤ m ∧ m < 512) : hasW (addW g (8 + s.toNat * 8) n) 0 m = hasW g 0 m := by
  have e := has_add (a := s.toNat + 1) (b := 0) (n := n) (m := m) h.2 (by have := h.1; have := hs.2; omega) ⟨hn.1, by have := hn.2; omega⟩ hm
  rw [show 8 * 0 = 0 from rfl, ← nb_eq] at e
  rw [e]
  simp
theorem gok_pair {g : List Int} {x y : Et} (h : gok g) : gok (pairM g x y) := gok_add (gok_add h)
theorem near_pair {g : List Int} {x y : Et} {a b : Int} (h : gok g) (hx : selN x.s) (hy : selN y.s) (ha : selN a) (hb : selN b) : hasW (pairM g x y) (nb a) b = true ↔ hasW g (nb a) b = true ∨ (x.s = a ∧ y.s = b) ∨ (y.s = a ∧ x.s = b) := by
  unfold pairM
  rw [near_add (gok_add h) hy hx ha hb, near_add h hx hy ha hb, Bool.or_eq_true, Bool.or_eq_true, decide_eq_true_eq, decide_eq_true_eq, or_assoc]
theorem known_pair {g : List Int} {x y : Et} {m : Int} (h : gok g) (hx : selN x.s) (hy : selN y.s) (hm : 0 ≤ m ∧ m < 512) : hasW (pairM g x y) 0 m = hasW g 0 m := by
  unfold pairM
  rw [known_near (gok_add h) hy hx hm, known_near h hx hy hm]
theorem gok_pairs {x : Et} : ∀ {p : List Et} {g : List Int}, gok g → gok (p.foldl (pairM · x ·) g)
  | [], _, h => h
  | _ :: p, _, h => gok_pairs (p := p) (gok_pair h)
theorem near_pairs {x : Et} {a b : Int} (hx : selN x.s) (ha : selN a) (hb : selN b) : ∀ {p : List Et} {g : List Int}, gok g → (∀ y ∈ p, selN y.s) → (hasW (p.foldl (pairM · x ·) g) (nb a) b = true ↔ hasW g (nb a) b = true ∨ ∃ y ∈ p, (x.s = a ∧ y.s = b) ∨ (y.s = a ∧ x.s = b))
  | [], g, h, _ => by simp
  | y :: p, g, h, hp => by
    rw [List.foldl_cons, near_pairs hx ha hb (gok_pair h) (fun z hz => hp z (by simp [hz])), near_pair h hx (hp y (by simp)) ha hb, or_assoc]
    simp only [List.mem_cons, exists_eq_or_imp]
theorem known_pairs {x : Et} {m : Int} (hx : selN x.s) (hm : 0 ≤ m ∧ m < 512) : ∀ {p : List Et} {g : List Int}, gok g → (∀ y ∈ p, selN y.s) → hasW (p.foldl (pairM · x ·) g) 0 m = hasW g 0 m
  | [], g, h, _ => rfl
  | y :: p, g, h, hp => by
    rw [List.foldl_cons, known_pairs hx hm (gok_pair h) (fun z hz => hp z (by simp [hz])), known_pair h hx (hp y (by simp)) hm]
theorem gok_ents : ∀ {r p : List Et} {g : List Int}, gok g → gok (entsM p r g)
  | [], _, _, h => h
  | _ :: r, _, _, h => gok_ents (r := r) (gok_pairs (gok_add h))
theorem known_ents {m : Int} (hm : 0 ≤ m ∧ m < 512) : ∀ {r p : List Et} {g : List Int}, gok g → (∀ y ∈ p, selN y.s) → (∀ y ∈ r, selN y.s) → (hasW (entsM p r g) 0 m = true ↔ hasW g 0 m = true ∨ ∃ y ∈ r, y.s = m)
  | [], p, g, h, _, _ => by simp [entsM]
  | x :: r, p, g, h, hp, hr => by
    have hx := hr x (by simp)
    rw [entsM, known_ents hm (gok_pairs (gok_add h)) (fun y hy => by rcases List.mem_append.1 hy with hy | hy; exact hp y hy; rw [List.mem_singleton] at hy; exact hy ▸ hx) (fun y hy => hr y (by simp [hy])), known_pairs hx hm (gok_add h) hp, known_add h hx hm, Bool.or_eq_true, decide_eq_true_eq, or_assoc]
    simp only [List.mem_cons, exists_eq_or_imp]
/-- Two selectors of one list, of which the first ones were looked at. -/
theorem near_ents {a b : Int} (ha : selN a) (hb : selN b) : ∀ {r p : List Et} {g : List Int}, gok g → (∀ y ∈ p, selN y.s) → (∀ y ∈ r, selN y.s) → ((p ++ r).map Et.s).Nodup →
    (hasW (entsM p r g) (nb a) b = true ↔ hasW g (nb a) b = true ∨ (a ≠ b ∧ ∃ x ∈ p ++ r, ∃ y ∈ p ++ r, x.s = a ∧ y.s = b ∧ (x ∈ r ∨ y ∈ r)))
  | [], p, g, h, _, _, _ => by simp [entsM]
  | x :: r, p, g, h, hp, hr, hnd => by
    have hx := hr x (by simp)
    have e : (p ++ [x]) ++ r = p ++ x :: r := by simp
    rw [entsM, near_ents ha hb (gok_pairs (gok_add h)) (fun y hy => by rcases List.mem_append.1 hy with hy | hy; exact hp y hy; rw [List.mem_singleton] at hy; exact hy ▸ hx) (fun y hy => hr y (by simp [hy])) (by rw [e]; exact hnd), near_pairs hx ha hb (gok_add h) hp, near_known h hx ha hb, e, or_assoc]
    have hne : ∀ y ∈ p, y.s ≠ x.s := fun y hy he => by
      rw [List.map_append, List.nodup_append] at hnd
      exact hnd.2.2 y.s (List.mem_map.2 ⟨y, hy, rfl⟩) x.s (by simp) he
    refine or_congr_right ?_
    constructor
    · rintro (⟨y, hy, h1⟩ | ⟨hab, u, hu, v, hv, h1, h2, h3⟩)
      · have hny := hne y hy
        rcases h1 with ⟨rfl, rfl⟩ | ⟨rfl, rfl⟩
        · exact ⟨fun he => hny he.symm, x, by simp, y, by simp [hy], rfl, rfl, .inl (by simp)⟩
        · exact ⟨hny, y, by simp [hy], x, by simp, rfl, rfl, .inr (by simp)⟩
      · exact ⟨hab, u, hu, v, hv, h1, h2, h3.imp (fun h => by simp [h]) (fun h => by simp [h])⟩
    · rintro ⟨hab, u, hu, v, hv, rfl, rfl, h3⟩
      by_cases c1 : u ∈ r ∨ v ∈ r
      · exact .inr ⟨hab, u, hu, v, hv, rfl, rfl, c1⟩
      · have c2 : u ∉ r := fun h => c1 (.inl h)
        have c3 : v ∉ r := fun h => c1 (.inr h)
        have d1 : u = x ∨ u ∈ p := by
          rcases List.mem_append.1 hu with h | h
          · exact .inr h
          · rcases List.mem_cons.1 h with h | h
            · exact .inl h
            · exact absurd h c2
        have d2 : v = x ∨ v ∈ p := by
          rcases List.mem_append.1 hv with h | h
          · exact .inr h
          · rcases List.mem_cons.1 h with h | h
            · exact .inl h
            · exact absurd h c3
        have d3 : u = x ∨ v = x := by
          rcases h3 with h | h
          · rcases List.mem_cons.1 h with h | h
            · exact .inl h
            · exact absurd h c2
          · rcases List.mem_cons.1 h with h | h
            · exact .inr h
            · exact absurd h c3
        left
        rcases d3 with h | h
        · subst h
          rcases d2 with h | h
          · exact absurd (by rw [h]) hab
          · exact ⟨v, h, .inl ⟨rfl, rfl⟩⟩
        · subst h
          rcases d1 with h | h
          · exact absurd (by rw [h]) hab
          · exact ⟨u, h, .inr ⟨rfl, rfl⟩⟩
theorem near_class {c : List Et} {g : List Int} {a b : Int} (ha : selN a) (hb : selN b) (h : gok g) (hc : ∀ y ∈ c, selN y.s) (hnd : (c.map Et.s).Nodup) :
    hasW (entsM [] c g) (nb a) b = true ↔ hasW g (nb a) b = true ∨ (a ≠ b ∧ a ∈ c.map Et.s ∧ b ∈ c.map Et.s) := by
  rw [near_ents (p := []) ha hb h (fun y hy => by cases hy) hc hnd]
  refine or_congr_right (and_congr_right fun _ => ?_)
  simp only [List.nil_append, List.mem_map]
  constructor
  · rintro ⟨x, hx, y, hy, h1, h2, _⟩
    exact ⟨⟨x, hx, h1⟩, ⟨y, hy, h2⟩⟩
  · rintro ⟨⟨x, hx, h1⟩, ⟨y, hy, h2⟩⟩
    exact ⟨x, hx, y, hy, h1, h2, .inl hx⟩
theorem gok_zs : gok (zs 4008) := ⟨zs_len 4008, zs_r 4008⟩
/-- The classes' lists, as they are behind a check. -/
def clsok (cs : List (List Et)) : Prop := ∀ c ∈ cs, (∀ y ∈ c, selN y.s) ∧ (c.map Et.s).Nodup
theorem known_graph {m : Int} (hm : 0 ≤ m ∧ m < 512) : ∀ {cs : List (List Et)} {g : List Int}, gok g → clsok cs → (hasW (graphM cs g) 0 m = true ↔ hasW g 0 m = true ∨ ∃ c ∈ cs, m ∈ c.map Et.s)
  | [], g, h, _ => by simp [graphM]
  | c :: cs, g, h, hc => by
    have := known_graph hm (cs := cs) (gok_ents (r := c) (p := []) h) (fun d hd => hc d (by simp [hd]))
    simp only [graphM, List.foldl_cons] at this ⊢
    rw [this, known_ents hm h (fun y hy => by cases hy) (hc c (by simp)).1, or_assoc]
    simp only [List.mem_cons, exists_eq_or_imp, List.mem_map]
theorem near_graph {a b : Int} (ha : selN a) (hb : selN b) : ∀ {cs : List (List Et)} {g : List Int}, gok g → clsok cs → (hasW (graphM cs g) (nb a) b = true ↔ hasW g (nb a) b = true ∨ ∃ c ∈ cs, a ≠ b ∧ a ∈ c.map Et.s ∧ b ∈ c.map Et.s)
  | [], g, h, _ => by simp [graphM]
  | c :: cs, g, h, hc => by
    have := near_graph ha hb (cs := cs) (gok_ents (r := c) (p := []) h) (fun d hd => hc d (by simp [hd]))
    simp only [graphM, List.foldl_cons] at this ⊢
    rw [this, near_class ha hb h (hc c (by simp)).1 (hc c (by simp)).2, or_assoc]
    simp only [List.mem_cons, exists_eq_or_imp]
/-- **Which selectors are understood.** -/
theorem known5W {w : Wd} {m : Int} (hm : 0 ≤ m ∧ m < 512) (hc : clsok w.classes) : hasW (graphW w) 0 m = true ↔ ∃ c ∈ w.classes, m ∈ c.map Et.s := by
  rw [graphW, known_graph hm gok_zs hc, has_zs hm.1]
  simp
theorem knownW {w : Wd} {m : Int} (hm : selN m) (hc : clsok w.classes) : hasW (graphW w) 0 m = true ↔ ∃ c ∈ w.classes, m ∈ c.map Et.s := known5W ⟨hm.1, by have := hm.2; omega⟩ hc
/-- **Which selectors conflict.** -/
theorem nearW {w : Wd} {a b : Int} (ha : selN a) (hb : selN b) (hc : clsok w.classes) : hasW (graphW w) (nb a) b = true ↔ a ≠ b ∧ ∃ c ∈ w.classes, a ∈ c.map Et.s ∧ b ∈ c.map Et.s := by
  rw [graphW, near_graph ha hb gok_zs hc, has_zs hb.1]
  constructor
  · rintro (h | ⟨c, hc, h1, h2, h3⟩)
    · cases h
    · exact ⟨h1, c, hc, h2, h3⟩
  · rintro ⟨h1, c, hc, h2, h3⟩
    exact .inr ⟨c, hc, h1, h2, h3⟩
end Go.Proofs.YtikppcfabnnhfaaDoor
