/- A part of the proof of ColourTablesCardSaid. -/
import Derived.Test.YtikppcfabnnhfaaDoorC3
/- Plain: sets of numbers. -/
namespace Go.Proofs.YtikppcfabnnhfaaDoor
open Go Go.Aw
set_option linter.unusedSimpArgs false
set_option linter.unusedVariables false
def u64r (x : Int) : Prop := 0 ≤ x /\ x < 18446744073709551616
theorem ofNat_u64 {x : Nat} (h : x < 18446744073709551616) : (BitVec.ofInt IntKind.u64.bits (x : Int)).toNat = x := by
 rw [BitVec.toNat_ofInt]
 show ((x : Int) % ((2 ^ 64 : Nat) : Int)).toNat = x
 rw [Int.emod_eq_of_lt (by omega) (by omega)]
 rfl
theorem and_nat {x y : Nat} (hx : x < 18446744073709551616) (hy : y < 18446744073709551616) : bitsI .and .u64 x y = ((x &&& y : Nat) : Int) := by
 unfold bitsI
 simp only
 rw [BitVec.toNat_and, ofNat_u64 hx, ofNat_u64 hy]
 have h : x &&& y ≤ y := Nat.and_le_right
 show ((x &&& y : Nat) : Int) % 18446744073709551616 = _
 exact Int.emod_eq_of_lt (by omega) (by omega)
theorem or_nat {x y : Nat} (hx : x < 18446744073709551616) (hy : y < 18446744073709551616) : bitsI .or .u64 x y = ((x ||| y : Nat) : Int) := by
 unfold bitsI
 simp only
 rw [BitVec.toNat_or, ofNat_u64 hx, ofNat_u64 hy]
 have h : x ||| y < 2 ^ 64 := Nat.or_lt_two_pow hx hy
 show ((x ||| y : Nat) : Int) % 18446744073709551616 = _
 exact Int.emod_eq_of_lt (by omega) (by omega)
theorem bitW_nat {x : Nat} {j : Int} (hx : x < 18446744073709551616) (h0 : 0 ≤ j) (h1 : j < 64) : bitW x j = x.testBit j.toNat := by
 unfold bitW
 have e1 : min j.toNat IntKind.u64.bits = j.toNat := Nat.min_eq_left (show j.toNat ≤ 64 by omega)
 have e2 : ((x : Int)).fdiv (2 ^ j.toNat) = ((x / 2 ^ j.toNat : Nat) : Int) := by
  rw [Int.fdiv_eq_ediv_of_nonneg _ (Int.le_of_lt (Int.pow_pos (by omega)))]
  simp
 have e3 : x / 2 ^ j.toNat ≤ x := Nat.div_le_self _ _
 rw [e1, e2, show (1 : Int) = ((1 : Nat) : Int) from rfl, and_nat (by omega) (by omega), Nat.and_one_is_mod, Nat.testBit_eq_decide_div_mod_eq]
 rw [Bool.eq_iff_iff, beq_iff_eq, decide_eq_true_eq]
 omega
theorem orW_nat {x : Nat} {j : Int} (hx : x < 18446744073709551616) (h0 : 0 ≤ j) (h1 : j < 64) : orW x j = ((x ||| 2 ^ j.toNat : Nat) : Int) := by
 unfold orW
 have e1 : min j.toNat IntKind.u64.bits = j.toNat := Nat.min_eq_left (show j.toNat ≤ 64 by omega)
 have e4 : (2 : Nat) ^ j.toNat < 2 ^ 64 := Nat.pow_lt_pow_right (by omega) (by omega)
 have e2 : IntKind.u64.wrap (1 * 2 ^ j.toNat) = ((2 ^ j.toNat : Nat) : Int) := by
  show (1 * (2 : Int) ^ j.toNat) % 18446744073709551616 = _
  rw [Int.one_mul]
  have : ((2 : Int) ^ j.toNat) = ((2 ^ j.toNat : Nat) : Int) := by simp
  rw [this]
  generalize 2 ^ j.toNat = p at e4
  exact Int.emod_eq_of_lt (by omega) (by omega)
 rw [e1, e2, or_nat hx e4]
theorem u64nat {x : Int} (h : u64r x) : ∃ n : Nat, x = n /\ n < 18446744073709551616 := ⟨x.toNat, by have := h.1; omega, by have := h.1; have := h.2; omega⟩
theorem orW_r {x j : Int} (h : u64r x) (h0 : 0 ≤ j) (h1 : j < 64) : u64r (orW x j) := by
 obtain ⟨n, rfl, hn⟩ := u64nat h
 rw [orW_nat hn h0 h1]
 have e4 : (2 : Nat) ^ j.toNat < 2 ^ 64 := Nat.pow_lt_pow_right (by omega) (by omega)
 have : n ||| 2 ^ j.toNat < 2 ^ 64 := Nat.or_lt_two_pow hn e4
 exact ⟨by omega, by omega⟩
theorem bit_or {x j i : Int} (h : u64r x) (h0 : 0 ≤ j) (h1 : j < 64) (h2 : 0 ≤ i) (h3 : i < 64) : bitW (orW x j) i = (bitW x i || decide (j = i)) := by
 obtain ⟨n, rfl, hn⟩ := u64nat h
 have hr := orW_r h h0 h1
 rw [orW_nat hn h0 h1] at hr ⊢
 rw [bitW_nat (by have := hr.2; omega) h2 h3, bitW_nat hn h2 h3, Nat.testBit_or, Nat.testBit_two_pow]
 congr 1
 by_cases e : j = i
 ·subst e; simp
 ·have : j.toNat ≠ i.toNat := by omega
  simp [this, e]
def allR (l : List Int) : Prop := ∀ x ∈ l, u64r x
theorem allR_getD {l : List Int} (h : allR l) (i : Nat) : u64r (l.getD i 0) := by
 rw [List.getD_eq_getElem?_getD]
 cases e : l[i]? with
 | none => exact ⟨by simp, by simp⟩
 | some x => exact h x (List.mem_of_getElem? e)
theorem addW_r {l : List Int} {c : Nat} {n : Int} (h : allR l) : allR (addW l c n) := by
 intro x hx
 unfold addW at hx
 rcases List.mem_or_eq_of_mem_set hx with hx | hx
 ·exact h x hx
 ·subst hx
  exact orW_r (allR_getD h _) (by omega) (by omega)
theorem zs_r (n : Nat) : allR (zs n) := fun x hx => by
 have := List.eq_of_mem_replicate hx
 subst this
 exact ⟨by omega, by omega⟩
/-- Add, then ask. Rows begin at places that are multiples of 8. -/
theorem has_add {l : List Int} {a b : Nat} {n m : Int} (h : allR l) (ha : 8 * a + 8 ≤ l.length) (hn : 0 ≤ n /\ n < 512) (hm : 0 ≤ m /\ m < 512) :
  hasW (addW l (8 * a) n) (8 * b) m = (hasW l (8 * b) m || decide (a = b /\ n = m)) := by
 unfold hasW addW
 by_cases e : 8 * a + (n / 64).toNat = 8 * b + (m / 64).toNat
 ·have e1 : a = b := by omega
  have e2 : n / 64 = m / 64 := by omega
  have e3 : (l.set (8 * a + (n / 64).toNat) (orW (l.getD (8 * a + (n / 64).toNat) 0) (n % 64))).getD (8 * b + (m / 64).toNat) 0 = orW (l.getD (8 * a + (n / 64).toNat) 0) (n % 64) := by
   rw [e, List.getD_eq_getElem?_getD, List.getElem?_set]
   have : 8 * b + (m / 64).toNat < l.length := by omega
   simp [this]
  rw [e3, bit_or (allR_getD h _) (by omega) (by omega) (by omega) (by omega), e]
  congr 1
  rw [Bool.eq_iff_iff, decide_eq_true_eq, decide_eq_true_eq]
  omega
 ·have e3 : (l.set (8 * a + (n / 64).toNat) (orW (l.getD (8 * a + (n / 64).toNat) 0) (n % 64))).getD (8 * b + (m / 64).toNat) 0 = l.getD (8 * b + (m / 64).toNat) 0 := by
   rw [List.getD_eq_getElem?_getD, List.getElem?_set, if_neg e, <- List.getD_eq_getElem?_getD]
  rw [e3]
  have : ¬ (a = b /\ n = m) := by
   rintro ⟨rfl, rfl⟩
   exact e rfl
  simp [this]
theorem has_zs {n b : Nat} {m : Int} (hm : 0 ≤ m) : hasW (zs n) b m = false := by
 unfold hasW
 have : (zs n).getD (b + (m / 64).toNat) 0 = 0 := by
  rw [List.getD_eq_getElem?_getD, zs, List.getElem?_replicate]
  split <;> rfl
 rw [this, show (0 : Int) = ((0 : Nat) : Int) from rfl, bitW_nat (by omega) (by omega) (by omega)]
 simp
end Go.Proofs.YtikppcfabnnhfaaDoor

/- Plain: the graph. -/
namespace Go.Proofs.YtikppcfabnnhfaaDoor
open Go Go.Aw
set_option linter.unusedSimpArgs false
set_option linter.unusedVariables false
def gok (g : List Int) : Prop := g.length = 4008 /\ allR g
theorem gok_add {g : List Int} {c : Nat} {n : Int} (h : gok g) : gok (addW g c n) := ⟨by rw [addW_len]; exact h.1, addW_r h.2⟩
theorem nb_eq (s : Int) : 8 + s.toNat * 8 = 8 * (s.toNat + 1) := by omega
theorem nb_eq' (s : Int) : nb s = 8 * (s.toNat + 1) := by unfold nb; omega
def selN (s : Int) : Prop := 0 ≤ s /\ s < 500
theorem near_add {g : List Int} {s n a b : Int} (h : gok g) (hs : selN s) (hn : selN n) (ha : selN a) (hb : selN b) : hasW (addW g (8 + s.toNat * 8) n) (nb a) b = (hasW g (nb a) b || decide (s = a /\ n = b)) := by
 rw [nb_eq, nb_eq', has_add h.2 (by have := h.1; have := hs.2; omega) ⟨hn.1, by have := hn.2; omega⟩ ⟨hb.1, by have := hb.2; omega⟩]
 congr 1
 rw [Bool.eq_iff_iff, decide_eq_true_eq, decide_eq_true_eq]
 have := hs.1; have := ha.1
 omega
theorem near_known {g : List Int} {n a b : Int} (h : gok g) (hn : selN n) (ha : selN a) (hb : selN b) : hasW (addW g 0 n) (nb a) b = hasW g (nb a) b := by
 rw [show (0 : Nat) = 8 * 0 from rfl, nb_eq', has_add h.2 (by have := h.1; omega) ⟨hn.1, by have := hn.2; omega⟩ ⟨hb.1, by have := hb.2; omega⟩]
 simp
theorem known_add {g : List Int} {n m : Int} (h : gok g) (hn : selN n) (hm : 0 ≤ m /\ m < 512) : hasW (addW g 0 n) 0 m = (hasW g 0 m || decide (n = m)) := by
 have e := has_add (a := 0) (b := 0) (n := n) (m := m) h.2 (by have := h.1; omega) ⟨hn.1, by have := hn.2; omega⟩ hm
 rw [show 8 * 0 = 0 from rfl] at e
 rw [e]
 simp
theorem known_near {g : List Int} {s n m : Int} (h : gok g) (hs : selN s) (hn : selN n) (hm : 0 ≤ m /\ m < 512) : hasW (addW g (8 + s.toNat * 8) n) 0 m = hasW g 0 m := by
 have e := has_add (a := s.toNat + 1) (b := 0) (n := n) (m := m) h.2 (by have := h.1; have := hs.2; omega) ⟨hn.1, by have := hn.2; omega⟩ hm
 rw [show 8 * 0 = 0 from rfl, <- nb_eq] at e
 rw [e]
 simp
theorem gok_pair {g : List Int} {x y : Et} (h : gok g) : gok (pairM g x y) := gok_add (gok_add h)
theorem near_pair {g : List Int} {x y : Et} {a b : Int} (h : gok g) (hx : selN x.s) (hy : selN y.s) (ha : selN a) (hb : selN b) : hasW (pairM g x y) (nb a) b = true ↔ hasW g (nb a) b = true \/ (x.s = a /\ y.s = b) \/ (y.s = a /\ x.s = b) := by
 unfold pairM
 rw [near_add (gok_add h) hy hx ha hb, near_add h hx hy ha hb, Bool.or_eq_true, Bool.or_eq_true, decide_eq_true_eq, decide_eq_true_eq, or_assoc]
theorem known_pair {g : List Int} {x y : Et} {m : Int} (h : gok g) (hx : selN x.s) (hy : selN y.s) (hm : 0 ≤ m /\ m < 512) : hasW (pairM g x y) 0 m = hasW g 0 m := by
 unfold pairM
 rw [known_near (gok_add h) hy hx hm, known_near h hx hy hm]
theorem gok_pairs {x : Et} : ∀ {p : List Et} {g : List Int}, gok g -> gok (p.foldl (pairM · x ·) g)
 | [], _, h => h
 | _ :: p, _, h => gok_pairs (p := p) (gok_pair h)
theorem near_pairs {x : Et} {a b : Int} (hx : selN x.s) (ha : selN a) (hb : selN b) : ∀ {p : List Et} {g : List Int}, gok g -> (∀ y ∈ p, selN y.s) -> (hasW (p.foldl (pairM · x ·) g) (nb a) b = true ↔ hasW g (nb a) b = true \/ ∃ y ∈ p, (x.s = a /\ y.s = b) \/ (y.s = a /\ x.s = b))
 | [], g, h, _ => by simp
 | y :: p, g, h, hp => by
  rw [List.foldl_cons, near_pairs hx ha hb (gok_pair h) (fun z hz => hp z (by simp [hz])), near_pair h hx (hp y (by simp)) ha hb, or_assoc]
  simp only [List.mem_cons, exists_eq_or_imp]
theorem known_pairs {x : Et} {m : Int} (hx : selN x.s) (hm : 0 ≤ m /\ m < 512) : ∀ {p : List Et} {g : List Int}, gok g -> (∀ y ∈ p, selN y.s) -> hasW (p.foldl (pairM · x ·) g) 0 m = hasW g 0 m
 | [], g, h, _ => rfl
 | y :: p, g, h, hp => by
  rw [List.foldl_cons, known_pairs hx hm (gok_pair h) (fun z hz => hp z (by simp [hz])), known_pair h hx (hp y (by simp)) hm]
theorem gok_ents : ∀ {r p : List Et} {g : List Int}, gok g -> gok (entsM p r g)
 | [], _, _, h => h
 | _ :: r, _, _, h => gok_ents (r := r) (gok_pairs (gok_add h))
theorem known_ents {m : Int} (hm : 0 ≤ m /\ m < 512) : ∀ {r p : List Et} {g : List Int}, gok g -> (∀ y ∈ p, selN y.s) -> (∀ y ∈ r, selN y.s) -> (hasW (entsM p r g) 0 m = true ↔ hasW g 0 m = true \/ ∃ y ∈ r, y.s = m)
 | [], p, g, h, _, _ => by simp [entsM]
 | x :: r, p, g, h, hp, hr => by
  have hx := hr x (by simp)
  rw [entsM, known_ents hm (gok_pairs (gok_add h)) (fun y hy => by rcases List.mem_append.1 hy with hy | hy; exact hp y hy; rw [List.mem_singleton] at hy; exact hy ▸ hx) (fun y hy => hr y (by simp [hy])), known_pairs hx hm (gok_add h) hp, known_add h hx hm, Bool.or_eq_true, decide_eq_true_eq, or_assoc]
  simp only [List.mem_cons, exists_eq_or_imp]
/-- Two selectors of one list, of which the first ones were looked at. -/
theorem near_ents {a b : Int} (ha : selN a) (hb : selN b) : ∀ {r p : List Et} {g : List Int}, gok g -> (∀ y ∈ p, selN y.s) -> (∀ y ∈ r, selN y.s) -> ((p ++ r).map Et.s).Nodup ->
  (hasW (entsM p r g) (nb a) b = true ↔ hasW g (nb a) b = true \/ (a ≠ b /\ ∃ x ∈ p ++ r, ∃ y ∈ p ++ r, x.s = a /\ y.s = b /\ (x ∈ r \/ y ∈ r)))
 | [], p, g, h, _, _, _ => by simp [entsM]
 | x :: r, p, g, h, hp, hr, hnd => by
  have hx := hr x (by simp)
  have e : (p ++ [x]) ++ r = p ++ x :: r := by simp
  rw [entsM, near_ents ha hb (gok_pairs (gok_add h)) (fun y hy => by rcases List.mem_append.1 hy with hy | hy; exact hp y hy; rw [List.mem_singleton] at hy; exact hy ▸ hx) (fun y hy => hr y (by simp [hy])) (by rw [e]; exact hnd), near_pairs hx ha hb (gok_add h) hp, near_known h hx ha hb, e, or_assoc]
  have hne : ∀ y ∈ p, y.s ≠ x.s := fun y hy he => by
   rw [List.map_append, List.nodup_append] at hnd
   exact hnd.2.2 y.s (List.mem_map.2 ⟨y, hy, rfl⟩) x.s (by simp) he
  refine or_congr_right ?_
  constructor
  ·rintro (⟨y, hy, h1⟩ | ⟨hab, u, hu, v, hv, h1, h2, h3⟩)
   ·have hny := hne y hy
    rcases h1 with ⟨rfl, rfl⟩ | ⟨rfl, rfl⟩
    ·exact ⟨fun he => hny he.symm, x, by simp, y, by simp [hy], rfl, rfl, .inl (by simp)⟩
    ·exact ⟨hny, y, by simp [hy], x, by simp, rfl, rfl, .inr (by simp)⟩
   ·exact ⟨hab, u, hu, v, hv, h1, h2, h3.imp (fun h => by simp [h]) (fun h => by simp [h])⟩
  ·rintro ⟨hab, u, hu, v, hv, rfl, rfl, h3⟩
   by_cases c1 : u ∈ r \/ v ∈ r
   ·exact .inr ⟨hab, u, hu, v, hv, rfl, rfl, c1⟩
   ·have c2 : u ∉ r := fun h => c1 (.inl h)
    have c3 : v ∉ r := fun h => c1 (.inr h)
    have d1 : u = x \/ u ∈ p := by
     rcases List.mem_append.1 hu with h | h
     ·exact .inr h
     ·rcases List.mem_cons.1 h with h | h
      ·exact .inl h
      ·exact absurd h c2
    have d2 : v = x \/ v ∈ p := by
     rcases List.mem_append.1 hv with h | h
     ·exact .inr h
     ·rcases List.mem_cons.1 h with h | h
      ·exact .inl h
      ·exact absurd h c3
    have d3 : u = x \/ v = x := by
     rcases h3 with h | h
     ·rcases List.mem_cons.1 h with h | h
      ·exact .inl h
      ·exact absurd h c2
     ·rcases List.mem_cons.1 h with h | h
      ·exact .inr h
      ·exact absurd h c3
    left
    rcases d3 with h | h
    ·subst h
     rcases d2 with h | h
     ·exact absurd (by rw [h]) hab
     ·exact ⟨v, h, .inl ⟨rfl, rfl⟩⟩
    ·subst h
     rcases d1 with h | h
     ·exact absurd (by rw [h]) hab
     ·exact ⟨u, h, .inr ⟨rfl, rfl⟩⟩
theorem near_class {c : List Et} {g : List Int} {a b : Int} (ha : selN a) (hb : selN b) (h : gok g) (hc : ∀ y ∈ c, selN y.s) (hnd : (c.map Et.s).Nodup) :
  hasW (entsM [] c g) (nb a) b = true ↔ hasW g (nb a) b = true \/ (a ≠ b /\ a ∈ c.map Et.s /\ b ∈ c.map Et.s) := by
 rw [near_ents (p := []) ha hb h (fun y hy => by cases hy) hc hnd]
 refine or_congr_right (and_congr_right fun _ => ?_)
 simp only [List.nil_append, List.mem_map]
 constructor
 ·rintro ⟨x, hx, y, hy, h1, h2, _⟩
  exact ⟨⟨x, hx, h1⟩, ⟨y, hy, h2⟩⟩
 ·rintro ⟨⟨x, hx, h1⟩, ⟨y, hy, h2⟩⟩
  exact ⟨x, hx, y, hy, h1, h2, .inl hx⟩
theorem gok_zs : gok (zs 4008) := ⟨zs_len 4008, zs_r 4008⟩
/-- The classes' lists, as they are behind a check. -/
def clsok (cs : List (List Et)) : Prop := ∀ c ∈ cs, (∀ y ∈ c, selN y.s) /\ (c.map Et.s).Nodup
theorem known_graph {m : Int} (hm : 0 ≤ m /\ m < 512) : ∀ {cs : List (List Et)} {g : List Int}, gok g -> clsok cs -> (hasW (graphM cs g) 0 m = true ↔ hasW g 0 m = true \/ ∃ c ∈ cs, m ∈ c.map Et.s)
 | [], g, h, _ => by simp [graphM]
 | c :: cs, g, h, hc => by
  have := known_graph hm (cs := cs) (gok_ents (r := c) (p := []) h) (fun d hd => hc d (by simp [hd]))
  simp only [graphM, List.foldl_cons] at this ⊢
  rw [this, known_ents hm h (fun y hy => by cases hy) (hc c (by simp)).1, or_assoc]
  simp only [List.mem_cons, exists_eq_or_imp, List.mem_map]
theorem near_graph {a b : Int} (ha : selN a) (hb : selN b) : ∀ {cs : List (List Et)} {g : List Int}, gok g -> clsok cs -> (hasW (graphM cs g) (nb a) b = true ↔ hasW g (nb a) b = true \/ ∃ c ∈ cs, a ≠ b /\ a ∈ c.map Et.s /\ b ∈ c.map Et.s)
 | [], g, h, _ => by simp [graphM]
 | c :: cs, g, h, hc => by
  have := near_graph ha hb (cs := cs) (gok_ents (r := c) (p := []) h) (fun d hd => hc d (by simp [hd]))
  simp only [graphM, List.foldl_cons] at this ⊢
  rw [this, near_class ha hb h (hc c (by simp)).1 (hc c (by simp)).2, or_assoc]
  simp only [List.mem_cons, exists_eq_or_imp]
/-- **Which selectors are understood.** -/
theorem known5W {w : Wd} {m : Int} (hm : 0 ≤ m /\ m < 512) (hc : clsok w.classes) : hasW (graphW w) 0 m = true ↔ ∃ c ∈ w.classes, m ∈ c.map Et.s := by
 rw [graphW, known_graph hm gok_zs hc, has_zs hm.1]
 simp
theorem knownW {w : Wd} {m : Int} (hm : selN m) (hc : clsok w.classes) : hasW (graphW w) 0 m = true ↔ ∃ c ∈ w.classes, m ∈ c.map Et.s := known5W ⟨hm.1, by have := hm.2; omega⟩ hc
/-- **Which selectors conflict.** -/
theorem nearW {w : Wd} {a b : Int} (ha : selN a) (hb : selN b) (hc : clsok w.classes) : hasW (graphW w) (nb a) b = true ↔ a ≠ b /\ ∃ c ∈ w.classes, a ∈ c.map Et.s /\ b ∈ c.map Et.s := by
 rw [graphW, near_graph ha hb gok_zs hc, has_zs hb.1]
 constructor
 ·rintro (h | ⟨c, hc, h1, h2, h3⟩)
  ·cases h
  ·exact ⟨h1, c, hc, h2, h3⟩
 ·rintro ⟨h1, c, hc, h2, h3⟩
  exact .inr ⟨c, hc, h1, h2, h3⟩
end Go.Proofs.YtikppcfabnnhfaaDoor

/- Plain: a world that is checked. -/
namespace Go.Proofs.YtikppcfabnnhfaaDoor
open Go Go.Aw
set_option linter.unusedSimpArgs false
set_option linter.unusedVariables false
def goodE (nb : Int) (e : Et) : Prop := (0 ≤ e.s /\ e.s < 500) /\ 0 ≤ e.m /\ e.m < nb
theorem badE_iff {nb : Int} {e : Et} : badE nb e = false ↔ goodE nb e := by
 simp only [badE, goodE, Bool.or_eq_false_iff, decide_eq_false_iff_not]
 omega
theorem ckC_some {nb : Int} : ∀ {l : List Et} {q : Int}, ckC nb (some q) l = 0 ↔ (∀ e ∈ l, goodE nb e) /\ ((q :: l.map Et.s).Pairwise (· < ·))
 | [], q => by simp [ckC]
 | e :: l, q => by
  rw [ckC]
  by_cases h : badE nb e = true
  ·rw [if_pos h]
   constructor
   ·intro h; cases h
   ·rintro ⟨h1, _⟩
    rw [badE_iff.2 (h1 e (by simp))] at h
    cases h
  ·have h' : badE nb e = false := by simpa using h
   have hg := badE_iff.1 h'
   rw [if_neg h]
   simp only [decide_eq_true_eq]
   by_cases h2 : e.s ≤ q
   ·rw [if_pos h2]
    constructor
    ·intro h; cases h
    ·rintro ⟨_, h3⟩
     have := (List.pairwise_cons.1 h3).1 e.s (by simp)
     omega
   ·rw [if_neg h2, ckC_some]
    constructor
    ·rintro ⟨h3, h4⟩
     refine ⟨fun x hx => ?_, ?_⟩
     ·rcases List.mem_cons.1 hx with rfl | hx
      ·exact hg
      ·exact h3 x hx
     ·rw [List.map_cons]
      refine List.pairwise_cons.2 ⟨fun x hx => ?_, h4⟩
      rcases List.mem_cons.1 hx with rfl | hx
      ·omega
      ·have := (List.pairwise_cons.1 h4).1 x hx
       omega
    ·rintro ⟨h3, h4⟩
     exact ⟨fun x hx => h3 x (by simp [hx]), (List.pairwise_cons.1 h4).2⟩
theorem ckC_none {nb : Int} {l : List Et} : ckC nb none l = 0 ↔ (∀ e ∈ l, goodE nb e) /\ ((l.map Et.s).Pairwise (· < ·)) := by
 match l with
 | [] => simp [ckC]
 | e :: l =>
  rw [ckC]
  by_cases h : badE nb e = true
  ·rw [if_pos h]
   constructor
   ·intro h; cases h
   ·rintro ⟨h1, _⟩
    rw [badE_iff.2 (h1 e (by simp))] at h
    cases h
  ·have h' : badE nb e = false := by simpa using h
   have hg := badE_iff.1 h'
   rw [if_neg h]
   simp only [Bool.false_eq_true, if_false]
   rw [ckC_some]
   constructor
   ·rintro ⟨h3, h4⟩
    refine ⟨fun x hx => ?_, h4⟩
    rcases List.mem_cons.1 hx with rfl | hx
    ·exact hg
    ·exact h3 x hx
   ·rintro ⟨h3, h4⟩
    exact ⟨fun x hx => h3 x (by simp [hx]), h4⟩
theorem ckCs_iff {nb : Int} : ∀ {cs : List (List Et)}, ckCs nb cs = 0 ↔ ∀ c ∈ cs, ckC nb none c = 0
 | [] => by simp [ckCs]
 | c :: cs => by
  rw [ckCs]
  by_cases h : ckC nb none c = 0
  ·rw [if_pos h, ckCs_iff]
   simp [h]
  ·rw [if_neg h]
   simp [h]
structure Good (w : Wd) : Prop where
 nc : w.classes.length ≤ 200
 nb : w.bodies.length ≤ 500
 nr : w.roots.length ≤ 64
 len : ∀ c ∈ w.classes, c.length ≤ 100
 ent : ∀ c ∈ w.classes, ∀ e ∈ c, goodE w.bodies.length e
 asc : ∀ c ∈ w.classes, (c.map Et.s).Pairwise (· < ·)
 bl : ∀ b ∈ w.bodies, b.ss.length ≤ 100 /\ b.ms.length ≤ 100 /\ b.cs.length ≤ 100
 br : ∀ b ∈ w.bodies, (∀ x ∈ b.ss, 0 ≤ x /\ x < 500) /\ (∀ x ∈ b.ms, 0 ≤ x /\ x < w.bodies.length) /\ (∀ x ∈ b.cs, 0 ≤ x /\ x < w.classes.length)
 rr : ∀ x ∈ w.roots, 0 ≤ x /\ x < w.bodies.length
theorem inR_all {n : Int} {l : List Int} : l.all (inR n) = true ↔ ∀ x ∈ l, 0 ≤ x /\ x < n := by
 rw [List.all_eq_true]
 refine forall_congr' fun x => forall_congr' fun _ => ?_
 simp only [inR, Bool.not_eq_true', Bool.or_eq_false_iff, decide_eq_false_iff_not]
 omega
theorem good_of {w : Wd} (h : ckM w = 0) : Good w := by
 unfold ckM at h
 split at h
 ·cases h
 rename_i h1
 split at h
 ·cases h
 rename_i h2
 split at h
 ·cases h
 rename_i h3
 split at h
 ·rename_i h4; exact absurd h h4
 rename_i h4
 split at h
 ·cases h
 rename_i h5
 split at h
 case isFalse => cases h
 rename_i h6
 have c1 := ckCs_iff.1 (Classical.not_not.1 h4)
 have h2' : w.classes.any bigC = false := by simpa using h2
 have h3' : w.bodies.any bigB = false := by simpa using h3
 have h5' : w.bodies.any (badB w.bodies.length w.classes.length) = false := by simpa using h5
 refine ⟨by omega, by omega, by omega, fun c hc => ?_, fun c hc => (ckC_none.1 (c1 c hc)).1, fun c hc => (ckC_none.1 (c1 c hc)).2, fun b hb => ?_, fun b hb => ?_, inR_all.1 h6⟩
 ·have := List.any_eq_false.1 h2' c hc
  simp only [bigC, decide_eq_true_eq] at this
  omega
 ·have := List.any_eq_false.1 h3' b hb
  simp only [bigB, Bool.or_eq_true, decide_eq_true_eq] at this
  omega
 ·have := List.any_eq_false.1 h5' b hb
  simp only [badB, Bool.or_eq_true, Bool.not_eq_true', not_or, Bool.not_eq_false] at this
  exact ⟨inR_all.1 this.1.1, inR_all.1 this.1.2, inR_all.1 this.2⟩
theorem okW_of {w : Wd} (h : ckM w = 0) : okW w := by
 have g := good_of h
 exact ⟨g.nc, fun c hc => ⟨g.len c hc, fun e he => (g.ent c hc e he).1⟩⟩
theorem pw_nodup {l : List Int} (h : l.Pairwise (· < ·)) : l.Nodup := h.imp (fun h e => by omega)
theorem clsok_of {w : Wd} (g : Good w) : clsok w.classes := fun c hc => ⟨fun e he => (g.ent c hc e he).1, pw_nodup (g.asc c hc)⟩
end Go.Proofs.YtikppcfabnnhfaaDoor

/- The reference's method, conflict, most. -/
namespace Go.Proofs.YtikppcfabnnhfaaDoor
open Go Go.Aw
set_option linter.unusedSimpArgs false
set_option linter.unusedVariables false
set_option maxRecDepth 100000
set_option maxHeartbeats 40000000
def mthL : List Et -> Int -> Int
 | [], _ => -1
 | e :: r, s => if e.s == s then e.m else mthL r s
theorem m83_loop {w : Wd} {k : Nat} {c : List Et} {s : Int} (hk : w.classes[k]? = some c) (hn : w.classes.length ≤ 1000) (hl : c.length ≤ 1000) : ∀ (r m : List Et), c = m ++ r ->
  ∃ e : Int, E.L 83 3 [.int .i64 k, .int .i64 s, .ptr 60000 0 0, .int .i64 0, .int .i64 m.length] (wO w) = some ((if (r.any fun e => e.s == s) then .ret else .exit 0, [.int .i64 k, .int .i64 s, .ptr 60000 0 0, .int .i64 (if (r.any fun e => e.s == s) then mthL r s else 0), .int .i64 e], wO w), True) := by
 have hkl := (List.getElem?_eq_some_iff.1 hk).1
 have hg2 := getD_map (f := clV) hk
 have q2 : (0 ≤ (k : Int) /\ (k : Int) < w.classes.length) = True := eq_true (by omega)
 intro r
 induction r with
 | nil =>
  intro m h
  rw [List.append_nil] at h
  subst h
  have q : ((c.length : Int) < c.length) = False := eq_false (by omega)
  refine ⟨c.length, ?_⟩
  rw [l83_3]
  simp (maxSteps := 100000000) only [ivc, anf, vop, vlen, vbuiltin, nilR, eq_self, Nat.reduceEqDiff, Nat.reduceLT, Nat.reduceLeDiff, Nat.reduceAdd, Nat.reduceBEq, reduceCtorEq, ↓reduceIte, tyb, wO, wdV, clV, hg2, q2, q, List.any_nil]
 | cons x r ih =>
  intro m h
  have hn : m.length + (r.length + 1) = c.length := by rw [h]; simp
  have hi' : (m.length : Int) < c.length := by omega
  have hg := getD_map (f := enV) (show c[m.length]? = some x by rw [h]; simp)
  have hw : IntKind.i64.wrap ((m.length : Int) + 1) = m.length + 1 := wrap_id (by omega) (by omega)
  have hc : (0 ≤ (m.length : Int) /\ (m.length : Int) < c.length) = True := eq_true (by omega)
  obtain ⟨e, ih'⟩ := ih (m ++ [x]) (by simp [h])
  simp only [List.length_append, List.length_cons, List.length_nil, Nat.zero_add, Int.natCast_add, Int.cast_ofNat_Int, wO, wdV] at ih'
  cases b : (x.s == s) with
  | true =>
   refine ⟨m.length, ?_⟩
   rw [l83_3]
   simp (maxSteps := 100000000) only [ivc, anf, vop, vlen, vbuiltin, nilR, eq_self, Nat.reduceEqDiff, Nat.reduceLT, Nat.reduceLeDiff, Nat.reduceAdd, Nat.reduceBEq, reduceCtorEq, ↓reduceIte, tyb, wO, wdV, clV, enV, hg2, q2, hi', hg, b, List.any_cons, mthL]
   exact some_true (by omega)
  | false =>
   refine ⟨e, ?_⟩
   rw [l83_3]
   simp (maxSteps := 100000000) only [ivc, anf, vop, vlen, vbuiltin, nilR, eq_self, Nat.reduceEqDiff, Nat.reduceLT, Nat.reduceLeDiff, Nat.reduceAdd, Nat.reduceBEq, reduceCtorEq, ↓reduceIte, tyb, wO, wdV, clV, enV, hg2, q2, hi', hg, hw, b, List.any_cons, mthL, ih']
   exact some_true (by omega)
theorem mth_none {s : Int} : ∀ {c : List Et}, (c.any fun e => e.s == s) = false -> mthL c s = -1
 | [], _ => rfl
 | e :: r, h => by
  rw [List.any_cons, Bool.or_eq_false_iff] at h
  rw [mthL, h.1]
  exact mth_none h.2
theorem meth_ev {w : Wd} {k : Nat} {c : List Et} {s : Int} (hk : w.classes[k]? = some c) (hn : w.classes.length ≤ 1000) (hl : c.length ≤ 1000) : E.F 83 [wdV w, .int .i64 k, .int .i64 s] [] = some ((.int .i64 (mthL c s), []), True) := by
 obtain ⟨e, lp⟩ := m83_loop (s := s) hk hn hl c [] rfl
 simp only [List.length_nil, Int.natCast_zero, wO, wdV] at lp
 rw [e83]
 cases b : (c.any fun e => e.s == s) with
 | true =>
  simp only [b, if_true] at lp
  simp (maxSteps := 100000000) only [ivc, anf, salloc, eq_self, Nat.reduceEqDiff, Nat.reduceLT, Nat.reduceLeDiff, Nat.reduceAdd, Nat.reduceBEq, Int.reduceNeg, reduceCtorEq, ↓reduceIte, wdV, lp]
 | false =>
  simp only [b, Bool.false_eq_true, if_false] at lp
  rw [mth_none b]
  simp (maxSteps := 100000000) only [ivc, anf, salloc, eq_self, Nat.reduceEqDiff, Nat.reduceLT, Nat.reduceLeDiff, Nat.reduceAdd, Nat.reduceBEq, Int.reduceNeg, reduceCtorEq, ↓reduceIte, wdV, lp]
/-- A class understands both. -/
def cf1 (a b : Int) (c : List Et) : Bool := (a != b) && (decide (0 ≤ mthL c a) && decide (0 ≤ mthL c b))
def cfB (w : Wd) (a b : Int) : Bool := w.classes.any (cf1 a b)
theorem cf54_loop {w : Wd} {a b : Int} (hl : w.classes.length ≤ 1000) (hs : ∀ c ∈ w.classes, c.length ≤ 1000) : ∀ (r m : List (List Et)), w.classes = m ++ r ->
  ∃ e : Int, E.L 54 3 [.int .i64 a, .int .i64 b, .ptr 60000 0 0, .bool false, .int .i64 m.length] (wO w) = some ((if r.any (cf1 a b) then .ret else .exit 0, [.int .i64 a, .int .i64 b, .ptr 60000 0 0, .bool (r.any (cf1 a b)), .int .i64 e], wO w), True) := by
 intro r
 induction r with
 | nil =>
  intro m h
  rw [List.append_nil] at h
  refine ⟨m.length, ?_⟩
  rw [l54_3]
  simp (maxSteps := 100000000) only [ivc, anf, vop, vlen, vbuiltin, nilR, eq_self, Nat.reduceEqDiff, Nat.reduceLT, Nat.reduceLeDiff, Nat.reduceAdd, Nat.reduceBEq, reduceCtorEq, ↓reduceIte, tyb, wO, wdV, h, Int.lt_irrefl, List.any_nil]
 | cons x r ih =>
  intro m h
  have hn : m.length + (r.length + 1) = w.classes.length := by rw [h]; simp
  have hi' : (m.length : Int) < w.classes.length := by omega
  have hm : w.classes[m.length]? = some x := by rw [h]; simp
  have hw : IntKind.i64.wrap ((m.length : Int) + 1) = m.length + 1 := wrap_id (by omega) (by omega)
  have v1 := meth_ev (s := a) hm hl (hs x (List.mem_of_getElem? hm))
  have v2 := meth_ev (s := b) hm hl (hs x (List.mem_of_getElem? hm))
  obtain ⟨e, ih'⟩ := ih (m ++ [x]) (by simp [h])
  simp only [List.length_append, List.length_cons, List.length_nil, Nat.zero_add, Int.natCast_add, Int.cast_ofNat_Int, wO, wdV] at ih' v1 v2
  have cfe : cf1 a b x = ((a != b) && (decide (0 ≤ mthL x a) && decide (0 ≤ mthL x b))) := rfl
  cases b1 : (a != b) with
  | false =>
   refine ⟨e, ?_⟩
   rw [l54_3]
   simp (maxSteps := 100000000) only [ivc, anf, vop, vlen, vbuiltin, nilR, eq_self, Nat.reduceEqDiff, Nat.reduceLT, Nat.reduceLeDiff, Nat.reduceAdd, Nat.reduceBEq, Int.reduceLE, reduceCtorEq, ↓reduceIte, tyb, wO, wdV, hi', hw, b1, cfe, List.any_cons, ih']
  | true =>
   by_cases b2 : 0 ≤ mthL x a
   ·by_cases b3 : 0 ≤ mthL x b
    ·refine ⟨m.length, ?_⟩
     rw [l54_3]
     simp (maxSteps := 100000000) only [ivc, anf, vop, vlen, vbuiltin, nilR, eq_self, Nat.reduceEqDiff, Nat.reduceLT, Nat.reduceLeDiff, Nat.reduceAdd, Nat.reduceBEq, reduceCtorEq, ↓reduceIte, tyb, wO, wdV, hi', v1, v2, b1, b2, b3, cfe, List.any_cons]
    ·refine ⟨e, ?_⟩
     rw [l54_3]
     simp (maxSteps := 100000000) only [ivc, anf, vop, vlen, vbuiltin, nilR, eq_self, Nat.reduceEqDiff, Nat.reduceLT, Nat.reduceLeDiff, Nat.reduceAdd, Nat.reduceBEq, reduceCtorEq, ↓reduceIte, tyb, wO, wdV, hi', hw, v1, v2, b1, b2, b3, cfe, List.any_cons, ih']
   ·refine ⟨e, ?_⟩
    rw [l54_3]
    simp (maxSteps := 100000000) only [ivc, anf, vop, vlen, vbuiltin, nilR, eq_self, Nat.reduceEqDiff, Nat.reduceLT, Nat.reduceLeDiff, Nat.reduceAdd, Nat.reduceBEq, Int.reduceLE, reduceCtorEq, ↓reduceIte, tyb, wO, wdV, hi', hw, v1, b1, b2, cfe, List.any_cons, ih']
theorem conflict_ev {w : Wd} {a b : Int} (hl : w.classes.length ≤ 1000) (hs : ∀ c ∈ w.classes, c.length ≤ 1000) : E.F 54 [wdV w, .int .i64 a, .int .i64 b] [] = some ((.bool (cfB w a b), []), True) := by
 obtain ⟨e, lp⟩ := cf54_loop (a := a) (b := b) hl hs w.classes [] rfl
 simp only [List.length_nil, Int.natCast_zero, wO, wdV] at lp
 rw [e54]
 unfold cfB
 cases h : w.classes.any (cf1 a b) with
 | true =>
  simp only [h, if_true] at lp
  simp (maxSteps := 100000000) only [ivc, anf, salloc, eq_self, Nat.reduceEqDiff, Nat.reduceLT, Nat.reduceLeDiff, Nat.reduceAdd, Nat.reduceBEq, reduceCtorEq, ↓reduceIte, wdV, lp]
 | false =>
  simp only [h, Bool.false_eq_true, if_false] at lp
  simp (maxSteps := 100000000) only [ivc, anf, salloc, eq_self, Nat.reduceEqDiff, Nat.reduceLT, Nat.reduceLeDiff, Nat.reduceAdd, Nat.reduceBEq, reduceCtorEq, ↓reduceIte, wdV, lp]
def moL (c : List Et) (n : Int) : Int := c.foldl (fun n e => maxI n (e.s + 1)) n
def moM (cs : List (List Et)) (n : Int) : Int := cs.foldl (fun n c => moL c n) n
theorem mo7_loop {w : Wd} {k : Nat} {c : List Et} (hk : w.classes[k]? = some c) (hn : w.classes.length ≤ 1000) (hl : c.length ≤ 1000) (hs : ∀ e ∈ c, 0 ≤ e.s /\ e.s < 500) : ∀ (r m : List Et) (n : Int), c = m ++ r ->
  E.L 53 7 [.ptr 60000 0 0, .int .i64 n, .int .i64 k, .int .i64 m.length] (wO w) = some ((.exit 2, [.ptr 60000 0 0, .int .i64 (moL r n), .int .i64 k, .int .i64 c.length], wO w), True) := by
 have hkl := (List.getElem?_eq_some_iff.1 hk).1
 have hg2 := getD_map (f := clV) hk
 have q2 : (0 ≤ (k : Int) /\ (k : Int) < w.classes.length) = True := eq_true (by omega)
 intro r
 induction r with
 | nil =>
  intro m n h
  rw [List.append_nil] at h
  subst h
  have q : ((c.length : Int) < c.length) = False := eq_false (by omega)
  rw [l53_7]
  simp (maxSteps := 100000000) only [ivc, anf, vop, vlen, vbuiltin, nilR, eq_self, Nat.reduceEqDiff, Nat.reduceLT, Nat.reduceLeDiff, Nat.reduceAdd, Nat.reduceBEq, reduceCtorEq, ↓reduceIte, tyb, wO, wdV, clV, hg2, q2, q, moL, List.foldl_nil]
 | cons x r ih =>
  intro m n h
  have hn : m.length + (r.length + 1) = c.length := by rw [h]; simp
  have hi' : (m.length : Int) < c.length := by omega
  have hg := getD_map (f := enV) (show c[m.length]? = some x by rw [h]; simp)
  have hx := hs x (by rw [h]; simp)
  have hw : IntKind.i64.wrap ((m.length : Int) + 1) = m.length + 1 := wrap_id (by omega) (by omega)
  have hw2 : IntKind.i64.wrap (x.s + 1) = x.s + 1 := wrap_id (by omega) (by omega)
  have hc : (0 ≤ (m.length : Int) /\ (m.length : Int) < c.length) = True := eq_true (by omega)
  have ih' := ih (m ++ [x]) (maxI n (x.s + 1)) (by simp [h])
  simp only [List.length_append, List.length_cons, List.length_nil, Nat.zero_add, Int.natCast_add, Int.cast_ofNat_Int, wO, wdV, moL, maxI] at ih'
  rw [l53_7]
  simp (maxSteps := 100000000) only [ivc, anf, vop, vlen, vbuiltin, nilR, eq_self, Nat.reduceEqDiff, Nat.reduceLT, Nat.reduceLeDiff, Nat.reduceAdd, Nat.reduceBEq, reduceCtorEq, ↓reduceIte, tyb, wO, wdV, clV, enV, hg2, q2, hi', hg, hw, hw2, ih', moL, maxI, List.foldl_cons]
  exact some_true (by omega)
theorem mo4_loop {w : Wd} (hl : w.classes.length ≤ 1000) (hs : ∀ c ∈ w.classes, c.length ≤ 1000 /\ ∀ e ∈ c, 0 ≤ e.s /\ e.s < 500) : ∀ (r m : List (List Et)) (n : Int), w.classes = m ++ r ->
  E.L 53 4 [.ptr 60000 0 0, .int .i64 n, .int .i64 m.length] (wO w) = some ((.exit 0, [.ptr 60000 0 0, .int .i64 (moM r n), .int .i64 w.classes.length], wO w), True) := by
 intro r
 induction r with
 | nil =>
  intro m n h
  rw [List.append_nil] at h
  rw [<- h, l53_4]
  simp (maxSteps := 100000000) only [ivc, anf, vop, vlen, vbuiltin, nilR, eq_self, Nat.reduceEqDiff, Nat.reduceLT, Nat.reduceLeDiff, Nat.reduceAdd, Nat.reduceBEq, reduceCtorEq, ↓reduceIte, tyb, wO, wdV, Int.lt_irrefl, moM, List.foldl_nil]
 | cons x r ih =>
  intro m n h
  have hn : m.length + (r.length + 1) = w.classes.length := by rw [h]; simp
  have hi' : (m.length : Int) < w.classes.length := by omega
  have hm : w.classes[m.length]? = some x := by rw [h]; simp
  have hw : IntKind.i64.wrap ((m.length : Int) + 1) = m.length + 1 := wrap_id (by omega) (by omega)
  obtain ⟨x1, x2⟩ := hs x (List.mem_of_getElem? hm)
  have lp := mo7_loop hm hl x1 x2 x [] n rfl
  have ih' := ih (m ++ [x]) (moL x n) (by simp [h])
  simp only [List.length_append, List.length_cons, List.length_nil, Nat.zero_add, Int.natCast_add, Int.cast_ofNat_Int, wO, wdV] at ih' lp
  rw [show moM (x :: r) n = moM r (moL x n) from rfl, l53_4]
  simp (maxSteps := 100000000) only [ivc, anf, vop, vlen, vbuiltin, nilR, eq_self, Nat.reduceEqDiff, Nat.reduceLT, Nat.reduceLeDiff, Nat.reduceAdd, Nat.reduceBEq, reduceCtorEq, ↓reduceIte, tyb, wO, wdV, hi', hw, lp, ih']
theorem most_ev {w : Wd} (hl : w.classes.length ≤ 1000) (hs : ∀ c ∈ w.classes, c.length ≤ 1000 /\ ∀ e ∈ c, 0 ≤ e.s /\ e.s < 500) : E.F 53 [wdV w] [] = some ((.int .i64 (moM w.classes 0), []), True) := by
 have lp := mo4_loop hl hs w.classes [] 0 rfl
 simp only [List.length_nil, Int.natCast_zero, wO, wdV] at lp
 rw [e53]
 simp (maxSteps := 100000000) only [ivc, anf, salloc, eq_self, Nat.reduceEqDiff, Nat.reduceLT, Nat.reduceLeDiff, Nat.reduceAdd, Nat.reduceBEq, reduceCtorEq, ↓reduceIte, wdV, lp]
end Go.Proofs.YtikppcfabnnhfaaDoor

/- Clone, the closure of Grow. -/
namespace Go.Proofs.YtikppcfabnnhfaaDoor
open Go Go.Aw
set_option linter.unusedSimpArgs false
set_option linter.unusedVariables false
set_option maxRecDepth 100000
set_option maxHeartbeats 40000000
theorem clone46_ev {l : List Int} (hl : l.length ≤ 1000000) : E.F 46 [.ro 1 (l.map (AV.int .i64))] [] = some ((.sl 200000 0 l.length, [(200000, iR l)]), True) := by
 rw [e46]
 simp (maxSteps := 100000000) only [ivc, anf, nilR, salloc, sappend, eq_self, Nat.reduceEqDiff, Nat.reduceLT, Nat.reduceLeDiff, Nat.reduceAdd, Nat.reduceBEq, reduceCtorEq, ↓reduceIte, tyb, iR]
 by_cases h0 : l.length = 0
 ·have e : l = [] := List.eq_nil_of_length_eq_zero h0
  subst e
  simp
 ·rw [if_neg h0]
  exact some_true (by omega)
theorem clone45_ev {l : List (List Et)} (hl : l.length ≤ 1000000) : E.F 45 [.ro 1 (l.map clV)] [] = some ((.sl 200000 0 l.length, [(200000, ⟨false, 1, l.map clV⟩)]), True) := by
 rw [e45]
 simp (maxSteps := 100000000) only [ivc, anf, nilR, salloc, sappend, eq_self, Nat.reduceEqDiff, Nat.reduceLT, Nat.reduceLeDiff, Nat.reduceAdd, Nat.reduceBEq, reduceCtorEq, ↓reduceIte, tyb]
 by_cases h0 : l.length = 0
 ·have e : l = [] := List.eq_nil_of_length_eq_zero h0
  subst e
  simp
 ·rw [if_neg h0]
  exact some_true (by omega)
theorem w49 {out : List Int} {c : Int} {e : Et} (he : 0 ≤ e.s /\ e.s < out.length) : E.F 49 [enV e, .rop (.ro 1 (out.map (AV.int .i64))) 0, .rop (.int .i64 c) 0] [] = some ((.bool (colAt out e.s == c), []), True) := by
 have q : (0 ≤ e.s /\ e.s < out.length) = True := eq_true he
 have g : (out.map (AV.int .i64)).getD e.s.toNat .junk = .int .i64 (colAt out e.s) := getI (by omega)
 rw [e49]
 simp (maxSteps := 100000000) only [ivc, anf, vop, nilR, salloc, eq_self, Nat.reduceEqDiff, Nat.reduceLT, Nat.reduceLeDiff, Nat.reduceAdd, Nat.reduceBEq, reduceCtorEq, ↓reduceIte, tyb, enV, q, g]
theorem idx81_loop {l : List Et} {out : List Int} {c : Int} (hl : l.length ≤ 1000000) (ho : ∀ e ∈ l, 0 ≤ e.s /\ e.s < out.length) : ∀ (r m : List Et), l = m ++ r ->
  ∃ v e : Int, E.L 81 3 [.ro 2 (l.map enV), .fn (Fn.func 49) [] [.rop (.ro 1 (out.map (AV.int .i64))) 0, .rop (.int .i64 c) 0], .int .i64 0, .int .i64 l.length, .int .i64 m.length] [] = some ((if r.any (fun e => colAt out e.s == c) then .ret else .exit 0, [.ro 2 (l.map enV), .fn (Fn.func 49) [] [.rop (.ro 1 (out.map (AV.int .i64))) 0, .rop (.int .i64 c) 0], .int .i64 v, .int .i64 l.length, .int .i64 e], []), True) /\ 0 ≤ v := by
 intro r
 induction r with
 | nil =>
  intro m h
  rw [List.append_nil] at h
  subst h
  refine ⟨0, l.length, ?_, by omega⟩
  rw [l81_3]
  simp (maxSteps := 100000000) only [ivc, anf, nilR, eq_self, Nat.reduceEqDiff, Nat.reduceLT, Nat.reduceBEq, reduceCtorEq, ↓reduceIte, tyb, Int.lt_irrefl, List.any_nil]
 | cons x r ih =>
  intro m h
  have hn : m.length + (r.length + 1) = l.length := by rw [h]; simp
  have hi' : (m.length : Int) < l.length := by omega
  have hg := getD_map (f := enV) (show l[m.length]? = some x by rw [h]; simp)
  have hw : IntKind.i64.wrap ((m.length : Int) + 1) = m.length + 1 := wrap_id (by omega) (by omega)
  have hc : (0 ≤ (m.length : Int)) = True := eq_true (by omega)
  have hb := w49 (c := c) (ho x (by rw [h]; simp))
  by_cases hx : (colAt out x.s == c) = true
  ·refine ⟨m.length, m.length, ?_, by omega⟩
   rw [hx] at hb
   simp only [enV] at hb
   rw [l81_3]
   simp (maxSteps := 100000000) only [ivc, anf, nilR, eq_self, Nat.reduceEqDiff, Nat.reduceLT, Nat.reduceLeDiff, Nat.reduceAdd, Nat.reduceMul, Nat.reduceBEq, reduceCtorEq, ↓reduceIte, tyb, enV, hi', hg, hc, hb, List.any_cons, hx]
  ·obtain ⟨v, e, ih', hv⟩ := ih (m ++ [x]) (by simp [h])
   refine ⟨v, e, ?_, hv⟩
   simp only [List.length_append, List.length_cons, List.length_nil, Nat.zero_add, Int.natCast_add, Int.cast_ofNat_Int] at ih'
   have hx' : (colAt out x.s == c) = false := by simpa using hx
   rw [hx'] at hb
   simp only [enV] at hb
   rw [l81_3]
   simp (maxSteps := 100000000) only [ivc, anf, nilR, eq_self, Nat.reduceEqDiff, Nat.reduceLT, Nat.reduceLeDiff, Nat.reduceAdd, Nat.reduceMul, Nat.reduceBEq, reduceCtorEq, ↓reduceIte, tyb, enV, hi', hg, hw, hc, hb, ih', List.any_cons, hx']
theorem any48_ev {l : List Et} {out : List Int} {c : Int} (hl : l.length ≤ 1000000) (ho : ∀ e ∈ l, 0 ≤ e.s /\ e.s < out.length) : E.F 48 [.ro 2 (l.map enV), .fn (Fn.func 49) [] [.rop (.ro 1 (out.map (AV.int .i64))) 0, .rop (.int .i64 c) 0]] [] = some ((.bool (l.any fun e => colAt out e.s == c), []), True) := by
 obtain ⟨v, e, h, hv⟩ := idx81_loop (c := c) hl ho l [] rfl
 simp only [List.length_nil, Int.natCast_zero] at h
 have hv' : (decide (0 ≤ v)) = true := by simpa using hv
 rw [e48]
 by_cases ha : l.any (fun e => colAt out e.s == c) = true
 ·rw [ha]
  simp only [ha, if_true] at h
  simp (maxSteps := 100000000) only [ivc, anf, vlen, vbuiltin, nilR, eq_self, Nat.reduceEqDiff, Nat.reduceLT, Nat.reduceLeDiff, Nat.reduceAdd, Nat.reduceBEq, Int.reduceNeg, reduceCtorEq, ↓reduceIte, tyb, e81, h, hv']
 ·have ha' : l.any (fun e => colAt out e.s == c) = false := by simpa using ha
  rw [ha']
  simp only [ha', Bool.false_eq_true, if_false] at h
  simp (maxSteps := 100000000) only [ivc, anf, vlen, vbuiltin, nilR, eq_self, Nat.reduceEqDiff, Nat.reduceLT, Nat.reduceLeDiff, Nat.reduceAdd, Nat.reduceBEq, Int.reduceLE, Int.reduceNeg, reduceCtorEq, ↓reduceIte, tyb, e81, h]
end Go.Proofs.YtikppcfabnnhfaaDoor

/- Grow. -/
namespace Go.Proofs.YtikppcfabnnhfaaDoor
open Go Go.Aw
set_option linter.unusedSimpArgs false
set_option linter.unusedVariables false
set_option maxRecDepth 100000
set_option maxHeartbeats 40000000
def gwM (g : List Int) : List Et -> List Et -> List Int -> List Int -> Option (List Int × List Int)
 | [], _, out, chg => some (out, chg)
 | x :: r, p, out, chg =>
  if 0 ≤ colAt out x.s /\ (p.any fun e => colAt out e.s == colAt out x.s) = false then gwM g r (p ++ [x]) out chg
  else if 500 ≤ leastL (takW g x.s out) 0 then none
  else gwM g r (p ++ [x]) (out.set x.s.toNat (leastL (takW g x.s out) 0)) (if 0 ≤ colAt out x.s then chg ++ [x.s] else chg)
def gwV (cl : List Et) (n : Nat) (i : Int) (k : Nat) : List AV := [.ro 2 (cl.map enV), .sl 60000 0 0, .sl 60001 0 k, .int .i64 0, .ptr 60002 0 0, .ptr 60003 0 0, .ro 2 (cl.map enV), .int .i64 cl.length, .int .i64 i]
def gwH (g out chg : List Int) : HL := [(60000, iR []), (60001, iR chg), (60002, gO g), (60003, ⟨true, 1, [.sl 60004 0 out.length]⟩), (60004, iR out)]
theorem gw_loop {g : List Int} {cl : List Et} (hg : g.length = 4008) (hcl : cl.length ≤ 100) : ∀ (r m : List Et) (out chg : List Int), cl = m ++ r -> out.length ≤ 500 -> (∀ c ∈ out, c < 500) -> (∀ e ∈ cl, 0 ≤ e.s /\ e.s < out.length) -> chg.length ≤ m.length ->
  ∀ o' c', gwM g r m out chg = some (o', c') -> E.L 17 13 (gwV cl out.length m.length chg.length) (gwH g out chg) = some ((.exit 0, gwV cl out.length cl.length c'.length, gwH g o' c'), True) := by
 intro r
 induction r with
 | nil =>
  intro m out chg h ho hc hs hl o' c' hr
  cases hr
  rw [List.append_nil] at h
  have q : ((cl.length : Int) < cl.length) = False := eq_false (by omega)
  rw [<- h, l17_13]
  simp (maxSteps := 100000000) only [ivc, anf, nilR, eq_self, Nat.reduceEqDiff, Nat.reduceLT, Nat.reduceLeDiff, Nat.reduceAdd, Nat.reduceBEq, reduceCtorEq, ↓reduceIte, tyb, gwV, gwH, gO, iR, ldb, q]
 | cons x r ih =>
  intro m out chg h ho hc hs hl o' c' hr
  have hn : m.length + (r.length + 1) = cl.length := by rw [h]; simp
  have hi' : (m.length : Int) < cl.length := by omega
  have hg0 := getD_map (f := enV) (show cl[m.length]? = some x by rw [h]; simp)
  have hw : IntKind.i64.wrap ((m.length : Int) + 1) = m.length + 1 := wrap_id (by omega) (by omega)
  have hc0 : (0 ≤ (m.length : Int)) = True := eq_true (by omega)
  have hx := hs x (by rw [h]; simp)
  have q := eq_true hx
  have k1 := getI (l := out) (i := x.s.toNat) (by omega)
  have htk : cl.take m.length = m := by rw [h]; simp
  have htm : (cl.map enV).take m.length = m.map enV := by rw [<- List.map_take, htk]
  have q5 : (0 ≤ (m.length : Int) /\ (m.length : Int) ≤ cl.length) = True := eq_true (by omega)
  have a := any48_ev (l := m) (out := out) (c := colAt out x.s) (by omega) (fun e he => hs e (by rw [h]; simp [he]))
  rw [gwM] at hr
  by_cases b1 : 0 ≤ colAt out x.s /\ (m.any fun e => colAt out e.s == colAt out x.s) = false
  ·rw [if_pos b1] at hr
   have ih' := ih (m ++ [x]) out chg (by simp [h]) ho hc hs (by simp; omega) o' c' hr
   simp only [List.length_append, List.length_cons, List.length_nil, Nat.zero_add, Int.natCast_add, Int.cast_ofNat_Int, gwV, gwH, gO, iR, List.map_nil] at ih'
   have b11 := b1.1
   rw [b1.2] at a
   simp only [colAt] at a b11
   rw [l17_13]
   simp (maxSteps := 100000000) only [ivc, anf, vop, vslice, nilR, salloc, eq_self, Nat.reduceEqDiff, Nat.reduceLT, Nat.reduceLeDiff, Nat.reduceAdd, Nat.reduceBEq, Int.reduceLE, Int.reduceToNat, reduceCtorEq, implies_true, ↓reduceIte, tyb, gwV, gwH, gO, iR, enV, ldb, hi', hg0, hw, hc0, q, k1, htm, a, b11, ih']
   exact some_true (by omega)
  ·rw [if_neg b1] at hr
   split at hr
   ·cases hr
   rename_i b2
   have tk := taken_ev (g := g) (cs := out) (s := x.s) hg ⟨hx.1, by omega⟩ (by omega) (fun c h => by have := hc c h; omega)
   have hT8 : (takW g x.s out).length = 8 := takW_len
   generalize takW g x.s out = T at hr tk hT8 b2
   have le := least_ev hT8
   generalize leastL T 0 = n at hr le b2
   have t1 := take8 hT8
   have t2 := put8 hT8
   have ih' := ih (m ++ [x]) (out.set x.s.toNat n) (if 0 ≤ colAt out x.s then chg ++ [x.s] else chg) (by simp [h]) (by rw [List.length_set]; exact ho) (fun c hcc => by
    rcases List.mem_or_eq_of_mem_set hcc with hcc | hcc
    ·exact hc c hcc
    ·omega) (by rw [List.length_set]; exact hs) (by split <;> simp <;> omega) o' c' hr
   simp only [gR] at tk
   by_cases b3 : 0 ≤ colAt out x.s
   ·have b4 : (m.any fun e => colAt out e.s == colAt out x.s) = true := by
     cases hh : (m.any fun e => colAt out e.s == colAt out x.s) with
     | true => rfl
     | false => exact absurd ⟨b3, hh⟩ b1
    rw [if_pos b3] at ih'
    simp only [List.length_append, List.length_cons, List.length_nil, Nat.zero_add, Int.natCast_add, Int.cast_ofNat_Int, gwV, gwH, gO, iR, List.map_nil, List.length_set, List.map_append, List.map_cons] at ih'
    rw [b4] at a
    simp only [colAt] at a b3
    rw [l17_13]
    simp (maxSteps := 100000000) only [ivc, anf, vop, vslice, nilR, salloc, sappend, eq_self, Nat.reduceEqDiff, Nat.reduceLT, Nat.reduceLeDiff, Nat.reduceAdd, Nat.reduceMul, Nat.reduceBEq, Int.reduceLE, Int.reduceToNat, reduceCtorEq, implies_true, ↓reduceIte, tyb, ↓zrep, zs_len, t90z, gwV, gwH, gO, iR, enV, ldb, agg_flats, agg_imm, hi', hg0, hw, hc0, q, k1, htm, a, b2, b3, tk, hT8, t2, le, set_map, ih']
    exact some_true (by omega)
   ·rw [if_neg b3] at ih'
    simp only [List.length_append, List.length_cons, List.length_nil, Nat.zero_add, Int.natCast_add, Int.cast_ofNat_Int, gwV, gwH, gO, iR, List.map_nil, List.length_set] at ih'
    simp only [colAt] at a b3
    rw [l17_13]
    simp (maxSteps := 100000000) only [ivc, anf, vop, vslice, nilR, salloc, eq_self, Nat.reduceEqDiff, Nat.reduceLT, Nat.reduceLeDiff, Nat.reduceAdd, Nat.reduceMul, Nat.reduceBEq, Int.reduceLE, Int.reduceToNat, reduceCtorEq, implies_true, ↓reduceIte, tyb, ↓zrep, zs_len, t90z, gwV, gwH, gO, iR, enV, ldb, agg_flats, agg_imm, hi', hg0, hw, hc0, q, k1, htm, a, b2, b3, tk, hT8, t2, le, set_map, ih']
    exact some_true (by omega)
end Go.Proofs.YtikppcfabnnhfaaDoor

/- Grow: all. -/
namespace Go.Proofs.YtikppcfabnnhfaaDoor
open Go Go.Aw
set_option linter.unusedSimpArgs false
set_option linter.unusedVariables false
set_option maxRecDepth 100000
set_option maxHeartbeats 40000000
def moreW (w : Wd) (cl : List Et) : Wd := ⟨w.classes ++ [cl], w.bodies, w.roots⟩
def ms0 (w : Wd) (cl : List Et) (cs : List Int) : List Int := cs ++ ms (szM (graphW (moreW w cl)) 500 - cs.length)
theorem grow_ev {w : Wd} {cs : List Int} {cl : List Et} {o' c' : List Int} (hwl : w.classes.length ≤ 1000) (h1 : ckM w = 0) (ok : okW w) (h2 : ccW (graphW w) cs = 0) (h3 : ckM (moreW w cl) = 0) (ok2 : okW (moreW w cl)) (hsz : cs.length ≤ szM (graphW (moreW w cl)) 500) (hcs : ∀ c ∈ cs, c < 500) (hs : ∀ e ∈ cl, 0 ≤ e.s /\ e.s < szM (graphW (moreW w cl)) 500)
  (hr : gwM (graphW (moreW w cl)) cl [] (ms0 w cl cs) [] = some (o', c')) :
  E.F 17 [wdV w, .ro 1 (cs.map (AV.int .i64)), .ro 2 (cl.map enV)] [] = some ((.tup [.ro 1 (o'.map (AV.int .i64)), .ro 1 (c'.map (AV.int .i64)), .int .i64 0], []), True) := by
 have a1 := cc_ev (w := w) (cs := cs) (fun _ => ok)
 rw [if_pos h1, h2] at a1
 have a2 := clone45_ev (l := w.classes) (by omega)
 have a3 := check_ev (w := moreW w cl)
 rw [h3] at a3
 have a4 := graph_ev ok2
 have hg : (graphW (moreW w cl)).length = 4008 := graphW_len
 have hcl : cl.length ≤ 100 := (ok2.2 cl (by simp [moreW])).1
 have hz := szM_le (graphW (moreW w cl)) 500
 have a5 := clone46_ev (l := cs) (by omega)
 unfold ms0 at hr
 generalize graphW (moreW w cl) = g at a4 hg hr hsz hs hz
 have a6 := size_ev hg
 generalize szM g 500 = z at a6 hr hsz hs hz
 have a7 := rep_ms (n := z - cs.length) (by omega)
 have e1 : ((z - cs.length : Nat) : Int) = (z : Int) - cs.length := by omega
 have hol : (cs ++ ms (z - cs.length)).length = z := by rw [List.length_append, ms_len]; omega
 have lp := gw_loop hg hcl cl [] (cs ++ ms (z - cs.length)) [] rfl (by omega) (fun c h => by
  rcases List.mem_append.1 h with h | h
  ·exact hcs c h
  ·have := List.eq_of_mem_replicate h
   omega) (fun e he => by rw [hol]; exact hs e he) (Nat.le_refl _) o' c' hr
 rw [e1] at a7
 have hml : (ms (z - cs.length)).length = z - cs.length := ms_len
 generalize ms (z - cs.length) = M at a7 lp hml
 have hw : IntKind.i64.wrap ((z : Int) - cs.length) = z - cs.length := wrap_id (by omega) (by omega)
 have e2 : cs.length + M.length = z := by omega
 have e3 : cs.length + (z - cs.length) = z := by omega
 have tkM : List.take (z - cs.length) (M.map (AV.int .i64)) = M.map (AV.int .i64) := List.take_of_length_le (by simp [hml])
 have e4 : ((0 : Int) ≤ (z : Int) - cs.length) = True := eq_true (by omega)
 simp only [wdV] at a1
 simp only [wdV, moreW, clV, List.map_append, List.map_cons, List.map_nil] at a3 a4
 simp only [gwV, gwH, gO, gR, iR, List.length_nil, List.map_nil, Int.natCast_zero, List.length_append, List.map_append] at a4 a5 a6 a7 lp
 rw [e17]
 simp (maxSteps := 100000000) only [ivc, anf, vop, vlen, vbuiltin, nilR, salloc, sappend, eq_self, Nat.reduceEqDiff, Nat.reduceLT, Nat.reduceLeDiff, Nat.reduceAdd, Nat.reduceMul, Nat.reduceBEq, Int.reduceNeg, reduceCtorEq, ↓reduceIte, tyb, wdV, ldb, agg_imm, a1, a2, a3, a4, a5, a6, a7, lp, hw, tkM]
 exact some_true (by omega)
end Go.Proofs.YtikppcfabnnhfaaDoor

/- Plain: sizes, colours, the least one. -/
namespace Go.Proofs.YtikppcfabnnhfaaDoor
open Go Go.Aw
set_option linter.unusedSimpArgs false
set_option linter.unusedVariables false
/-- The size: 1 more than the greatest. -/
theorem szM_spec {g : List Int} : ∀ {n : Nat}, (∀ m : Nat, szM g n ≤ m -> m < n -> hasW g 0 m = false) /\ (∀ m : Nat, szM g n = m + 1 -> hasW g 0 m = true)
 | 0 => ⟨fun m h1 h2 => by omega, fun m h => by cases h⟩
 | n + 1 => by
  by_cases h : hasW g 0 n = true
  ·have e : szM g (n + 1) = n + 1 := by rw [szM, if_pos h]
   rw [e]
   exact ⟨fun m h1 h2 => by omega, fun m hm => by cases hm; exact h⟩
  ·have e : szM g (n + 1) = szM g n := by rw [szM, if_neg h]
   obtain ⟨a, b⟩ := szM_spec (g := g) (n := n)
   rw [e]
   refine ⟨fun m h1 h2 => ?_, b⟩
   by_cases hm : m = n
   ·subst hm; simpa using h
   ·exact a m h1 (by omega)
theorem szM_lt {g : List Int} {n m : Nat} (h : hasW g 0 m = true) (hm : m < n) : m < szM g n := by
 cases Nat.lt_or_ge m (szM g n) with
 | inl h => exact h
 | inr h1 =>
  have := (szM_spec (g := g) (n := n)).1 m h1 hm
  rw [h] at this
  cases this
theorem takM_r {g : List Int} {b : Nat} : ∀ {r : List Int} {n : Nat} {s : List Int}, allR s -> allR (takM g b n r s)
 | [], _, _, h => h
 | c :: r, n, s, h => by
  rw [takM]
  refine takM_r (r := r) ?_
  split
  ·exact addW_r h
  ·exact h
theorem takW_r {g cs : List Int} {s : Int} : allR (takW g s cs) := takM_r (zs_r 8)
theorem has0_add {l : List Int} {n m : Int} (h : allR l) (hl : l.length = 8) (hn : 0 ≤ n /\ n < 512) (hm : 0 ≤ m /\ m < 512) : hasW (addW l 0 n) 0 m = (hasW l 0 m || decide (n = m)) := by
 have := has_add (a := 0) (b := 0) h (by omega) hn hm
 simpa using this
theorem tak_has {g : List Int} {b : Nat} {m : Int} (hm : 0 ≤ m /\ m < 512) : ∀ {r : List Int} {n : Nat} {s : List Int}, allR s -> s.length = 8 -> (∀ c ∈ r, c < 512) -> (hasW (takM g b n r s) 0 m = true ↔ hasW s 0 m = true \/ ∃ i : Nat, ∃ h : i < r.length, r[i] = m /\ hasW g b ((n + i : Nat) : Int) = true)
 | [], n, s, h, hl, _ => by simp [takM]
 | c :: r, n, s, h, hl, hc => by
  have hc0 := hc c (by simp)
  rw [takM, tak_has hm (by split; exact addW_r h; exact h) (by split; rw [addW_len]; exact hl; exact hl) (fun c h => hc c (by simp [h]))]
  have tail : (∃ i : Nat, ∃ h : i < r.length, r[i] = m /\ hasW g b ((n + 1 + i : Nat) : Int) = true) ↔ ∃ i : Nat, ∃ h : i + 1 < (c :: r).length, (c :: r)[i + 1] = m /\ hasW g b ((n + (i + 1) : Nat) : Int) = true := by
   constructor
   ·rintro ⟨i, h, h1, h2⟩
    exact ⟨i, by simpa using h, h1, by rw [show n + (i + 1) = n + 1 + i by omega]; exact h2⟩
   ·rintro ⟨i, h, h1, h2⟩
    exact ⟨i, by simpa using h, h1, by rw [show n + 1 + i = n + (i + 1) by omega]; exact h2⟩
  have all : (∃ i : Nat, ∃ h : i < (c :: r).length, (c :: r)[i] = m /\ hasW g b ((n + i : Nat) : Int) = true) ↔ (c = m /\ hasW g b (n : Int) = true) \/ ∃ i : Nat, ∃ h : i + 1 < (c :: r).length, (c :: r)[i + 1] = m /\ hasW g b ((n + (i + 1) : Nat) : Int) = true := by
   constructor
   ·rintro ⟨i, h, h1, h2⟩
    cases i with
    | zero => exact .inl ⟨h1, h2⟩
    | succ i => exact .inr ⟨i, h, h1, h2⟩
   ·rintro (⟨h1, h2⟩ | ⟨i, h, h1, h2⟩)
    ·exact ⟨0, by simp, h1, h2⟩
    ·exact ⟨i + 1, h, h1, h2⟩
  rw [tail, all, <- or_assoc]
  refine or_congr_left ?_
  by_cases hcc : 0 ≤ c /\ hasW g b (n : Int) = true
  ·rw [if_pos hcc, has0_add h hl ⟨hcc.1, hc0⟩ hm, Bool.or_eq_true, decide_eq_true_eq]
   exact or_congr_right ⟨fun e => ⟨e, hcc.2⟩, fun e => e.1⟩
  ·rw [if_neg hcc]
   constructor
   ·exact .inl
   ·rintro (h | ⟨h1, h2⟩)
    ·exact h
    ·exact absurd ⟨by omega, h2⟩ hcc
/-- **Which colours are taken.** -/
theorem takenW {g cs : List Int} {s m : Int} (hm : 0 ≤ m /\ m < 512) (hc : ∀ c ∈ cs, c < 512) : hasW (takW g s cs) 0 m = true ↔ ∃ i : Nat, ∃ h : i < cs.length, cs[i] = m /\ hasW g (nb s) (i : Int) = true := by
 rw [takW, tak_has hm (zs_r 8) (zs_len 8) hc, has_zs hm.1]
 simp
end Go.Proofs.YtikppcfabnnhfaaDoor

/- Plain: the least number that a set does not have. -/
namespace Go.Proofs.YtikppcfabnnhfaaDoor
open Go Go.Aw
set_option linter.unusedVariables false
set_option maxRecDepth 100000
theorem odd_part : ∀ (n x : Nat), x ≤ n -> x ≠ 0 -> ∃ k m, x = 2 ^ k * (2 * m + 1)
 | 0, x, h, h0 => absurd (Nat.le_zero.1 h) h0
 | n + 1, x, h, h0 => by
  by_cases hx : x % 2 = 1
  ·exact ⟨0, x / 2, by rw [Nat.pow_zero, Nat.one_mul]; omega⟩
  ·obtain ⟨k, m, e⟩ := odd_part n (x / 2) (by omega) (by omega)
   refine ⟨k + 1, m, ?_⟩
   rw [Nat.pow_succ, Nat.mul_right_comm, <- e]
   omega
theorem tb_pow {k m j : Nat} (h : j < k) : (2 ^ k * m).testBit j = false := by
 have := Nat.testBit_two_pow_mul_add m (Nat.two_pow_pos k) j
 rw [Nat.add_zero, if_pos h] at this
 rw [this]; simp
theorem tb_at {k m j : Nat} : (2 ^ k * m).testBit (k + j) = m.testBit j := by
 have := Nat.testBit_two_pow_mul_add m (Nat.two_pow_pos k) (k + j)
 rw [Nat.add_zero, if_neg (by omega), show k + j - k = j by omega] at this
 exact this
theorem neg_and {x : Nat} (hx : x < 18446744073709551616) (h0 : x ≠ 0) : ∃ k, k < 64 /\ x &&& (18446744073709551616 - x) = 2 ^ k /\ x.testBit k = true /\ ∀ j, j < k -> x.testBit j = false := by
 obtain ⟨k, m, e⟩ := odd_part x x (Nat.le_refl _) h0
 have hk : k < 64 := by
  rcases Nat.lt_or_ge k 64 with h | h
  ·exact h
  ·have h1 : 2 ^ 64 ≤ 2 ^ k := Nat.pow_le_pow_right (by omega) h
   have h2 : 2 ^ k ≤ x := by rw [e]; exact Nat.le_mul_of_pos_right _ (by omega)
   omega
 refine ⟨k, hk, ?_, ?_, ?_⟩
 ·have hp : (18446744073709551616 : Nat) = 2 ^ k * (2 * 2 ^ (63 - k)) := by
   rw [<- Nat.pow_succ', <- Nat.pow_add, show k + (63 - k).succ = 64 by omega]
  have hm : m < 2 ^ (63 - k) := by
   have h1 : 2 ^ k * (2 * m + 1) < 2 ^ k * (2 * 2 ^ (63 - k)) := by rw [<- e, <- hp]; exact hx
   have := Nat.lt_of_mul_lt_mul_left h1
   omega
  have hs : 18446744073709551616 - x = 2 ^ k * (2 * (2 ^ (63 - k) - (m + 1)) + 1) := by
   rw [hp, e, <- Nat.mul_sub]
   congr 1
   omega
  rw [hs]
  apply Nat.eq_of_testBit_eq
  intro i
  rw [Nat.testBit_and, Nat.testBit_two_pow]
  rcases Nat.lt_or_ge i k with h | h
  ·rw [tb_pow h, show decide (k = i) = false from decide_eq_false (by omega), Bool.and_false]
  ·obtain ⟨j, rfl⟩ : ∃ j, i = k + j := ⟨i - k, by omega⟩
   rw [e, tb_at, tb_at]
   cases j with
   | zero => simp [Nat.testBit_zero]
   | succ j =>
    rw [Nat.testBit_succ, Nat.testBit_succ, show (2 * m + 1) / 2 = m by omega, show (2 * (2 ^ (63 - k) - (m + 1)) + 1) / 2 = 2 ^ (63 - k) - (m + 1) by omega, Nat.testBit_two_pow_sub_succ hm, show decide (k = k + (j + 1)) = false from decide_eq_false (by omega)]
    cases m.testBit j <;> simp
 ·have := tb_at (k := k) (m := 2 * m + 1) (j := 0)
  rw [<- e] at this
  rw [show x.testBit k = x.testBit (k + 0) from rfl, this]; simp [Nat.testBit_zero]
 ·intro j hj
  rw [e]
  exact tb_pow hj
theorem tab_ok : ∀ k, k < 64 -> tab.getD ((2 ^ k * 285870213051353865 % 18446744073709551616) / 288230376151711744) 0 = (k : Nat) := by decide +kernel
theorem tzW_nat {x : Nat} (hx : x < 18446744073709551616) (h0 : x ≠ 0) : ∃ k : Nat, k < 64 /\ tzW x = k /\ x.testBit k = true /\ ∀ j, j < k -> x.testBit j = false := by
 obtain ⟨k, hk, e, b1, b2⟩ := neg_and hx h0
 refine ⟨k, hk, ?_, b1, b2⟩
 unfold tzW tzI
 rw [if_neg (by omega)]
 have w1 : IntKind.u64.wrap (0 - (x : Int)) = ((18446744073709551616 - x : Nat) : Int) := by
  show (0 - (x : Int)) % 18446744073709551616 = _
  omega
 rw [w1, and_nat hx (by omega), e]
 have w2 : IntKind.u64.wrap (((2 ^ k : Nat) : Int) * 285870213051353865) = ((2 ^ k * 285870213051353865 % 18446744073709551616 : Nat) : Int) := by
  show (((2 ^ k : Nat) : Int) * 285870213051353865) % 18446744073709551616 = _
  rw [Int.natCast_emod, Int.natCast_mul]
  rfl
 rw [w2, show min 58 IntKind.u64.bits = 58 from rfl, Int.fdiv_eq_ediv_of_nonneg _ (Int.le_of_lt (Int.pow_pos (by omega)))]
 have := tab_ok k hk
 rw [show ((2 : Int) ^ 58) = ((288230376151711744 : Nat) : Int) by decide, <- Int.natCast_ediv, Int.toNat_natCast]
 exact this
theorem xor_nat {x y : Nat} (hx : x < 18446744073709551616) (hy : y < 18446744073709551616) : bitsI .xor .u64 x y = ((x ^^^ y : Nat) : Int) := by
 unfold bitsI
 simp only
 rw [BitVec.toNat_xor, ofNat_u64 hx, ofNat_u64 hy]
 have h : x ^^^ y < 2 ^ 64 := Nat.xor_lt_two_pow hx hy
 show ((x ^^^ y : Nat) : Int) % 18446744073709551616 = _
 exact Int.emod_eq_of_lt (by omega) (by omega)
theorem notW_nat {x : Nat} (hx : x < 18446744073709551616) : ∃ y : Nat, notW x = y /\ y < 18446744073709551616 /\ ∀ j, j < 64 -> y.testBit j = !x.testBit j := by
 refine ⟨18446744073709551615 ^^^ x, ?_, ?_, fun j hj => ?_⟩
 ·unfold notW
  rw [show (if IntKind.u64.signed = true then (-1 : Int) else IntKind.u64.max) = ((18446744073709551615 : Nat) : Int) from rfl]
  exact xor_nat (by omega) hx
 ·exact Nat.xor_lt_two_pow (n := 64) (by omega) hx
 ·rw [Nat.testBit_xor, show (18446744073709551615 : Nat) = 2 ^ 64 - 1 from rfl, Nat.testBit_two_pow_sub_one, decide_eq_true hj]
  cases x.testBit j <;> rfl
theorem all_ones {x : Nat} (hx : x < 18446744073709551616) (h : x ≠ 18446744073709551615) : ∃ j, j < 64 /\ x.testBit j = false := by
 rcases Classical.em (∃ j, j < 64 /\ x.testBit j = false) with h1 | h1
 ·exact h1
 ·refine absurd ?_ h
  have : x = 2 ^ 64 - 1 := by
   apply Nat.eq_of_testBit_eq
   intro i
   rw [Nat.testBit_two_pow_sub_one]
   by_cases hi : i < 64
   ·rw [decide_eq_true hi]
    cases hb : x.testBit i with
    | true => rfl
    | false => exact absurd ⟨i, hi, hb⟩ h1
   ·rw [decide_eq_false hi]
    exact Nat.testBit_lt_two_pow (Nat.lt_of_lt_of_le hx (Nat.pow_le_pow_right (n := 2) (by omega) (by omega : 64 ≤ i)))
  exact this
/-- **The least number that is not in the set.** -/
theorem least_set {T : List Int} (hT : allR T) (h8 : T.length = 8) : ∀ {r m : List Int}, T = m ++ r -> (64 * (m.length : Int) ≤ leastL r m.length /\ leastL r m.length ≤ 512) /\ (∀ j : Int, 64 * (m.length : Int) ≤ j -> j < leastL r m.length -> hasW T 0 j = true) /\ (leastL r m.length < 512 -> hasW T 0 (leastL r m.length) = false)
 | [], m, h => by
  rw [List.append_nil] at h
  subst h
  simp only [leastL]
  exact ⟨⟨by omega, by omega⟩, fun j h1 h2 => by omega, fun h => by omega⟩
 | w :: r, m, h => by
  have hl : m.length + (r.length + 1) = 8 := by rw [<- h8, h]; simp
  have hget : T.getD m.length 0 = w := by rw [h]; simp [List.getD_eq_getElem?_getD]
  obtain ⟨x, hx, hb⟩ := u64nat (hT w (by rw [h]; simp))
  have hbit : ∀ j : Int, 64 * (m.length : Int) ≤ j -> j < 64 * (m.length : Int) + 64 -> hasW T 0 j = x.testBit (j - 64 * m.length).toNat := fun j h1 h2 => by
   unfold hasW
   rw [show (0 + (j / 64).toNat) = m.length by omega, hget, hx, bitW_nat hb (by omega) (by omega), show j % 64 = j - 64 * m.length by omega]
  rw [leastL]
  by_cases hw : w = 18446744073709551615
  ·rw [if_pos hw]
   have ih := least_set hT h8 (r := r) (m := m ++ [w]) (by rw [h]; simp)
   simp only [List.length_append, List.length_cons, List.length_nil, Nat.zero_add, Int.natCast_add, Int.cast_ofNat_Int] at ih
   obtain ⟨⟨i1, i2⟩, i3, i4⟩ := ih
   refine ⟨⟨by omega, i2⟩, fun j h1 h2 => ?_, i4⟩
   rcases Int.lt_or_le j (64 * (m.length : Int) + 64) with h3 | h3
   ·rw [hbit j h1 h3, show x = 2 ^ 64 - 1 by omega, Nat.testBit_two_pow_sub_one]
    exact decide_eq_true (by omega)
   ·exact i3 j (by omega) h2
  ·rw [if_neg hw]
   obtain ⟨y, hy, hyb, hyt⟩ := notW_nat hb
   have hne : x ≠ 18446744073709551615 := fun e => hw (by rw [hx, e]; rfl)
   obtain ⟨j0, hj0, hj1⟩ := all_ones hb hne
   have hy0 : y ≠ 0 := fun e => by
    have := hyt j0 hj0
    rw [e, hj1] at this
    simp at this
   obtain ⟨k, hk, hkt, k1, k2⟩ := tzW_nat hyb hy0
   rw [hx, hy, hkt]
   refine ⟨⟨by omega, by omega⟩, fun j h1 h2 => ?_, fun _ => ?_⟩
   ·rw [hbit j h1 (by omega)]
    have := k2 (j - 64 * m.length).toNat (by omega)
    rw [hyt _ (by omega)] at this
    simpa using this
   ·rw [hbit _ (by omega) (by omega), show ((64 * (m.length : Int) + k) - 64 * m.length).toNat = k by omega]
    rw [hyt k hk] at k1
    simpa using k1
theorem least_ok {T : List Int} (hT : allR T) (h8 : T.length = 8) : (0 ≤ leastL T 0 /\ leastL T 0 ≤ 512) /\ (∀ j : Int, 0 ≤ j -> j < leastL T 0 -> hasW T 0 j = true) /\ (leastL T 0 < 512 -> hasW T 0 (leastL T 0) = false) := by
 have := least_set hT h8 (r := T) (m := []) rfl
 simpa using this
end Go.Proofs.YtikppcfabnnhfaaDoor

/- Plain: the least number of colours. -/
namespace Go.Proofs.YtikppcfabnnhfaaDoor
open Go Go.Aw
set_option linter.unusedVariables false
def confG (g : List Int) (a b : Int) : Prop := hasW g (nb a) b = true
theorem get_D {cs : List Int} {i : Nat} (h : i < cs.length) : cs.getD i 0 = cs[i] := by
 rw [List.getD_eq_getElem?_getD, List.getElem?_eq_getElem h]; rfl
end Go.Proofs.YtikppcfabnnhfaaDoor

/- Colours. -/
namespace Go.Proofs.YtikppcfabnnhfaaDoor
open Go Go.Aw
set_option linter.unusedSimpArgs false
set_option linter.unusedVariables false
set_option maxRecDepth 100000
set_option maxHeartbeats 40000000
/-- All numbers below a bound stand in a list: it is no shorter. -/
theorem pigeon2 : ∀ {n : Nat} {l : List Int}, (∀ j : Int, 0 ≤ j -> j < n -> j ∈ l) -> n ≤ l.length
 | 0, l, _ => Nat.zero_le _
 | n + 1, l, h => by
  have hm := h n (by omega) (by omega)
  have hl := List.length_erase_of_mem hm
  have hp := List.length_pos_of_mem hm
  have := pigeon2 (n := n) (l := l.erase (n : Int)) (fun j h0 h1 => (List.mem_erase_of_ne (by omega)).2 (h j h0 (by omega)))
  omega
end Go.Proofs.YtikppcfabnnhfaaDoor

/- Plain: Least says the least number of colours. -/
namespace Go.Proofs.YtikppcfabnnhfaaDoor
open Go Go.Aw
set_option linter.unusedVariables false
/-- A graph as a world has it. -/
structure GrOk (g : List Int) : Prop where
 sym : ∀ a b, selN a -> selN b -> confG g a b -> confG g b a
 irr : ∀ a, selN a -> ¬ confG g a a
/-! What the classes say. -/
theorem gr_ok {w : Wd} (h : clsok w.classes) : GrOk (graphW w) where
 sym a b ha hb hab := by
  obtain ⟨h1, c, hc, h2, h3⟩ := (nearW ha hb h).1 hab
  exact (nearW hb ha h).2 ⟨h1.symm, c, hc, h3, h2⟩
 irr a ha hab := ((nearW ha ha h).1 hab).1 rfl
theorem nodup_map_of {f : Int -> Int} : ∀ {l : List Int}, l.Nodup -> (∀ a ∈ l, ∀ b ∈ l, a ≠ b -> f a ≠ f b) -> (l.map f).Nodup
 | [], _, _ => List.nodup_nil
 | x :: l, h, hf => by
  rw [List.map_cons, List.nodup_cons]
  refine ⟨fun hm => ?_, nodup_map_of (List.nodup_cons.1 h).2 fun a ha b hb => hf a (by simp [ha]) b (by simp [hb])⟩
  obtain ⟨y, hy, he⟩ := List.mem_map.1 hm
  exact hf y (by simp [hy]) x (by simp) (fun e => (List.nodup_cons.1 h).1 (e ▸ hy)) he
end Go.Proofs.YtikppcfabnnhfaaDoor

/- Plain: how many bits a word has. -/
namespace Go.Proofs.YtikppcfabnnhfaaDoor
open Go Go.Aw
set_option linter.unusedVariables false
set_option maxRecDepth 100000
def mk (c : Nat) : Nat -> Nat
 | 0 => 0
 | n + 1 => c + 256 * mk c n
def s1 (u : Nat) : Nat := (u / 2 &&& 85) + (u &&& 85)
def s2 (u : Nat) : Nat := (u / 4 &&& 51) + (u &&& 51)
def s3 (u : Nat) : Nat := (u / 16 + u) % 16
theorem h1 : ∀ u, u < 512 -> u / 2 % 256 &&& 85 = (u % 256) / 2 &&& 85 := by decide +kernel
theorem h2 : ∀ u, u < 1024 -> u / 4 % 256 &&& 51 = (u % 256) / 4 &&& 51 := by decide +kernel
theorem h3 : ∀ v, v < 256 -> v &&& 15 = v % 16 := by decide +kernel
theorem d4 : ∀ u, u < 256 -> (s2 (s1 u) % 16 ≤ 4 /\ s2 (s1 u) / 16 ≤ 4) := by decide +kernel
end Go.Proofs.YtikppcfabnnhfaaDoor

/- Plain: how many selectors are understood. -/
namespace Go.Proofs.YtikppcfabnnhfaaDoor
open Go Go.Aw
set_option linter.unusedVariables false
set_option maxRecDepth 100000
set_option maxHeartbeats 4000000
end Go.Proofs.YtikppcfabnnhfaaDoor

/- Plain: what a check takes; what ColourFew says. -/
namespace Go.Proofs.YtikppcfabnnhfaaDoor
open Go Go.Aw
set_option linter.unusedVariables false
theorem ck_of_good {w : Wd} (g : Good w) : ckM w = 0 := by
 have h1 := g.nc
 have h2 := g.nb
 have h3 := g.nr
 have a1 : w.classes.any bigC = false := by
  rw [List.any_eq_false]
  intro c hc
  have := g.len c hc
  simp only [bigC, decide_eq_true_eq]
  omega
 have a2 : w.bodies.any bigB = false := by
  rw [List.any_eq_false]
  intro b hb
  have := g.bl b hb
  simp only [bigB, Bool.or_eq_true, decide_eq_true_eq]
  omega
 have a3 : ckCs w.bodies.length w.classes = 0 := ckCs_iff.2 fun c hc => ckC_none.2 ⟨g.ent c hc, g.asc c hc⟩
 have a4 : w.bodies.any (badB w.bodies.length w.classes.length) = false := by
  rw [List.any_eq_false]
  intro b hb
  have := g.br b hb
  simp only [badB, inR_all.2 this.1, inR_all.2 this.2.1, inR_all.2 this.2.2]
  decide
 unfold ckM
 rw [if_neg (by omega), a1, if_neg (by decide), a2, if_neg (by decide), if_neg (by simp [a3]), a4, if_neg (by decide), if_pos (inR_all.2 g.rr)]
end Go.Proofs.YtikppcfabnnhfaaDoor

/- Plain: Colours are colours. -/
namespace Go.Proofs.YtikppcfabnnhfaaDoor
open Go Go.Aw
set_option linter.unusedVariables false
theorem set_get {cs : List Int} {n i : Nat} {v : Int} (h : n < cs.length) : (cs.set n v).getD i 0 = if i = n then v else cs.getD i 0 := by
 rw [List.getD_eq_getElem?_getD, List.getElem?_set]
 by_cases e : n = i
 ·subst e; rw [if_pos rfl, if_pos h, if_pos rfl]; rfl
 ·rw [if_neg e, if_neg (fun h => e h.symm), <- List.getD_eq_getElem?_getD]
end Go.Proofs.YtikppcfabnnhfaaDoor

/- Plain: what CheckColours takes. -/
namespace Go.Proofs.YtikppcfabnnhfaaDoor
open Go Go.Aw
set_option linter.unusedVariables false
/-- Colours of a graph. -/
structure ColsOk (g cs : List Int) : Prop where
 len : cs.length = szM g 500
 bd : ∀ c ∈ cs, -1 ≤ c /\ c < 500
 kn : ∀ i : Nat, i < cs.length -> (hasW g 0 i = true -> 0 ≤ cs.getD i 0)
 un : ∀ i : Nat, i < cs.length -> (hasW g 0 i = false -> cs.getD i 0 = -1)
 no : ∀ i j : Nat, i < cs.length -> j < cs.length -> 0 ≤ cs.getD i 0 -> cs.getD i 0 = cs.getD j 0 -> ¬ confG g i j
theorem bad_iff {g : List Int} {n c : Int} : badC g n c = false ↔ (-1 ≤ c /\ c < 500) /\ (hasW g 0 n = true -> 0 ≤ c) /\ (hasW g 0 n = false -> c = -1) := by
 unfold badC
 rw [Bool.or_eq_false_iff, Bool.or_eq_false_iff, decide_eq_false_iff_not, decide_eq_false_iff_not]
 by_cases hc : c = -1
 ·subst hc
  cases h : hasW g 0 n
  ·exact ⟨fun _ => ⟨⟨by omega, by omega⟩, fun h => (by cases h), fun _ => rfl⟩, fun _ => ⟨⟨rfl, by omega⟩, by omega⟩⟩
  ·exact ⟨fun h => (by have := h.1.1; cases this), fun h => by have := h.2.1 rfl; omega⟩
 ·have e : (c == -1) = false := beq_eq_false_iff_ne.2 hc
  rw [e]
  cases h : hasW g 0 n
  ·exact ⟨fun h => (by have := h.1.1; cases this), fun h => absurd (h.2.2 rfl) hc⟩
  ·exact ⟨fun h => ⟨⟨by omega, by omega⟩, fun _ => by omega, fun h => (by cases h)⟩, fun h => ⟨⟨rfl, by omega⟩, by omega⟩⟩
theorem anyB_iff {g : List Int} : ∀ {r : List Int} {n : Int}, anyB g r n = false ↔ ∀ i : Nat, i < r.length -> badC g (n + i) (r.getD i 0) = false
 | [], n => by simp [anyB]
 | c :: r, n => by
  rw [anyB, Bool.or_eq_false_iff, anyB_iff]
  constructor
  ·rintro ⟨h1, h2⟩ i hi
   cases i with
   | zero => simpa using h1
   | succ i =>
    have := h2 i (by simpa using hi)
    rw [show n + ((i + 1 : Nat) : Int) = n + 1 + i by omega]
    simpa using this
  ·intro h
   refine ⟨by simpa using h 0 (by simp), fun i hi => ?_⟩
   have := h (i + 1) (by simpa using hi)
   rw [show n + ((i + 1 : Nat) : Int) = n + 1 + i by omega] at this
   simpa using this
theorem clash_iff {g cs : List Int} : ∀ {r : List Int} {n : Int}, clash g cs r n = false ↔ ∀ i : Nat, i < r.length -> 0 ≤ r.getD i 0 -> hasW (takW g (n + i) cs) 0 (r.getD i 0) = false
 | [], n => by simp [clash]
 | c :: r, n => by
  rw [clash, Bool.or_eq_false_iff, clash_iff, Bool.and_eq_false_imp]
  constructor
  ·rintro ⟨h1, h2⟩ i hi h0
   cases i with
   | zero =>
    have := h1 (by simpa using h0)
    simpa using this
   | succ i =>
    have := h2 i (by simpa using hi) (by simpa using h0)
    rw [show n + ((i + 1 : Nat) : Int) = n + 1 + i by omega]
    simpa using this
  ·intro h
   refine ⟨fun h0 => by have := h 0 (by simp) (by simpa using h0); simpa using this, fun i hi h0 => ?_⟩
   have := h (i + 1) (by simpa using hi) (by simpa using h0)
   rw [show n + ((i + 1 : Nat) : Int) = n + 1 + i by omega] at this
   simpa using this
theorem getD_mem {l : List Int} {i : Nat} (h : i < l.length) : l.getD i 0 ∈ l := by
 rw [get_D h]; exact List.getElem_mem _
/-- **What CheckColours takes.** -/
theorem cc_iff {g cs : List Int} : ccW g cs = 0 ↔ ColsOk g cs := by
 have hz := szM_le g 500
 unfold ccW
 constructor
 ·intro h
  split at h
  case isFalse => cases h
  rename_i h1
  split at h
  ·cases h
  rename_i h2
  split at h
  ·cases h
  rename_i h3
  have a := anyB_iff.1 (show anyB g cs 0 = false by simpa using h2)
  have b := clash_iff.1 (show clash g cs cs 0 = false by simpa using h3)
  have a' := fun i hi => bad_iff.1 (a i hi)
  simp only [Int.zero_add] at a' b
  have bd : ∀ c ∈ cs, -1 ≤ c /\ c < 500 := fun c hc => by
   obtain ⟨i, hi, rfl⟩ := List.mem_iff_getElem.1 hc
   rw [<- get_D hi]
   exact (a' i hi).1
  refine ⟨h1, bd, fun i hi => (a' i hi).2.1, fun i hi => (a' i hi).2.2, fun i j hi hj h0 he hc => ?_⟩
  have := (takenW (g := g) (cs := cs) (s := i) (m := cs.getD i 0) ⟨h0, by have := bd _ (getD_mem hi); omega⟩ (fun c hc => by have := bd c hc; omega)).2 ⟨j, hj, by rw [<- get_D hj]; exact he.symm, hc⟩
  rw [b i hi h0] at this
  cases this
 ·intro h
  rw [if_pos h.len, if_neg, if_neg]
  ·intro hc
   refine absurd (clash_iff.2 fun i hi h0 => ?_) (by rw [hc]; simp)
   cases hh : hasW (takW g (0 + i) cs) 0 (cs.getD i 0) with
   | false => rfl
   | true =>
    rw [Int.zero_add] at hh
    obtain ⟨j, hj, e, hc⟩ := (takenW (g := g) (cs := cs) (s := i) (m := cs.getD i 0) ⟨h0, by have := h.bd _ (getD_mem hi); omega⟩ (fun c hc => by have := h.bd c hc; omega)).1 hh
    exact absurd hc (h.no i j hi hj h0 (by rw [get_D hj]; exact e.symm))
  ·intro hc
   refine absurd (anyB_iff.2 fun i hi => bad_iff.2 ⟨h.bd _ (getD_mem hi), ?_, ?_⟩) (by rw [hc]; simp)
   ·rw [Int.zero_add]; exact h.kn i hi
   ·rw [Int.zero_add]; exact h.un i hi
end Go.Proofs.YtikppcfabnnhfaaDoor

/- Plain: tables, and the packed vector. -/
namespace Go.Proofs.YtikppcfabnnhfaaDoor
open Go Go.Aw
set_option linter.unusedVariables false
def cntO (v : List Et) : Nat := (v.filter fun e => decide (0 ≤ e.s)).length
theorem cnt_set : ∀ {v : List Et} {p : Nat} {x e : Et}, v[p]? = some e -> e.s < 0 -> 0 ≤ x.s -> cntO (v.set p x) = cntO v + 1
 | [], _, _, _, h, _, _ => by cases h
 | y :: v, 0, x, e, h, h1, h2 => by
  cases h
  simp only [cntO, List.set_cons_zero, List.filter_cons, decide_eq_true h2, decide_eq_false (show ¬ 0 ≤ y.s by omega), if_true]
  rfl
 | y :: v, p + 1, x, e, h, h1, h2 => by
  have := cnt_set (v := v) (p := p) (x := x) (e := e) (by simpa using h) h1 h2
  simp only [cntO, List.set_cons_succ, List.filter_cons] at this ⊢
  split
  ·simp only [List.length_cons, this]
  ·exact this
theorem cnt_app {v w : List Et} : cntO (v ++ w) = cntO v + cntO w := by simp [cntO, List.filter_append]
theorem cnt_no {n : Nat} : cntO (reN n) = 0 := by
 unfold cntO reN
 rw [List.length_eq_zero_iff, List.filter_eq_nil_iff]
 intro e he
 rw [List.eq_of_mem_replicate he]
 decide
theorem noE_get {n p : Nat} {e : Et} (h : (reN n)[p]? = some e) : e = noE := List.eq_of_mem_replicate (List.mem_of_getElem? h)
/-- The colours of a class differ. -/
def injC (cs : List Int) (c : List Et) : Prop := c.Pairwise fun e f => colAt cs e.s ≠ colAt cs f.s
/-- **The table of a class.** -/
theorem tu_law {cs : List Int} : ∀ {r t m : List Et}, injC cs (m ++ r) -> (∀ e ∈ m ++ r, hasC cs e /\ (colAt cs e.s).toNat < t.length) ->
  (∀ e ∈ m, t[(colAt cs e.s).toNat]? = some e) -> (∀ (i : Nat) (e : Et), t[i]? = some e -> 0 ≤ e.s -> e ∈ m /\ (colAt cs e.s).toNat = i) ->
  (∀ e ∈ m ++ r, (tuM cs r t)[(colAt cs e.s).toNat]? = some e) /\ (∀ (i : Nat) (e : Et), (tuM cs r t)[i]? = some e -> 0 ≤ e.s -> e ∈ m ++ r /\ (colAt cs e.s).toNat = i) /\ cntO (tuM cs r t) = cntO t + r.length
 | [], t, m, _, _, h1, h2 => by
  rw [List.append_nil]
  exact ⟨h1, h2, rfl⟩
 | x :: r, t, m, hi, hh, h1, h2 => by
  have e1 : m ++ x :: r = (m ++ [x]) ++ r := by simp
  rw [tuM]
  rw [e1] at hi hh ⊢
  have hx := hh x (by simp)
  have hne : ∀ e ∈ m, (colAt cs e.s).toNat ≠ (colAt cs x.s).toNat := fun e he hc => by
   unfold injC at hi
   rw [List.pairwise_append] at hi
   have := (List.pairwise_append.1 hi.1).2.2 e he x (by simp)
   have a := (hh e (by simp [he])).1
   unfold hasC at a hx
   omega
  obtain ⟨k1, k2, k3⟩ := tu_law (r := r) (t := t.set (colAt cs x.s).toNat x) (m := m ++ [x]) hi (fun e he => by rw [List.length_set]; exact hh e he) (fun e he => by
    rw [List.getElem?_set]
    rcases List.mem_append.1 he with he | he
    ·rw [if_neg (fun h => hne e he h.symm)]
     exact h1 e he
    ·rw [List.mem_singleton.1 he, if_pos rfl, if_pos hx.2]) (fun i e he h0 => by
    rw [List.getElem?_set] at he
    split at he
    ·rename_i hi'
     split at he
     ·cases he
      exact ⟨by simp, hi'⟩
     ·cases he
    ·obtain ⟨a, b⟩ := h2 i e he h0
     exact ⟨by simp [a], b⟩)
  refine ⟨k1, k2, ?_⟩
  have hlt := hx.2
  have hs : (t[(colAt cs x.s).toNat]).s < 0 := by
   rcases Int.lt_or_le (t[(colAt cs x.s).toNat]).s 0 with h | h
   ·exact h
   ·obtain ⟨a, b⟩ := h2 _ _ (List.getElem?_eq_getElem hlt) h
    exact absurd b (hne _ a)
  rw [k3, cnt_set (List.getElem?_eq_getElem hlt) hs hx.1.1, List.length_cons]
  omega
structure TabOk (cs : List Int) (c t : List Et) : Prop where
 hit : ∀ e ∈ c, t[(colAt cs e.s).toNat]? = some e
 inv : ∀ (i : Nat) (e : Et), t[i]? = some e -> 0 ≤ e.s -> e ∈ c /\ (colAt cs e.s).toNat = i
 cnt : cntO t = c.length
theorem tab_law {cs : List Int} {c : List Et} (hi : injC cs c) (hh : ∀ e ∈ c, hasC cs e) : TabOk cs c (tblM cs c) := by
 obtain ⟨a, b, d⟩ := tsM_rng (n := 0) hh (by omega) (by omega)
 have := tu_law (cs := cs) (r := c) (t := reN (tsM cs c 0).toNat) (m := []) hi (fun e he => ⟨hh e he, by
  have := d e he
  have h2 := hh e he
  unfold hasC at h2
  simp only [reN, List.length_replicate]
  omega⟩) (by simp) (fun i e he h0 => by
  rw [noE_get he] at h0
  exact absurd h0 (by decide))
 rw [List.nil_append, cnt_no, Nat.zero_add] at this
 exact ⟨this.1, this.2.1, this.2.2⟩
/-- What is put, lies. -/
theorem put_law : ∀ {r : List Et} {p : Nat} {v : List Et}, (r = [] \/ p + r.length ≤ v.length) -> (∀ (i : Nat) (s e : Et), r[i]? = some s -> 0 ≤ s.s -> v[p + i]? = some e -> e.s < 0) ->
  (∀ (i : Nat) (s : Et), r[i]? = some s -> 0 ≤ s.s -> (putL r p v)[p + i]? = some s) /\ (∀ (q : Nat), (∀ (i : Nat) (s : Et), r[i]? = some s -> 0 ≤ s.s -> q ≠ p + i) -> (putL r p v)[q]? = v[q]?) /\ cntO (putL r p v) = cntO v + cntO r
 | [], p, v, _, _ => by simp [putL, cntO]
 | x :: r, p, v, hl, hf => by
  have hl' : p + (r.length + 1) ≤ v.length := hl.resolve_left (by simp)
  have hp : p < v.length := by omega
  have e0 : ((p : Int)).toNat = p := by omega
  have e1 : (p : Int) + 1 = ((p + 1 : Nat) : Int) := by omega
  rw [putL, e0, e1]
  by_cases hx : 0 ≤ x.s
  ·rw [if_pos hx]
   have hfree := hf 0 x v[p] rfl hx (by rw [Nat.add_zero]; exact List.getElem?_eq_getElem hp)
   obtain ⟨k1, k2, k3⟩ := put_law (r := r) (p := p + 1) (v := v.set p x) (.inr (by rw [List.length_set]; omega)) (fun i s e hs h0 he => by
    rw [List.getElem?_set, if_neg (by omega)] at he
    exact hf (i + 1) s e (by simpa using hs) h0 (by rw [show p + (i + 1) = p + 1 + i by omega]; exact he))
   refine ⟨fun i s hs h0 => ?_, fun q hq => ?_, ?_⟩
   ·cases i with
    | zero =>
     cases hs
     have e := k2 p (fun i s _ _ => by omega)
     rw [List.getElem?_set, if_pos rfl, if_pos hp] at e
     exact e
    | succ i =>
     rw [show p + (i + 1) = p + 1 + i by omega]
     exact k1 i s (by simpa using hs) h0
   ·have hqp : q ≠ p := by have := hq 0 x rfl hx; omega
    rw [k2 q (fun i s hs h0 => by have := hq (i + 1) s (by simpa using hs) h0; omega), List.getElem?_set, if_neg (fun h => hqp h.symm)]
   ·rw [k3, cnt_set (List.getElem?_eq_getElem hp) hfree hx]
    have : cntO (x :: r) = cntO r + 1 := by simp [cntO, hx]
    omega
  ·rw [if_neg hx]
   obtain ⟨k1, k2, k3⟩ := put_law (r := r) (p := p + 1) (v := v) (.inr (by omega)) (fun i s e hs h0 he => hf (i + 1) s e (by simpa using hs) h0 (by rw [show p + (i + 1) = p + 1 + i by omega]; exact he))
   refine ⟨fun i s hs h0 => ?_, fun q hq => ?_, ?_⟩
   ·cases i with
    | zero => cases hs; exact absurd h0 hx
    | succ i =>
     rw [show p + (i + 1) = p + 1 + i by omega]
     exact k1 i s (by simpa using hs) h0
   ·exact k2 q (fun i s hs h0 => by have := hq (i + 1) s (by simpa using hs) h0; omega)
   ·rw [k3]
    have : cntO (x :: r) = cntO r := by simp [cntO, hx]
    omega
theorem fit_iff {vec : List Et} : ∀ {t : List Et} {p : Nat}, fitL vec t p = true ↔ ∀ (i : Nat) (s e : Et), t[i]? = some s -> 0 ≤ s.s -> vec[p + i]? = some e -> e.s < 0
 | [], p => by simp [fitL]
 | x :: t, p => by
  rw [fitL, show (p : Int) + 1 = ((p + 1 : Nat) : Int) by omega]
  have ih := fit_iff (vec := vec) (t := t) (p := p + 1)
  have e0 : ((p : Int)).toNat = p := by omega
  rw [e0]
  constructor
  ·intro h i s e hs h0 he
   split at h
   ·cases h
   ·rename_i hc
    cases i with
    | zero =>
     cases hs
     obtain ⟨hp, rfl⟩ := List.getElem?_eq_some_iff.1 he
     rw [Nat.add_zero] at hp
     have hg : vec.getD p ⟨0, 0⟩ = vec[p] := by rw [List.getD_eq_getElem?_getD, List.getElem?_eq_getElem hp]; rfl
     rw [hg] at hc
     have : ¬ 0 ≤ (vec[p]).s := fun h => hc ⟨h0, by omega, h⟩
     simp only [Nat.add_zero]
     omega
    | succ i => exact ih.1 h i s e (by simpa using hs) h0 (by rw [show p + 1 + i = p + (i + 1) by omega]; exact he)
  ·intro h
   rw [if_neg, ih]
   ·intro i s e hs h0 he
    exact h (i + 1) s e (by simpa using hs) h0 (by rw [show p + (i + 1) = p + 1 + i by omega]; exact he)
   ·rintro ⟨h0, hp, h1⟩
    have hp' : p < vec.length := by omega
    have hg : vec.getD p ⟨0, 0⟩ = vec[p] := by rw [List.getD_eq_getElem?_getD, List.getElem?_eq_getElem hp']; rfl
    rw [hg] at h1
    have := h 0 x vec[p] rfl h0 (List.getElem?_eq_getElem hp')
    omega
theorem fAt_ok {ok : Int -> Bool} : ∀ {k : Nat} {a : Int}, ok (a + k) = true -> ok (fAt ok k a) = true
 | 0, a, h => by simpa [fAt] using h
 | k + 1, a, h => by
  rw [fAt]
  split
  ·rename_i h; exact h
  ·exact fAt_ok (by rw [show a + 1 + (k : Int) = a + ((k + 1 : Nat) : Int) by omega]; exact h)
theorem place_ok {offs : List Int} {vec t : List Et} : okA offs vec t (placeA offs vec t) = true /\ 0 ≤ placeA offs vec t := by
 obtain ⟨h1, h2⟩ := top_fold (offs := offs) (n := vec.length)
 unfold placeA
 refine ⟨fAt_ok ?_, (fAt_rng (k := (topM offs vec).toNat) (a := 0)).1⟩
 have e : (0 : Int) + ((topM offs vec).toNat : Int) = topM offs vec := by unfold topM; omega
 rw [e, okA, Bool.and_eq_true]
 refine ⟨?_, fitL_far h1⟩
 rw [Bool.not_eq_true']
 cases hc : offs.contains (topM offs vec) with
 | false => rfl
 | true =>
  have := h2 _ (List.contains_iff_mem.1 hc)
  unfold topM at this
  omega
end Go.Proofs.YtikppcfabnnhfaaDoor

/- Plain: the packed vector answers as the classes do. -/
namespace Go.Proofs.YtikppcfabnnhfaaDoor
open Go Go.Aw
set_option linter.unusedVariables false
def sumL : List (List Et) -> Nat
 | [] => 0
 | c :: r => c.length + sumL r
theorem sumL_app : ∀ {a b : List (List Et)}, sumL (a ++ b) = sumL a + sumL b
 | [], b => by simp [sumL]
 | c :: a, b => by rw [List.cons_append, sumL, sumL, sumL_app]; omega
/-- Of classes that lie in a vector. -/
theorem nd_inj : ∀ {l : List Int} {i j : Nat} {x : Int}, l.Nodup -> l[i]? = some x -> l[j]? = some x -> i = j
 | y :: l, 0, 0, x, _, _, _ => rfl
 | y :: l, 0, j + 1, x, h, h1, h2 => by
  cases h1
  exact absurd (List.mem_of_getElem? (by simpa using h2)) (List.nodup_cons.1 h).1
 | y :: l, i + 1, 0, x, h, h1, h2 => by
  cases h2
  exact absurd (List.mem_of_getElem? (by simpa using h1)) (List.nodup_cons.1 h).1
 | y :: l, i + 1, j + 1, x, h, h1, h2 => congrArg (· + 1) (nd_inj (List.nodup_cons.1 h).2 (by simpa using h1) (by simpa using h2))
structure PkOk (cs : List Int) (d : List (List Et)) (v : List Et) (o : List Int) : Prop where
 len : o.length = d.length
 nd : o.Nodup
 nn : ∀ x ∈ o, 0 ≤ x
 sel : ∀ c ∈ d, ∀ e ∈ c, 0 ≤ e.s
 hit : ∀ (k : Nat) (c : List Et) (x : Int) (e : Et), d[k]? = some c -> o[k]? = some x -> e ∈ c -> v[x.toNat + (colAt cs e.s).toNat]? = some e
 inv : ∀ (p : Nat) (e : Et), v[p]? = some e -> 0 ≤ e.s -> ∃ (k : Nat) (c : List Et) (x : Int), d[k]? = some c /\ o[k]? = some x /\ e ∈ c /\ p = x.toNat + (colAt cs e.s).toNat
 cnt : cntO v = sumL d
theorem grow_get {vec t : List Et} {a : Int} {p : Nat} {e : Et} (h : (growM vec t a)[p]? = some e) : vec[p]? = some e \/ (vec.length ≤ p /\ e = noE) := by
 unfold growM at h
 split at h
 ·rw [List.getElem?_append] at h
  split at h
  ·exact .inl h
  ·exact .inr ⟨by omega, noE_get h⟩
 ·exact .inl h
theorem grow_old {vec t : List Et} {a : Int} {p : Nat} {e : Et} (h : vec[p]? = some e) : (growM vec t a)[p]? = some e := by
 unfold growM
 split
 ·rw [List.getElem?_append, if_pos (List.getElem?_eq_some_iff.1 h).1]; exact h
 ·exact h
theorem grow_cnt {vec t : List Et} {a : Int} : cntO (growM vec t a) = cntO vec := by
 unfold growM
 split
 ·rw [cnt_app, cnt_no, Nat.add_zero]
 ·rfl
theorem pk_step {cs : List Int} {d : List (List Et)} {v : List Et} {o : List Int} {c : List Et} (h : PkOk cs d v o) (hi : injC cs c) (hh : ∀ e ∈ c, hasC cs e) :
  PkOk cs (d ++ [c]) (putL (tblM cs c) (placeA o v (tblM cs c)) (growM v (tblM cs c) (placeA o v (tblM cs c)))) (o ++ [placeA o v (tblM cs c)]) := by
 have T := tab_law hi hh
 generalize tblM cs c = t at T ⊢
 obtain ⟨p1, p2⟩ := place_ok (offs := o) (vec := v) (t := t)
 generalize placeA o v t = a at p1 p2 ⊢
 obtain ⟨n, rfl⟩ : ∃ n : Nat, a = n := ⟨a.toNat, by omega⟩
 rw [okA, Bool.and_eq_true, Bool.not_eq_true'] at p1
 have hno : (n : Int) ∉ o := fun hm => by
  have := List.contains_iff_mem.2 hm
  rw [p1.1] at this; cases this
 have hfit := fit_iff.1 p1.2
 obtain ⟨g1, g2, g3⟩ := growM_len (vec := v) (t := t) (a := (n : Int)) (by omega)
 obtain ⟨k1, k2, k3⟩ := put_law (r := t) (p := n) (v := growM v t n) (g2.imp id fun h => by omega) (fun i s e hs h0 he => by
  rcases grow_get he with he | ⟨_, rfl⟩
  ·exact hfit i s e hs h0 he
  ·decide)
 have free : ∀ (q : Nat) (e : Et), v[q]? = some e -> 0 ≤ e.s -> ∀ (i : Nat) (s : Et), t[i]? = some s -> 0 ≤ s.s -> q ≠ n + i := fun q e he h0 i s hs hs0 hq => by
  have := hfit i s e hs hs0 (by rw [<- hq]; exact he)
  omega
 have hod : ∀ {k : Nat} {c' : List Et} {x : Int}, (d ++ [c])[k]? = some c' -> (o ++ [(n : Int)])[k]? = some x -> (d[k]? = some c' /\ o[k]? = some x) \/ (c' = c /\ x = n) := fun {k c' x} h1 h2 => by
  rw [List.getElem?_append] at h1 h2
  by_cases hk : k < d.length
  ·rw [if_pos hk] at h1
   rw [if_pos (by rw [h.len]; exact hk)] at h2
   exact .inl ⟨h1, h2⟩
  ·rw [if_neg hk] at h1
   rw [if_neg (by rw [h.len]; exact hk), h.len] at h2
   have : k - d.length = 0 := by
    have := (List.getElem?_eq_some_iff.1 h1).1
    simp at this
    omega
   rw [this] at h1 h2
   cases h1; cases h2
   exact .inr ⟨rfl, rfl⟩
 refine ⟨by simp [h.len], ?_, fun x hx => ?_, fun c' hc' e he => ?_, fun k c' x e h1 h2 he => ?_, fun p e hp h0 => ?_, ?_⟩
 ·rw [List.nodup_append]
  refine ⟨h.nd, by simp, fun x hx y hy => ?_⟩
  rw [List.mem_singleton.1 hy]
  exact fun e => hno (e ▸ hx)
 ·rcases List.mem_append.1 hx with hx | hx
  ·exact h.nn x hx
  ·rw [List.mem_singleton.1 hx]; omega
 ·rcases List.mem_append.1 hc' with hc' | hc'
  ·exact h.sel c' hc' e he
  ·rw [List.mem_singleton.1 hc'] at he
   exact (hh e he).1
 ·rcases hod h1 h2 with ⟨h1, h2⟩ | ⟨rfl, rfl⟩
  ·have hv := h.hit k c' x e h1 h2 he
   obtain ⟨_, hlt⟩ := List.getElem?_eq_some_iff.1 hv
   have he0 : 0 ≤ e.s := h.sel c' (List.mem_of_getElem? h1) e he
   rw [k2 _ (fun i s hs hs0 => free _ e hv he0 i s hs hs0)]
   exact grow_old hv
  ·rw [show ((n : Int)).toNat = n by omega]
   exact k1 _ e (T.hit e he) (hh e he).1
 ·by_cases hq : ∃ (i : Nat) (s : Et), t[i]? = some s /\ 0 ≤ s.s /\ p = n + i
  ·obtain ⟨i, s, hs, hs0, rfl⟩ := hq
   rw [k1 i s hs hs0] at hp
   cases hp
   obtain ⟨a1, a2⟩ := T.inv i _ hs hs0
   refine ⟨d.length, c, n, by simp, by rw [<- h.len]; simp, a1, ?_⟩
   rw [a2]; omega
  ·rw [k2 p (fun i s hs hs0 e => hq ⟨i, s, hs, hs0, e⟩)] at hp
   rcases grow_get hp with hp | ⟨_, rfl⟩
   ·obtain ⟨k, c', x, b1, b2, b3, b4⟩ := h.inv p e hp h0
    refine ⟨k, c', x, ?_, ?_, b3, b4⟩
    ·rw [List.getElem?_append, if_pos (List.getElem?_eq_some_iff.1 b1).1]; exact b1
    ·rw [List.getElem?_append, if_pos (List.getElem?_eq_some_iff.1 b2).1]; exact b2
   ·exact absurd h0 (by decide)
 ·rw [k3, grow_cnt, h.cnt, T.cnt, sumL_app]
  simp [sumL]
theorem pk_all {cs : List Int} : ∀ {r d : List (List Et)} {v : List Et} {o : List Int}, PkOk cs d v o -> (∀ c ∈ r, injC cs c /\ ∀ e ∈ c, hasC cs e) -> PkOk cs (d ++ r) (packM cs r (v, o)).1 (packM cs r (v, o)).2
 | [], d, v, o, h, _ => by rw [List.append_nil]; exact h
 | c :: r, d, v, o, h, hr => by
  have := pk_all (r := r) (pk_step h (hr c (by simp)).1 (hr c (by simp)).2) (fun c' hc' => hr c' (by simp [hc']))
  rw [List.append_assoc] at this
  exact this
theorem pk_nil {cs : List Int} : PkOk cs [] [] [] := ⟨rfl, List.nodup_nil, by simp, by simp, by simp, by simp, rfl⟩
/-- Two selectors of a class have two colours. -/
theorem inj_of {w : Wd} {cs : List Int} (g : Good w) (h : ColsOk (graphW w) cs) {c : List Et} (hc : c ∈ w.classes) : injC cs c /\ ∀ e ∈ c, hasC cs e := by
 have hk := clsok_of g
 have hz := szM_le (graphW w) 500
 have has : ∀ e ∈ c, hasC cs e := fun e he => by
  obtain ⟨s1, s2⟩ := (hk c hc).1 e he
  have kn : hasW (graphW w) 0 e.s = true := (knownW ⟨s1, s2⟩ hk).2 ⟨c, hc, List.mem_map.2 ⟨e, he, rfl⟩⟩
  have hlt := szM_lt (g := graphW w) (n := 500) (m := e.s.toNat) (by rw [show ((e.s.toNat : Nat) : Int) = e.s by omega]; exact kn) (by omega)
  rw [<- h.len] at hlt
  have h0 := h.kn e.s.toNat hlt (by rw [show ((e.s.toNat : Nat) : Int) = e.s by omega]; exact kn)
  have hb := h.bd _ (getD_mem hlt)
  exact ⟨s1, by omega, h0, hb.2⟩
 refine ⟨?_, has⟩
 have hp := g.asc c hc
 rw [List.pairwise_map] at hp
 refine hp.imp_of_mem fun {a b} ha hb hab he => ?_
 have a1 := has a ha
 have b1 := has b hb
 unfold hasC at a1 b1
 have := h.no a.s.toNat b.s.toNat (by omega) (by omega) a1.2.2.1 he
 rw [show ((a.s.toNat : Nat) : Int) = a.s by omega, show ((b.s.toNat : Nat) : Int) = b.s by omega] at this
 exact this ((nearW ((hk c hc).1 a ha) ((hk c hc).1 b hb) hk).2 ⟨by omega, c, hc, List.mem_map.2 ⟨a, ha, rfl⟩, List.mem_map.2 ⟨b, hb, rfl⟩⟩)
/-- The method of a class for a selector: that of the last entry that has it. -/
def wantM : List Et -> Int -> Int -> Int
 | [], _, m => m
 | e :: r, s, m => wantM r s (if e.s = s then e.m else m)
theorem want_no {s : Int} : ∀ {c : List Et} {m : Int}, (∀ e ∈ c, e.s ≠ s) -> wantM c s m = m
 | [], _, _ => rfl
 | e :: c, m, h => by rw [wantM, if_neg (h e (by simp)), want_no fun e he => h e (by simp [he])]
theorem want_at {s : Int} : ∀ {c : List Et} {m : Int} {e : Et}, (c.map Et.s).Nodup -> e ∈ c -> e.s = s -> wantM c s m = e.m
 | x :: c, m, e, hnd, he, hs => by
  rw [List.map_cons, List.nodup_cons] at hnd
  rw [wantM]
  rcases List.mem_cons.1 he with rfl | he
  ·rw [if_pos hs, want_no fun y hy hys => hnd.1 (List.mem_map.2 ⟨y, hy, hys.trans hs.symm⟩)]
  ·exact want_at hnd.2 he hs
/-- **By colours and the vector each class finds what it has, and nothing else.** -/
theorem finds {w : Wd} {cs : List Int} (g : Good w) (h : ColsOk (graphW w) cs) {k : Nat} {c : List Et} (hk : w.classes[k]? = some c) {s : Int} :
  lookM (packM cs w.classes ([], [])).1 (packM cs w.classes ([], [])).2 cs k s = wantM c s (-1) := by
 have hc := List.mem_of_getElem? hk
 have P := pk_all (r := w.classes) (pk_nil (cs := cs)) (fun c hc => inj_of g h hc)
 rw [List.nil_append] at P
 generalize (packM cs w.classes ([], [])).1 = v at P ⊢
 generalize (packM cs w.classes ([], [])).2 = o at P ⊢
 have hkl := (List.getElem?_eq_some_iff.1 hk).1
 have hol : k < o.length := by rw [P.len]; exact hkl
 have ho := List.getElem?_eq_getElem hol
 have hog : o.getD k 0 = o[k] := get_D hol
 have hnn := P.nn _ (List.getElem_mem hol)
 generalize o[k] = x at ho hog hnn
 have hkt : ((k : Int)).toNat = k := by omega
 have hnd := (clsok_of g c hc).2
 by_cases he : ∃ e ∈ c, e.s = s
 ·obtain ⟨e, he, rfl⟩ := he
  rw [want_at hnd he rfl]
  have hh := (inj_of g h hc).2 e he
  unfold hasC colAt at hh
  have hv := P.hit k c x e hk ho he
  obtain ⟨hlt, hge⟩ := List.getElem?_eq_some_iff.1 hv
  unfold colAt at hlt hge
  unfold lookM placeM
  rw [hkt, hog, if_neg (by omega), if_pos (by omega)]
  dsimp only
  have e2 : (x + cs.getD e.s.toNat 0).toNat = x.toNat + (cs.getD e.s.toNat 0).toNat := by omega
  rw [e2, List.getD_eq_getElem?_getD, List.getElem?_eq_getElem hlt, hge]
  exact if_pos rfl
 ·rw [want_no fun e h1 h2 => he ⟨e, h1, h2⟩]
  unfold lookM placeM
  rw [hkt, hog]
  by_cases b1 : (k : Int) < 0 \/ (o.length : Int) ≤ k \/ s < 0 \/ (cs.length : Int) ≤ s \/ cs.getD s.toNat 0 < 0
  ·rw [if_pos b1]
  rw [if_neg b1]
  by_cases b2 : 0 ≤ x + cs.getD s.toNat 0 /\ x + cs.getD s.toNat 0 < v.length /\ x ≤ v.length
  ·rw [if_pos b2]
   dsimp only
   have hlt : (x + cs.getD s.toNat 0).toNat < v.length := by omega
   rw [List.getD_eq_getElem?_getD, List.getElem?_eq_getElem hlt]
   show (if (v[(x + cs.getD s.toNat 0).toNat]).s = s then _ else _) = _
   rw [if_neg]
   intro hs
   obtain ⟨k', c', x', d1, d2, d3, d4⟩ := P.inv _ _ (List.getElem?_eq_getElem hlt) (by omega)
   unfold colAt at d4
   rw [hs] at d4
   have hx' := P.nn x' (List.mem_of_getElem? d2)
   have hxx : x' = x := by omega
   subst hxx
   have hkk : k' = k := by
    exact nd_inj P.nd d2 ho
   subst hkk
   rw [hk] at d1
   cases d1
   exact he ⟨_, d3, hs⟩
  ·rw [if_neg b2]
end Go.Proofs.YtikppcfabnnhfaaDoor

/- Plain: what Grow returns. -/
namespace Go.Proofs.YtikppcfabnnhfaaDoor
open Go Go.Aw
set_option linter.unusedVariables false
theorem szM_mono {g h : List Int} (hh : ∀ m : Nat, m < 500 -> hasW g 0 m = true -> hasW h 0 m = true) : szM g 500 ≤ szM h 500 := by
 cases e : szM g 500 with
 | zero => omega
 | succ m =>
  have h1 := (szM_spec (g := g) (n := 500)).2 m e
  have h2 := szM_le g 500
  have := szM_lt (hh m (by omega) h1) (show m < 500 by omega)
  omega
theorem sn_nat {i : Nat} (h : i < 500) : selN (i : Int) := ⟨by omega, by omega⟩
theorem moreW_cls {w : Wd} {cl : List Et} {c : List Et} : c ∈ (moreW w cl).classes ↔ c ∈ w.classes \/ c = cl := by
 unfold moreW
 simp
structure GwInv (w : Wd) (cl : List Et) (l p0 : List Int) (p : List Et) (out chg : List Int) : Prop where
 len : out.length = p0.length
 bd : ∀ c ∈ out, -1 ≤ c /\ c < 500
 old : ∀ i : Nat, i < out.length -> hasW (graphW w) 0 i = true -> 0 ≤ out.getD i 0
 un : ∀ i : Nat, i < out.length -> hasW (graphW (moreW w cl)) 0 i = false -> out.getD i 0 = -1
 pos : ∀ e ∈ p, 0 ≤ out.getD e.s.toNat 0
 noP : ∀ a ∈ p, ∀ b ∈ p, a.s ≠ b.s -> out.getD a.s.toNat 0 ≠ out.getD b.s.toNat 0
 noW : ∀ i j : Nat, i < out.length -> j < out.length -> confG (graphW w) i j -> 0 ≤ out.getD i 0 -> out.getD i 0 ≠ out.getD j 0
 keep : ∀ i : Nat, i < out.length -> (∀ e ∈ p, e.s ≠ i) -> out.getD i 0 = p0.getD i 0
 chgs : ∀ c ∈ chg, (∃ e ∈ p, e.s = c) /\ c.toNat < l.length /\ 0 ≤ l.getD c.toNat 0 /\ out.getD c.toNat 0 ≠ l.getD c.toNat 0
 same : ∀ s : Nat, s < l.length -> 0 ≤ l.getD s 0 -> (s : Int) ∉ chg -> out.getD s 0 = l.getD s 0
theorem er_mem : ∀ {l : List Int} {k i : Nat} {x : Int}, i ≠ k -> l[i]? = some x -> x ∈ l.eraseIdx k
 | y :: l, 0, 0, x, h, _ => absurd rfl h
 | y :: l, 0, i + 1, x, _, h => by simpa using List.mem_of_getElem? (by simpa using h)
 | y :: l, k + 1, 0, x, _, h => by cases h; simp
 | y :: l, k + 1, i + 1, x, hne, h => by
  rw [List.eraseIdx_cons_succ]
  have h' : l[i]? = some x := by simpa using h
  exact List.mem_cons_of_mem _ (er_mem (k := k) (i := i) (fun e => hne (by rw [e])) h')
/-- Of 500 selectors one is not taken. -/
theorem least_lt {g out : List Int} (hg : GrOk g) {s : Int} (hs : selN s) (hsl : s.toNat < out.length) (hl : out.length ≤ 500) (hb : ∀ c ∈ out, -1 ≤ c /\ c < 500) : 0 ≤ leastL (takW g s out) 0 /\ leastL (takW g s out) 0 < 500 /\ ∀ i : Nat, i < out.length -> confG g s i -> out.getD i 0 ≠ leastL (takW g s out) 0 := by
 obtain ⟨⟨a, b⟩, c, d⟩ := least_ok (takW_r (g := g) (cs := out) (s := s)) takW_len
 have lt : leastL (takW g s out) 0 < 500 := by
  have := pigeon2 (n := (leastL (takW g s out) 0).toNat) (l := out.eraseIdx s.toNat) (fun j h0 h1 => by
   have hj := c j h0 (by omega)
   obtain ⟨i, hi, e, hc⟩ := (takenW ⟨h0, by omega⟩ (fun c hc => by have := hb c hc; omega)).1 hj
   have hne : i ≠ s.toNat := fun e => by
    have h2 := hs.1
    rw [show (i : Int) = s by omega] at hc
    exact hg.irr s hs hc
   rw [<- e]
   exact er_mem hne (List.getElem?_eq_getElem hi))
  rw [List.length_eraseIdx, if_pos hsl] at this
  omega
 refine ⟨a, lt, fun i hi hc he => ?_⟩
 have h1 := d (by omega)
 have := (takenW (g := g) (cs := out) (s := s) (m := leastL (takW g s out) 0) ⟨a, by omega⟩ (fun c hc => by have := hb c hc; omega)).2 ⟨i, hi, by rw [<- get_D hi]; exact he, hc⟩
 rw [h1] at this
 cases this
theorem set_bd {out : List Int} {i : Nat} {v : Int} (hb : ∀ c ∈ out, -1 ≤ c /\ c < 500) (h0 : 0 ≤ v) (h1 : v < 500) : ∀ c ∈ out.set i v, -1 ≤ c /\ c < 500 := fun c hc => by
 rcases List.mem_or_eq_of_mem_set hc with hc | rfl
 ·exact hb c hc
 ·omega
/-- **Grow comes to its end, and keeps what it promises.** -/
theorem gw_law {w : Wd} {cl : List Et} {l p0 : List Int} (g : Good w) (gx : Good (moreW w cl)) (hz : p0.length = szM (graphW (moreW w cl)) 500)
  (hp0 : ∀ i : Nat, p0.getD i 0 = if i < l.length then l.getD i 0 else if i < p0.length then -1 else 0) : ∀ {r p : List Et} {out chg : List Int}, cl = p ++ r -> GwInv w cl l p0 p out chg ->
  ∃ o' c', gwM (graphW (moreW w cl)) r p out chg = some (o', c') /\ GwInv w cl l p0 cl o' c'
 | [], p, out, chg, h, I => by
  rw [List.append_nil] at h
  subst h
  exact ⟨out, chg, rfl, I⟩
 | x :: r, p, out, chg, h, I => by
  have hk := clsok_of gx
  have hcl : cl ∈ (moreW w cl).classes := moreW_cls.2 (.inr rfl)
  have hgr := gr_ok hk
  have hz5 := szM_le (graphW (moreW w cl)) 500
  have sel : ∀ e ∈ cl, selN e.s /\ e.s.toNat < out.length := fun e he => by
   have h1 := (hk cl hcl).1 e he
   have kn : hasW (graphW (moreW w cl)) 0 e.s = true := (knownW h1 hk).2 ⟨cl, hcl, List.mem_map.2 ⟨e, he, rfl⟩⟩
   have h2 := h1.1
   have h3 := h1.2
   have := szM_lt (n := 500) (m := e.s.toNat) (by rw [show ((e.s.toNat : Nat) : Int) = e.s by omega]; exact kn) (by omega)
   exact ⟨h1, by rw [I.len, hz]; exact this⟩
  have conf : ∀ a ∈ cl, ∀ b ∈ cl, a.s ≠ b.s -> confG (graphW (moreW w cl)) a.s b.s := fun a ha b hb hab => (nearW (sel a ha).1 (sel b hb).1 hk).2 ⟨hab, cl, hcl, List.mem_map.2 ⟨a, ha, rfl⟩, List.mem_map.2 ⟨b, hb, rfl⟩⟩
  have up : ∀ i j : Nat, i < 500 -> j < 500 -> confG (graphW w) i j -> confG (graphW (moreW w cl)) i j := fun i j hi hj hc => by
   obtain ⟨h1, c, hc, h2, h3⟩ := (nearW (sn_nat hi) (sn_nat hj) (clsok_of g)).1 hc
   exact (nearW (sn_nat hi) (sn_nat hj) hk).2 ⟨h1, c, moreW_cls.2 (.inl hc), h2, h3⟩
  have hx := sel x (by rw [h]; simp)
  have hxp : ∀ e ∈ p, e.s ≠ x.s := fun e he => by
   have hnd := (hk cl hcl).2
   rw [h, List.map_append, List.nodup_append] at hnd
   exact hnd.2.2 e.s (List.mem_map.2 ⟨e, he, rfl⟩) x.s (by simp)
  have hpc : ∀ e ∈ p, e ∈ cl := fun e he => by rw [h]; simp [he]
  have hxc : x ∈ cl := by rw [h]; simp
  have hout : out.length ≤ 500 := by rw [I.len, hz]; exact hz5
  have e1 : cl = (p ++ [x]) ++ r := by rw [h]; simp
  rw [gwM]
  by_cases b : 0 ≤ colAt out x.s /\ (p.any fun e => colAt out e.s == colAt out x.s) = false
  ·rw [if_pos b]
   have hne : ∀ e ∈ p, out.getD e.s.toNat 0 ≠ out.getD x.s.toNat 0 := fun e he => by
    have := List.any_eq_false.1 b.2 e he
    simpa [colAt] using this
   refine gw_law g gx hz hp0 e1 { I with pos := fun e he => ?_, noP := fun a ha c hc hac => ?_, keep := fun i hi hk => I.keep i hi fun e he => hk e (by simp [he]), chgs := fun c hc => ?_ }
   ·rcases List.mem_append.1 he with he | he
    ·exact I.pos e he
    ·rw [List.mem_singleton.1 he]; exact b.1
   ·rcases List.mem_append.1 ha with ha | ha
    ·rcases List.mem_append.1 hc with hc | hc
     ·exact I.noP a ha c hc hac
     ·rw [List.mem_singleton.1 hc]; exact hne a ha
    ·rw [List.mem_singleton.1 ha] at hac ⊢
     rcases List.mem_append.1 hc with hc | hc
     ·exact (hne c hc).symm
     ·rw [List.mem_singleton.1 hc] at hac
      exact absurd rfl hac
   ·obtain ⟨⟨e, he, hs⟩, h2⟩ := I.chgs c hc
    exact ⟨⟨e, by simp [he], hs⟩, h2⟩
  ·rw [if_neg b]
   obtain ⟨v0, v1, v2⟩ := least_lt hgr hx.1 hx.2 hout I.bd
   generalize hv : leastL (takW (graphW (moreW w cl)) x.s out) 0 = v at v0 v1 v2 ⊢
   rw [if_neg (by omega)]
   have hx0 := hx.1.1
   have gt : ∀ i : Nat, (out.set x.s.toNat v).getD i 0 = if i = x.s.toNat then v else out.getD i 0 := fun i => set_get hx.2
   have nat : ∀ e ∈ p, e.s.toNat ≠ x.s.toNat := fun e he => by
    have h1 := (sel e (hpc e he)).1.1
    have := hxp e he
    omega
   have hpv : ∀ e ∈ p, out.getD e.s.toNat 0 ≠ v := fun e he => v2 _ (sel e (hpc e he)).2 (by
    have h1 := (sel e (hpc e he)).1.1
    rw [show ((e.s.toNat : Nat) : Int) = e.s by omega]
    exact conf x hxc e (hpc e he) (hxp e he).symm)
   have hxk : out.getD x.s.toNat 0 = p0.getD x.s.toNat 0 := I.keep _ hx.2 fun e he => by
    have := hxp e he
    omega
   refine gw_law g gx hz hp0 e1 ⟨by rw [List.length_set]; exact I.len, set_bd I.bd v0 v1, fun i hi hi2 => ?_, fun i hi hi2 => ?_, fun e he => ?_, fun a ha c hc hac => ?_, fun i j hi hj hc h0 => ?_, fun i hi hk => ?_, fun c hc => ?_, fun s hs h0 hsn => ?_⟩
   ·rw [List.length_set] at hi
    rw [gt]
    split
    ·exact v0
    ·exact I.old i hi hi2
   ·rw [List.length_set] at hi
    rw [gt, if_neg]
    ·exact I.un i hi hi2
    ·intro e
     subst e
     rw [show ((x.s.toNat : Nat) : Int) = x.s by omega, (knownW hx.1 hk).2 ⟨cl, hcl, List.mem_map.2 ⟨x, hxc, rfl⟩⟩] at hi2
     cases hi2
   ·rw [gt]
    rcases List.mem_append.1 he with he | he
    ·rw [if_neg (nat e he)]; exact I.pos e he
    ·rw [List.mem_singleton.1 he, if_pos rfl]; exact v0
   ·rw [gt, gt]
    rcases List.mem_append.1 ha with ha | ha
    ·rw [if_neg (nat a ha)]
     rcases List.mem_append.1 hc with hc | hc
     ·rw [if_neg (nat c hc)]; exact I.noP a ha c hc hac
     ·rw [List.mem_singleton.1 hc, if_pos rfl]; exact hpv a ha
    ·rw [List.mem_singleton.1 ha] at hac ⊢
     rw [if_pos rfl]
     rcases List.mem_append.1 hc with hc | hc
     ·rw [if_neg (nat c hc)]; exact (hpv c hc).symm
     ·rw [List.mem_singleton.1 hc] at hac
      exact absurd rfl hac
   ·rw [List.length_set] at hi hj
    rw [gt] at h0
    rw [gt, gt]
    by_cases e1 : i = x.s.toNat
    ·rw [if_pos e1]
     by_cases e2 : j = x.s.toNat
     ·rw [e1, e2] at hc
      exact absurd hc ((gr_ok (clsok_of g)).irr _ (sn_nat (by omega)))
     ·rw [if_neg e2]
      refine (v2 j hj ?_).symm
      have := up i j (by omega) (by omega) hc
      rwa [show ((i : Nat) : Int) = x.s by omega] at this
    ·rw [if_neg e1] at h0 ⊢
     by_cases e2 : j = x.s.toNat
     ·rw [if_pos e2]
      refine v2 i hi ?_
      have := hgr.sym _ _ (sn_nat (by omega)) (sn_nat (by omega)) (up i j (by omega) (by omega) hc)
      rwa [show ((j : Nat) : Int) = x.s by omega] at this
     ·rw [if_neg e2]
      exact I.noW i j hi hj hc h0
   ·rw [List.length_set] at hi
    rw [gt, if_neg]
    ·exact I.keep i hi fun e he => hk e (by simp [he])
    ·intro e
     exact hk x (by simp) (by omega)
   ·have old : ∀ c ∈ chg, (∃ e ∈ p ++ [x], e.s = c) /\ c.toNat < l.length /\ 0 ≤ l.getD c.toNat 0 /\ (out.set x.s.toNat v).getD c.toNat 0 ≠ l.getD c.toNat 0 := fun c hc => by
     obtain ⟨⟨e, he, hs⟩, h2, h3, h4⟩ := I.chgs c hc
     refine ⟨⟨e, by simp [he], hs⟩, h2, h3, ?_⟩
     rw [gt, if_neg (by rw [<- hs]; exact nat e he)]
     exact h4
    by_cases b3 : 0 ≤ colAt out x.s
    ·rw [if_pos b3] at hc
     rcases List.mem_append.1 hc with hc | hc
     ·exact old c hc
     ·rw [List.mem_singleton.1 hc]
      unfold colAt at b3
      have hq := hp0 x.s.toNat
      have hxl : x.s.toNat < l.length := by
       rcases Nat.lt_or_ge x.s.toNat l.length with h | h
       ·exact h
       ·rw [if_neg (by omega), if_pos (by rw [<- I.len]; exact hx.2), <- hxk] at hq
        omega
      rw [if_pos hxl, <- hxk] at hq
      refine ⟨⟨x, by simp, rfl⟩, hxl, by omega, ?_⟩
      rw [gt, if_pos rfl, <- hq]
      have any : (p.any fun e => colAt out e.s == colAt out x.s) = true := by
       cases hh : (p.any fun e => colAt out e.s == colAt out x.s) with
       | true => rfl
       | false => exact absurd ⟨b3, hh⟩ b
      obtain ⟨e, he, hec⟩ := List.any_eq_true.1 any
      have := hpv e he
      have hec := beq_iff_eq.1 hec
      unfold colAt at hec
      rw [hec] at this
      exact this.symm
    ·rw [if_neg b3] at hc
     exact old c hc
   ·rw [gt]
    split
    ·rename_i e
     subst e
     have hq := hp0 x.s.toNat
     rw [if_pos hs, <- hxk] at hq
     by_cases b3 : 0 ≤ colAt out x.s
     ·rw [if_pos b3] at hsn
      exact absurd (by simp; omega) hsn
     ·unfold colAt at b3
      omega
    ·refine I.same s hs h0 fun hm => hsn ?_
     split
     ·simp [hm]
     ·exact hm
/-- **What Grow returns are colours of the greater world.** -/
theorem gw_ok {w : Wd} {cl : List Et} {l p0 out chg : List Int} (g : Good w) (gx : Good (moreW w cl)) (hz : p0.length = szM (graphW (moreW w cl)) 500) (I : GwInv w cl l p0 cl out chg) : ColsOk (graphW (moreW w cl)) out := by
 have hk := clsok_of gx
 have hcl : cl ∈ (moreW w cl).classes := moreW_cls.2 (.inr rfl)
 have hz5 := szM_le (graphW (moreW w cl)) 500
 have hl := I.len
 refine ⟨by rw [hl, hz], I.bd, fun i hi hk2 => ?_, I.un, fun i j hi hj h0 he hc => ?_⟩
 ·obtain ⟨c, hc, hm⟩ := (knownW (sn_nat (by omega)) hk).1 hk2
  rcases moreW_cls.1 hc with hc | rfl
  ·exact I.old i hi ((knownW (sn_nat (by omega)) (clsok_of g)).2 ⟨c, hc, hm⟩)
  ·obtain ⟨e, he, hs⟩ := List.mem_map.1 hm
   have := I.pos e he
   rwa [show e.s.toNat = i by omega] at this
 ·obtain ⟨hij, c, hcc, h1, h2⟩ := (nearW (sn_nat (by omega)) (sn_nat (by omega)) hk).1 hc
  rcases moreW_cls.1 hcc with hcc | rfl
  ·exact I.noW i j hi hj ((nearW (sn_nat (by omega)) (sn_nat (by omega)) (clsok_of g)).2 ⟨hij, c, hcc, h1, h2⟩) h0 he
  ·obtain ⟨a, ha, hsa⟩ := List.mem_map.1 h1
   obtain ⟨b, hb, hsb⟩ := List.mem_map.1 h2
   have := I.noP a ha b hb (by omega)
   rw [show a.s.toNat = i by omega, show b.s.toNat = j by omega] at this
   exact this he
theorem ms0_get {w : Wd} {cl : List Et} {cs : List Int} {i : Nat} : (ms0 w cl cs).getD i 0 = if i < cs.length then cs.getD i 0 else if i < (ms0 w cl cs).length then -1 else 0 := by
 unfold ms0
 rw [List.getD_eq_getElem?_getD, List.getElem?_append]
 split
 ·rw [List.getD_eq_getElem?_getD]
 ·rename_i h
  rw [List.length_append, ms_len]
  split
  ·rename_i h2
   rw [<- List.getD_eq_getElem?_getD, ms_get (by omega)]
  ·rename_i h2
   rw [List.getElem?_eq_none (by rw [ms_len]; omega)]; rfl
theorem known_up {w : Wd} {cl : List Et} (g : Good w) (gx : Good (moreW w cl)) {i : Nat} (hi : i < 500) (h : hasW (graphW w) 0 i = true) : hasW (graphW (moreW w cl)) 0 i = true := by
 obtain ⟨c, hc, hm⟩ := (knownW (sn_nat hi) (clsok_of g)).1 h
 exact (knownW (sn_nat hi) (clsok_of gx)).2 ⟨c, moreW_cls.2 (.inl hc), hm⟩
theorem sz_up {w : Wd} {cl : List Et} (g : Good w) (gx : Good (moreW w cl)) : szM (graphW w) 500 ≤ szM (graphW (moreW w cl)) 500 := szM_mono fun _ hm h => known_up g gx hm h
theorem ms0_len {w : Wd} {cl : List Et} {cs : List Int} (g : Good w) (gx : Good (moreW w cl)) (h : ColsOk (graphW w) cs) : (ms0 w cl cs).length = szM (graphW (moreW w cl)) 500 := by
 have := sz_up g gx
 have := h.len
 unfold ms0
 rw [List.length_append, ms_len]; omega
theorem gw_start {w : Wd} {cl : List Et} {cs : List Int} (g : Good w) (gx : Good (moreW w cl)) (h : ColsOk (graphW w) cs) : GwInv w cl cs (ms0 w cl cs) [] (ms0 w cl cs) [] := by
 have hz5 := szM_le (graphW (moreW w cl)) 500
 have hl := ms0_len g gx h
 refine ⟨rfl, fun c hc => ?_, fun i hi hk => ?_, fun i hi hk => ?_, by simp, by simp, fun i j hi hj hc h0 => ?_, fun _ _ _ => rfl, by simp, fun s hs h0 _ => ?_⟩
 ·unfold ms0 at hc
  rcases List.mem_append.1 hc with hc | hc
  ·exact h.bd c hc
  ·rw [List.eq_of_mem_replicate hc]; omega
 ·have := szM_lt hk (show i < 500 by omega)
  rw [<- h.len] at this
  rw [ms0_get, if_pos this]
  exact h.kn i this hk
 ·rw [ms0_get]
  split
  ·rename_i hi2
   refine h.un i hi2 ?_
   cases hh : hasW (graphW w) 0 i with
   | false => rfl
   | true =>
    rw [known_up g gx (by omega) hh] at hk
    cases hk
  ·first | rfl | rw [if_pos hi]
 ·have kn : ∀ a b : Nat, a < 500 -> b < 500 -> confG (graphW w) a b -> a < cs.length := fun a b ha hb hc => by
   obtain ⟨_, c, hcc, h1, _⟩ := (nearW (sn_nat ha) (sn_nat hb) (clsok_of g)).1 hc
   have := szM_lt ((knownW (sn_nat ha) (clsok_of g)).2 ⟨c, hcc, h1⟩) ha
   rw [h.len]; exact this
  have hi2 := kn i j (by omega) (by omega) hc
  have hj2 := kn j i (by omega) (by omega) ((gr_ok (clsok_of g)).sym _ _ (sn_nat (by omega)) (sn_nat (by omega)) hc)
  rw [ms0_get, if_pos hi2] at h0 ⊢
  rw [ms0_get, if_pos hj2]
  exact fun he => h.no i j hi2 hj2 h0 he hc
 ·rw [ms0_get, if_pos hs]
/-- **Grow.** -/
theorem grow_law {w : Wd} {cl : List Et} {cs : List Int} (g : Good w) (gx : Good (moreW w cl)) (h : ColsOk (graphW w) cs) :
  ∃ o' c', gwM (graphW (moreW w cl)) cl [] (ms0 w cl cs) [] = some (o', c') /\ ColsOk (graphW (moreW w cl)) o' /\ GwInv w cl cs (ms0 w cl cs) cl o' c' := by
 obtain ⟨o', c', h1, h2⟩ := gw_law g gx (ms0_len g gx h) (fun i => ms0_get) (p := []) (r := cl) rfl (gw_start g gx h)
 exact ⟨o', c', h1, gw_ok g gx (ms0_len g gx h) h2, h2⟩
end Go.Proofs.YtikppcfabnnhfaaDoor

