/- Plain: sets of numbers. -/
import Derived.Test.YtikppcfabnnhfaaDoorCNC10
namespace Go.Proofs.YtikppcfabnnhfaaDoor
open Go Go.Aw
set_option linter.unusedSimpArgs false
set_option linter.unusedVariables false
def u64r (x : Int) : Prop := 0 ≤ x ∧ x < 18446744073709551616
theorem ofNat_u64 {x : Nat} (h : x < 18446744073709551616) : (BitVec.ofInt IntKind.u64.bits (x : Int)).toNat = x := by
  rw [BitVec.toNat_ofInt]
  show ((x : Int) % ((2 ^ 64 : Nat) : Int)).toNat = x
  rw [Int.emod_eq_of_lt (by omega) (by omega)]
  rfl
theorem and_nat {x y : Nat} (hx : x < 18446744073709551616) (hy : y < 18446744073709551616) : bitsI .and .u64 x y = ((x &&& y : Nat) : Int) := by
  unfold bitsI
  simp only
  rw [BitVec.toNat_and, ofNat_u64 hx, ofNat_u64 hy]
  have h : x &&& y ≤ y := Nat.and_le_right
  show ((x &&& y : Nat) : Int) % 18446744073709551616 = _
  exact Int.emod_eq_of_lt (by omega) (by omega)
theorem or_nat {x y : Nat} (hx : x < 18446744073709551616) (hy : y < 18446744073709551616) : bitsI .or .u64 x y = ((x ||| y : Nat) : Int) := by
  unfold bitsI
  simp only
  rw [BitVec.toNat_or, ofNat_u64 hx, ofNat_u64 hy]
  have h : x ||| y < 2 ^ 64 := Nat.or_lt_two_pow hx hy
  show ((x ||| y : Nat) : Int) % 18446744073709551616 = _
  exact Int.emod_eq_of_lt (by omega) (by omega)
theorem bitW_nat {x : Nat} {j : Int} (hx : x < 18446744073709551616) (h0 : 0 ≤ j) (h1 : j < 64) : bitW x j = x.testBit j.toNat := by
  unfold bitW
  have e1 : min j.toNat IntKind.u64.bits = j.toNat := Nat.min_eq_left (show j.toNat ≤ 64 by omega)
  have e2 : ((x : Int)).fdiv (2 ^ j.toNat) = ((x / 2 ^ j.toNat : Nat) : Int) := by
    rw [Int.fdiv_eq_ediv_of_nonneg _ (Int.le_of_lt (Int.pow_pos (by omega)))]
    simp
  have e3 : x / 2 ^ j.toNat ≤ x := Nat.div_le_self _ _
  rw [e1, e2, show (1 : Int) = ((1 : Nat) : Int) from rfl, and_nat (by omega) (by omega), Nat.and_one_is_mod, Nat.testBit_eq_decide_div_mod_eq]
  rw [Bool.eq_iff_iff, beq_iff_eq, decide_eq_true_eq]
  omega
theorem orW_nat {x : Nat} {j : Int} (hx : x < 18446744073709551616) (h0 : 0 ≤ j) (h1 : j < 64) : orW x j = ((x ||| 2 ^ j.toNat : Nat) : Int) := by
  unfold orW
  have e1 : min j.toNat IntKind.u64.bits = j.toNat := Nat.min_eq_left (show j.toNat ≤ 64 by omega)
  have e4 : (2 : Nat) ^ j.toNat < 2 ^ 64 := Nat.pow_lt_pow_right (by omega) (by omega)
  have e2 : IntKind.u64.wrap (1 * 2 ^ j.toNat) = ((2 ^ j.toNat : Nat) : Int) := by
    show (1 * (2 : Int) ^ j.toNat) % 18446744073709551616 = _
    rw [Int.one_mul]
    have : ((2 : Int) ^ j.toNat) = ((2 ^ j.toNat : Nat) : Int) := by simp
    rw [this]
    generalize 2 ^ j.toNat = p at e4
    exact Int.emod_eq_of_lt (by omega) (by omega)
  rw [e1, e2, or_nat hx e4]
theorem u64nat {x : Int} (h : u64r x) : ∃ n : Nat, x = n ∧ n < 18446744073709551616 := ⟨x.toNat, by have := h.1; omega, by have := h.1; have := h.2; omega⟩
theorem orW_r {x j : Int} (h : u64r x) (h0 : 0 ≤ j) (h1 : j < 64) : u64r (orW x j) := by
  obtain ⟨n, rfl, hn⟩ := u64nat h
  rw [orW_nat hn h0 h1]
  have e4 : (2 : Nat) ^ j.toNat < 2 ^ 64 := Nat.pow_lt_pow_right (by omega) (by omega)
  have : n ||| 2 ^ j.toNat < 2 ^ 64 := Nat.or_lt_two_pow hn e4
  exact ⟨by omega, by omega⟩
theorem bit_or {x j i : Int} (h : u64r x) (h0 : 0 ≤ j) (h1 : j < 64) (h2 : 0 ≤ i) (h3 : i < 64) : bitW (orW x j) i = (bitW x i || decide (j = i)) := by
  obtain ⟨n, rfl, hn⟩ := u64nat h
  have hr := orW_r h h0 h1
  rw [orW_nat hn h0 h1] at hr ⊢
  rw [bitW_nat (by have := hr.2; omega) h2 h3, bitW_nat hn h2 h3, Nat.testBit_or, Nat.testBit_two_pow]
  congr 1
  by_cases e : j = i
  · subst e; simp
  · have : j.toNat ≠ i.toNat := by omega
    simp [this, e]
def allR (l : List Int) : Prop := ∀ x ∈ l, u64r x
theorem allR_getD {l : List Int} (h : allR l) (i : Nat) : u64r (l.getD i 0) := by
  rw [List.getD_eq_getElem?_getD]
  cases e : l[i]? with
  | none => exact ⟨by simp, by simp⟩
  | some x => exact h x (List.mem_of_getElem? e)
theorem addW_r {l : List Int} {c : Nat} {n : Int} (h : allR l) : allR (addW l c n) := by
  intro x hx
  unfold addW at hx
  rcases List.mem_or_eq_of_mem_set hx with hx | hx
  · exact h x hx
  · subst hx
    exact orW_r (allR_getD h _) (by omega) (by omega)
theorem zs_r (n : Nat) : allR (zs n) := fun x hx => by
  have := List.eq_of_mem_replicate hx
  subst this
  exact ⟨by omega, by omega⟩
/-- Add, then ask. Rows begin at places that are multiples of 8. -/
theorem has_add {l : List Int} {a b : Nat} {n m : Int} (h : allR l) (ha : 8 * a + 8 ≤ l.length) (hn : 0 ≤ n ∧ n < 512) (hm : 0 ≤ m ∧ m < 512) :
    hasW (addW l (8 * a) n) (8 * b) m = (hasW l (8 * b) m || decide (a = b ∧ n = m)) := by
  unfold hasW addW
  by_cases e : 8 * a + (n / 64).toNat = 8 * b + (m / 64).toNat
  · have e1 : a = b := by omega
    have e2 : n / 64 = m / 64 := by omega
    have e3 : (l.set (8 * a + (n / 64).toNat) (orW (l.getD (8 * a + (n / 64).toNat) 0) (n % 64))).getD (8 * b + (m / 64).toNat) 0 = orW (l.getD (8 * a + (n / 64).toNat) 0) (n % 64) := by
      rw [e, List.getD_eq_getElem?_getD, List.getElem?_set]
      have : 8 * b + (m / 64).toNat < l.length := by omega
      simp [this]
    rw [e3, bit_or (allR_getD h _) (by omega) (by omega) (by omega) (by omega), e]
    congr 1
    rw [Bool.eq_iff_iff, decide_eq_true_eq, decide_eq_true_eq]
    omega
  · have e3 : (l.set (8 * a + (n / 64).toNat) (orW (l.getD (8 * a + (n / 64).toNat) 0) (n % 64))).getD (8 * b + (m / 64).toNat) 0 = l.getD (8 * b + (m / 64).toNat) 0 := by
      rw [List.getD_eq_getElem?_getD, List.getElem?_set, if_neg e, ← List.getD_eq_getElem?_getD]
    rw [e3]
    have : ¬ (a = b ∧ n = m) := by
      rintro ⟨rfl, rfl⟩
      exact e rfl
    simp [this]
theorem has_zs {n b : Nat} {m : Int} (hm : 0 ≤ m) : hasW (zs n) b m = false := by
  unfold hasW
  have : (zs n).getD (b + (m / 64).toNat) 0 = 0 := by
    rw [List.getD_eq_getElem?_getD, zs, List.getElem?_replicate]
    split <;> rfl
  rw [this, show (0 : Int) = ((0 : Nat) : Int) from rfl, bitW_nat (by omega) (by omega) (by omega)]
  simp
end Go.Proofs.YtikppcfabnnhfaaDoor
