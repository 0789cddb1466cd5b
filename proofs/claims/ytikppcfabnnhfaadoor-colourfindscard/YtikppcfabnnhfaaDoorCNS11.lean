/- Plain: the least number that a set does not have. -/
import Derived.Test.YtikppcfabnnhfaaDoorCNS4
import Derived.Test.YtikppcfabnnhfaaDoorCNC14
namespace Go.Proofs.YtikppcfabnnhfaaDoor
open Go Go.Aw
set_option linter.unusedVariables false
set_option maxRecDepth 100000
theorem odd_part : ∀ (n x : Nat), x ≤ n → x ≠ 0 → ∃ k m, x = 2 ^ k * (2 * m + 1)
  | 0, x, h, h0 => absurd (Nat.le_zero.1 h) h0
  | n + 1, x, h, h0 => by
    by_cases hx : x % 2 = 1
    · exact ⟨0, x / 2, by rw [Nat.pow_zero, Nat.one_mul]; omega⟩
    · obtain ⟨k, m, e⟩ := odd_part n (x / 2) (by omega) (by omega)
      refine ⟨k + 1, m, ?_⟩
      rw [Nat.pow_succ, Nat.mul_right_comm, ← e]
      omega
theorem tb_pow {k m j : Nat} (h : j < k) : (2 ^ k * m).testBit j = false := by
  have := Nat.testBit_two_pow_mul_add m (Nat.two_pow_pos k) j
  rw [Nat.add_zero, if_pos h] at this
  rw [this]; simp
theorem tb_at {k m j : Nat} : (2 ^ k * m).testBit (k + j) = m.testBit j := by
  have := Nat.testBit_two_pow_mul_add m (Nat.two_pow_pos k) (k + j)
  rw [Nat.add_zero, if_neg (by omega), show k + j - k = j by omega] at this
  exact this
theorem neg_and {x : Nat} (hx : x < 18446744073709551616) (h0 : x ≠ 0) : ∃ k, k < 64 ∧ x &&& (18446744073709551616 - x) = 2 ^ k ∧ x.testBit k = true ∧ ∀ j, j < k → x.testBit j = false := by
  obtain ⟨k, m, e⟩ := odd_part x x (Nat.le_refl _) h0
  have hk : k < 64 := by
    rcases Nat.lt_or_ge k 64 with h | h
    · exact h
    · have h1 : 2 ^ 64 ≤ 2 ^ k := Nat.pow_le_pow_right (by omega) h
      have h2 : 2 ^ k ≤ x := by rw [e]; exact Nat.le_mul_of_pos_right _ (by omega)
      omega
  refine ⟨k, hk, ?_, ?_, ?_⟩
  · have hp : (18446744073709551616 : Nat) = 2 ^ k * (2 * 2 ^ (63 - k)) := by
      rw [← Nat.pow_succ', ← Nat.pow_add, show k + (63 - k).succ = 64 by omega]
    have hm : m < 2 ^ (63 - k) := by
      have h1 : 2 ^ k * (2 * m + 1) < 2 ^ k * (2 * 2 ^ (63 - k)) := by rw [← e, ← hp]; exact hx
      have := Nat.lt_of_mul_lt_mul_left h1
      omega
    have hs : 18446744073709551616 - x = 2 ^ k * (2 * (2 ^ (63 - k) - (m + 1)) + 1) := by
      rw [hp, e, ← Nat.mul_sub]
      congr 1
      omega
    rw [hs]
    apply Nat.eq_of_testBit_eq
    intro i
    rw [Nat.testBit_and, Nat.testBit_two_pow]
    rcases Nat.lt_or_ge i k with h | h
    · rw [tb_pow h, show decide (k = i) = false from decide_eq_false (by omega), Bool.and_false]
    · obtain ⟨j, rfl⟩ : ∃ j, i = k + j := ⟨i - k, by omega⟩
      rw [e, tb_at, tb_at]
      cases j with
      | zero => simp [Nat.testBit_zero]
      | succ j =>
        rw [Nat.testBit_succ, Nat.testBit_succ, show (2 * m + 1) / 2 = m by omega, show (2 * (2 ^ (63 - k) - (m + 1)) + 1) / 2 = 2 ^ (63 - k) - (m + 1) by omega, Nat.testBit_two_pow_sub_succ hm, show decide (k = k + (j + 1)) = false from decide_eq_false (by omega)]
        cases m.testBit j <;> simp
  · have := tb_at (k := k) (m := 2 * m + 1) (j := 0)
    rw [← e] at this
    rw [show x.testBit k = x.testBit (k + 0) from rfl, this]; simp [Nat.testBit_zero]
  · intro j hj
    rw [e]
    exact tb_pow hj
theorem tab_ok : ∀ k, k < 64 → tab.getD ((2 ^ k * 285870213051353865 % 18446744073709551616) / 288230376151711744) 0 = (k : Nat) := by decide +kernel
theorem tzW_nat {x : Nat} (hx : x < 18446744073709551616) (h0 : x ≠ 0) : ∃ k : Nat, k < 64 ∧ tzW x = k ∧ x.testBit k = true ∧ ∀ j, j < k → x.testBit j = false := by
  obtain ⟨k, hk, e, b1, b2⟩ := neg_and hx h0
  refine ⟨k, hk, ?_, b1, b2⟩
  unfold tzW tzI
  rw [if_neg (by omega)]
  have w1 : IntKind.u64.wrap (0 - (x : Int)) = ((18446744073709551616 - x : Nat) : Int) := by
    show (0 - (x : Int)) % 18446744073709551616 = _
    omega
  rw [w1, and_nat hx (by omega), e]
  have w2 : IntKind.u64.wrap (((2 ^ k : Nat) : Int) * 285870213051353865) = ((2 ^ k * 285870213051353865 % 18446744073709551616 : Nat) : Int) := by
    show (((2 ^ k : Nat) : Int) * 285870213051353865) % 18446744073709551616 = _
    rw [Int.natCast_emod, Int.natCast_mul]
    rfl
  rw [w2, show min 58 IntKind.u64.bits = 58 from rfl, Int.fdiv_eq_ediv_of_nonneg _ (Int.le_of_lt (Int.pow_pos (by omega)))]
  have := tab_ok k hk
  rw [show ((2 : Int) ^ 58) = ((288230376151711744 : Nat) : Int) by decide, ← Int.natCast_ediv, Int.toNat_natCast]
  exact this
theorem xor_nat {x y : Nat} (hx : x < 18446744073709551616) (hy : y < 18446744073709551616) : bitsI .xor .u64 x y = ((x ^^^ y : Nat) : Int) := by
  unfold bitsI
  simp only
  rw [BitVec.toNat_xor, ofNat_u64 hx, ofNat_u64 hy]
  have h : x ^^^ y < 2 ^ 64 := Nat.xor_lt_two_pow hx hy
  show ((x ^^^ y : Nat) : Int) % 18446744073709551616 = _
  exact Int.emod_eq_of_lt (by omega) (by omega)
theorem notW_nat {x : Nat} (hx : x < 18446744073709551616) : ∃ y : Nat, notW x = y ∧ y < 18446744073709551616 ∧ ∀ j, j < 64 → y.testBit j = !x.testBit j := by
  refine ⟨18446744073709551615 ^^^ x, ?_, ?_, fun j hj => ?_⟩
  · unfold notW
    rw [show (if IntKind.u64.signed = true then (-1 : Int) else IntKind.u64.max) = ((18446744073709551615 : Nat) : Int) from rfl]
    exact xor_nat (by omega) hx
  · exact Nat.xor_lt_two_pow (n := 64) (by omega) hx
  · rw [Nat.testBit_xor, show (18446744073709551615 : Nat) = 2 ^ 64 - 1 from rfl, Nat.testBit_two_pow_sub_one, decide_eq_true hj]
    cases x.testBit j <;> rfl
theorem all_ones {x : Nat} (hx : x < 18446744073709551616) (h : x ≠ 18446744073709551615) : ∃ j, j < 64 ∧ x.testBit j = false := by
  rcases Classical.em (∃ j, j < 64 ∧ x.testBit j = false) with h1 | h1
  · exact h1
  · refine absurd ?_ h
    have : x = 2 ^ 64 - 1 := by
      apply Nat.eq_of_testBit_eq
      intro i
      rw [Nat.testBit_two_pow_sub_one]
      by_cases hi : i < 64
      · rw [decide_eq_true hi]
        cases hb : x.testBit i with
        | true => rfl
        | false => exact absurd ⟨i, hi, hb⟩ h1
      · rw [decide_eq_false hi]
        exact Nat.testBit_lt_two_pow (Nat.lt_of_lt_of_le hx (Nat.pow_le_pow_right (n := 2) (by omega) (by omega : 64 ≤ i)))
    exact this
/-- **The least number that is not in the set.** -/
theorem least_set {T : List Int} (hT : allR T) (h8 : T.length = 8) : ∀ {r m : List Int}, T = m ++ r → (64 * (m.length : Int) ≤ leastL r m.length ∧ leastL r m.length ≤ 512) ∧ (∀ j : Int, 64 * (m.length : Int) ≤ j → j < leastL r m.length → hasW T 0 j = true) ∧ (leastL r m.length < 512 → hasW T 0 (leastL r m.length) = false)
  | [], m, h => by
    rw [List.append_nil] at h
    subst h
    simp only [leastL]
    exact ⟨⟨by omega, by omega⟩, fun j h1 h2 => by omega, fun h => by omega⟩
  | w :: r, m, h => by
    have hl : m.length + (r.length + 1) = 8 := by rw [← h8, h]; simp
    have hget : T.getD m.length 0 = w := by rw [h]; simp [List.getD_eq_getElem?_getD]
    obtain ⟨x, hx, hb⟩ := u64nat (hT w (by rw [h]; simp))
    have hbit : ∀ j : Int, 64 * (m.length : Int) ≤ j → j < 64 * (m.length : Int) + 64 → hasW T 0 j = x.testBit (j - 64 * m.length).toNat := fun j h1 h2 => by
      unfold hasW
      rw [show (0 + (j / 64).toNat) = m.length by omega, hget, hx, bitW_nat hb (by omega) (by omega), show j % 64 = j - 64 * m.length by omega]
    rw [leastL]
    by_cases hw : w = 18446744073709551615
    · rw [if_pos hw]
      have ih := least_set hT h8 (r := r) (m := m ++ [w]) (by rw [h]; simp)
      simp only [List.length_append, List.length_cons, List.length_nil, Nat.zero_add, Int.natCast_add, Int.cast_ofNat_Int] at ih
      obtain ⟨⟨i1, i2⟩, i3, i4⟩ := ih
      refine ⟨⟨by omega, i2⟩, fun j h1 h2 => ?_, i4⟩
      rcases Int.lt_or_le j (64 * (m.length : Int) + 64) with h3 | h3
      · rw [hbit j h1 h3, show x = 2 ^ 64 - 1 by omega, Nat.testBit_two_pow_sub_one]
        exact decide_eq_true (by omega)
      · exact i3 j (by omega) h2
    · rw [if_neg hw]
      obtain ⟨y, hy, hyb, hyt⟩ := notW_nat hb
      have hne : x ≠ 18446744073709551615 := fun e => hw (by rw [hx, e]; rfl)
      obtain ⟨j0, hj0, hj1⟩ := all_ones hb hne
      have hy0 : y ≠ 0 := fun e => by
        have := hyt j0 hj0
        rw [e, hj1] at this
        simp at this
      obtain ⟨k, hk, hkt, k1, k2⟩ := tzW_nat hyb hy0
      rw [hx, hy, hkt]
      refine ⟨⟨by omega, by omega⟩, fun j h1 h2 => ?_, fun _ => ?_⟩
      · rw [hbit j h1 (by omega)]
        have := k2 (j - 64 * m.length).toNat (by omega)
        rw [hyt _ (by omega)] at this
        simpa using this
      · rw [hbit _ (by omega) (by omega), show ((64 * (m.length : Int) + k) - 64 * m.length).toNat = k by omega]
        rw [hyt k hk] at k1
        simpa using k1
theorem least_ok {T : List Int} (hT : allR T) (h8 : T.length = 8) : (0 ≤ leastL T 0 ∧ leastL T 0 ≤ 512) ∧ (∀ j : Int, 0 ≤ j → j < leastL T 0 → hasW T 0 j = true) ∧ (leastL T 0 < 512 → hasW T 0 (leastL T 0) = false) := by
  have := least_set hT h8 (r := T) (m := []) rfl
  simpa using this
end Go.Proofs.YtikppcfabnnhfaaDoor
