/- Plain: sizes, colours, the least one. -/
import Derived.Test.YtikppcfabnnhfaaDoorCNS3
import Derived.Test.YtikppcfabnnhfaaDoorCNC25
import Derived.Test.YtikppcfabnnhfaaDoorCNC27
namespace Go.Proofs.YtikppcfabnnhfaaDoor
open Go Go.Aw
set_option linter.unusedSimpArgs false
set_option linter.unusedVariables false
/-- The size: 1 more than the greatest. -/
theorem szM_spec {g : List Int} : ∀ {n : Nat}, (∀ m : Nat, szM g n ≤ m → m < n → hasW g 0 m = false) ∧ (∀ m : Nat, szM g n = m + 1 → hasW g 0 m = true)
  | 0 => ⟨fun m h1 h2 => by omega, fun m h => by cases h⟩
  | n + 1 => by
    by_cases h : hasW g 0 n = true
    · have e : szM g (n + 1) = n + 1 := by rw [szM, if_pos h]
      rw [e]
      exact ⟨fun m h1 h2 => by omega, fun m hm => by cases hm; exact h⟩
    · have e : szM g (n + 1) = szM g n := by rw [szM, if_neg h]
      obtain ⟨a, b⟩ := szM_spec (g := g) (n := n)
      rw [e]
      refine ⟨fun m h1 h2 => ?_, b⟩
      by_cases hm : m = n
      · subst hm; simpa using h
      · exact a m h1 (by omega)
theorem szM_lt {g : List Int} {n m : Nat} (h : hasW g 0 m = true) (hm : m < n) : m < szM g n := by
  cases Nat.lt_or_ge m (szM g n) with
  | inl h => exact h
  | inr h1 =>
    have := (szM_spec (g := g) (n := n)).1 m h1 hm
    rw [h] at this
    cases this
theorem takM_r {g : List Int} {b : Nat} : ∀ {r : List Int} {n : Nat} {s : List Int}, allR s → allR (takM g b n r s)
  | [], _, _, h => h
  | c :: r, n, s, h => by
    rw [takM]
    refine takM_r (r := r) ?_
    split
    · exact addW_r h
    · exact h
theorem takW_r {g cs : List Int} {s : Int} : allR (takW g s cs) := takM_r (zs_r 8)
theorem has0_add {l : List Int} {n m : Int} (h : allR l) (hl : l.length = 8) (hn : 0 ≤ n ∧ n < 512) (hm : 0 ≤ m ∧ m < 512) : hasW (addW l 0 n) 0 m = (hasW l 0 m || decide (n = m)) := by
  have := has_add (a := 0) (b := 0) h (by omega) hn hm
  simpa using this
theorem tak_has {g : List Int} {b : Nat} {m : Int} (hm : 0 ≤ m ∧ m < 512) : ∀ {r : List Int} {n : Nat} {s : List Int}, allR s → s.length = 8 → (∀ c ∈ r, c < 512) → (hasW (takM g b n r s) 0 m = true ↔ hasW s 0 m = true ∨ ∃ i : Nat, ∃ h : i < r.length, r[i] = m ∧ hasW g b ((n + i : Nat) : Int) = true)
  | [], n, s, h, hl, _ => by simp [takM]
  | c :: r, n, s, h, hl, hc => by
    have hc0 := hc c (by simp)
    rw [takM, tak_has hm (by split; exact addW_r h; exact h) (by split; rw [addW_len]; exact hl; exact hl) (fun c h => hc c (by simp [h]))]
    have tail : (∃ i : Nat, ∃ h : i < r.length, r[i] = m ∧ hasW g b ((n + 1 + i : Nat) : Int) = true) ↔ ∃ i : Nat, ∃ h : i + 1 < (c :: r).length, (c :: r)[i + 1] = m ∧ hasW g b ((n + (i + 1) : Nat) : Int) = true := by
      constructor
      · rintro ⟨i, h, h1, h2⟩
        exact ⟨i, by simpa using h, h1, by rw [show n + (i + 1) = n + 1 + i by omega]; exact h2⟩
      · rintro ⟨i, h, h1, h2⟩
        exact ⟨i, by simpa using h, h1, by rw [show n + 1 + i = n + (i + 1) by omega]; exact h2⟩
    have all : (∃ i : Nat, ∃ h : i < (c :: r).length, (c :: r)[i] = m ∧ hasW g b ((n + i : Nat) : Int) = true) ↔ (c = m ∧ hasW g b (n : Int) = true) ∨ ∃ i : Nat, ∃ h : i + 1 < (c :: r).length, (c :: r)[i + 1] = m ∧ hasW g b ((n + (i + 1) : Nat) : Int) = true := by
      constructor
      · rintro ⟨i, h, h1, h2⟩
        cases i with
        | zero => exact .inl ⟨h1, h2⟩
        | succ i => exact .inr ⟨i, h, h1, h2⟩
      · rintro (⟨h1, h2⟩ | ⟨i, h, h1, h2⟩)
        · exact ⟨0, by simp, h1, h2⟩
        · exact ⟨i + 1, h, h1, h2⟩
    rw [tail, all, ← or_assoc]
    refine or_congr_left ?_
    by_cases hcc : 0 ≤ c ∧ hasW g b (n : Int) = true
    · rw [if_pos hcc, has0_add h hl ⟨hcc.1, hc0⟩ hm, Bool.or_eq_true, decide_eq_true_eq]
      exact or_congr_right ⟨fun e => ⟨e, hcc.2⟩, fun e => e.1⟩
    · rw [if_neg hcc]
      constructor
      · exact .inl
      · rintro (h | ⟨h1, h2⟩)
        · exact h
        · exact absurd ⟨by omega, h2⟩ hcc
/-- **Which colours are taken.** -/
theorem takenW {g cs : List Int} {s m : Int} (hm : 0 ≤ m ∧ m < 512) (hc : ∀ c ∈ cs, c < 512) : hasW (takW g s cs) 0 m = true ↔ ∃ i : Nat, ∃ h : i < cs.length, cs[i] = m ∧ hasW g (nb s) (i : Int) = true := by
  rw [takW, tak_has hm (zs_r 8) (zs_len 8) hc, has_zs hm.1]
  simp
end Go.Proofs.YtikppcfabnnhfaaDoor
