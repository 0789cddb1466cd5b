/- The reference's Take is the program's. -/
import Derived.Test.YtmjfccnmeiagbaaCNV2
import Derived.Test.YtmjfccnmeiagbaaCNU5
namespace Go.Proofs.Ytmjfccnmeiagbaa
open Go Go.Aw
theorem formed_right {k n : Int} {t : ByteArray} (h : ¬ (k = 2 ∧ n = 0)) : rightM ⟨k, n, t⟩ = formedM ⟨k, n, t⟩ := by
  unfold rightM formedM
  rw [Bool.eq_iff_iff]
  have hb : t.toList = [] → t.size = 0 := fun e => by
    have := congrArg List.length e
    simpa [ByteArray.toList_eq] using this
  simp only [Bool.and_eq_true, Bool.or_eq_true, decide_eq_true_eq, beq_iff_eq, bne_iff_ne, ne_eq]
  constructor
  · rintro ⟨⟨⟨⟨a, b⟩, c⟩, d⟩, e | e⟩
    · exact ⟨⟨⟨a, b⟩, c⟩, .inl ⟨e.1, d⟩⟩
    · exact ⟨⟨⟨a, b⟩, c⟩, .inr e.2⟩
  · rintro ⟨⟨⟨a, b⟩, c⟩, e | e⟩
    · exact ⟨⟨⟨⟨a, b⟩, c⟩, e.2⟩, .inl ⟨e.1, by omega⟩⟩
    · have := hb e
      refine ⟨⟨⟨⟨a, b⟩, c⟩, by omega⟩, ?_⟩
      by_cases hk : k = 2
      · exact .inl ⟨hk, by omega⟩
      · exact .inr ⟨hk, e⟩
theorem right_not {t : ByteArray} : rightM ⟨2, 0, t⟩ = false := by simp [rightM]
theorem rtake_ev {m N : Int} {e : En} {f : Fr} (hi : Inv m N e) (hN : N ≤ 1000000) : E.F 19 [enR m e, .agg [.int .i64 f.k, .int .i64 f.n, .str f.t]] [] = rtakeR m (takeM e f) := by
  obtain ⟨m1, m2, c0, c1, c2, h0, h1, hl, hm, s0, s2⟩ := hi
  obtain ⟨k, n, t⟩ := f
  unfold takeM
  simp only
  by_cases g : e.st = 0
  · rw [if_pos g]; exact rtk_down g
  rw [if_neg g]
  by_cases z : k = 2 ∧ n = 0
  · obtain ⟨rfl, rfl⟩ := z
    have hb := rtk_bad (m := m) (e := e) (k := 2) (n := 0) (t := t) g right_not
    rw [if_neg (show ¬ ((2 : Int) = 1 ∧ e.st = 1 ∧ e.conf ≤ 0 ∧ (0 : Int) ≤ e.sent) by omega), if_neg (show ¬ ((2 : Int) = 2 ∧ e.st = 2 ∧ (0 : Int) = e.has + 1) by omega), if_neg (show ¬ ((2 : Int) = 2 ∧ e.st = 2 ∧ (1 : Int) ≤ 0 ∧ (0 : Int) ≤ e.has) by omega), if_neg (show ¬ ((2 : Int) = 3 ∧ e.st = 2 ∧ (0 : Int) ≤ e.sent) by omega)]
    split <;> exact hb
  have hr := formed_right (t := t) z
  by_cases g1 : formedM ⟨k, n, t⟩ = false
  · rw [if_pos g1]; exact rtk_bad g (by rw [hr]; exact g1)
  rw [if_neg g1]
  have g1' : rightM ⟨k, n, t⟩ = true := by rw [hr]; simpa using g1
  by_cases s1 : e.st = 1
  · by_cases q1 : k = 1 ∧ e.st = 1 ∧ e.conf ≤ n ∧ n ≤ e.sent
    · rw [if_pos q1]
      obtain ⟨rfl, a, b, c⟩ := q1
      exact rtk_hello a g1' c b c0 (by omega) hl
    rw [if_neg q1, if_neg (by omega), if_neg (by omega), if_neg (by omega)]
    exact rtk_gap1 s1 g1' (by omega)
  have s2' : e.st = 2 := by omega
  rw [if_neg (by omega)]
  by_cases q2 : k = 2 ∧ e.st = 2 ∧ n = e.has + 1
  · rw [if_pos q2]
    obtain ⟨rfl, a, rfl⟩ := q2
    exact rtk_data a g1' h0 (by omega)
  rw [if_neg q2]
  by_cases q3 : k = 2 ∧ e.st = 2 ∧ 1 ≤ n ∧ n ≤ e.has
  · rw [if_pos q3]
    obtain ⟨rfl, a, b, c⟩ := q3
    exact rtk_old a g1' b c (by omega)
  rw [if_neg q3]
  by_cases q4 : k = 3 ∧ e.st = 2 ∧ n ≤ e.sent
  · rw [if_pos q4]
    obtain ⟨rfl, a, b⟩ := q4
    by_cases q5 : e.conf < n
    · rw [if_pos q5]; exact rtk_ack1 a g1' b q5 c0 (by omega) hl
    · rw [if_neg q5]; exact rtk_ack0 a g1' b q5
  rw [if_neg q4]
  exact rtk_gap2 s2' g1' (by omega) (by omega) h0 (by omega)
end Go.Proofs.Ytmjfccnmeiagbaa
