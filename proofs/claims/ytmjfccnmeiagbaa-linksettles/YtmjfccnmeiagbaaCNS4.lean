/- LinkSettles: all rounds; the law. -/
import Derived.Test.YtmjfccnmeiagbaaCNS3
import Derived.Test.YtmjfccnmeiagbaaCNX6
import Derived.Test.YtmjfccnmeiagbaaCNT3
namespace Go.Proofs.Ytmjfccnmeiagbaa
open Go Go.Aw
set_option linter.unusedSimpArgs false
set_option linter.unusedVariables false
set_option maxRecDepth 100000
set_option maxHeartbeats 40000000
theorem step_up {l l' : Ln} {A0 A1 : List ByteArray} (hs : Step l A0 A1 l') : l'.up = l.up := by cases hs <;> rfl
theorem do0 {m : Int} {l : Ln} : doM m l 2 0 b0 = carry0 l := rfl
theorem do1 {m : Int} {l : Ln} : doM m l 2 1 b0 = carry1 l := rfl
theorem rounds {m : Int} {A0 A1 : List ByteArray} (hm : m ≤ 20) : ∀ (k i : Nat) (N : Int) (l : Ln) (p0 p1 : List Fr), W l ≤ k → i + k < 1000 → 0 ≤ N → N + 2 * k ≤ 4000 → LInv m N l → PI l A0 A1 → l.up = true → (p0.length : Int) ≤ N → (p1.length : Int) ≤ N →
    ∃ (j : Nat) (q0 q1 : List Fr) (l' : Ln), E.L 6 20 (uV i) (tO p0 p1 m l A0 A1) = some ((.exit 2, uV j, tO q0 q1 m l' A0 A1), True) ∧ PI l' A0 A1 ∧ l'.up = true ∧ l'.u0 = [] ∧ l'.u1 = [] := by
  intro k
  induction k with
  | zero =>
    intro i N l p0 p1 hW hi hN hN2 li hP hu h0 h1
    have e0 : l.u0 = [] := by
      cases hh : l.u0 with
      | nil => rfl
      | cons f u => unfold W at hW; rw [hh] at hW; have := wF_pos f; simp only [wS] at hW; omega
    have e1 : l.u1 = [] := by
      cases hh : l.u1 with
      | nil => rfl
      | cons f u => unfold W at hW; rw [hh] at hW; have := wF_pos f; simp only [wS] at hW; omega
    exact ⟨i, p0, p1, l, round_end (by omega) e0 e1, hP, hu, e0, e1⟩
  | succ k ih =>
    intro i N l p0 p1 hW hi hN hN2 li hP hu h0 h1
    by_cases hz : l.u0 = [] ∧ l.u1 = []
    · exact ⟨i, p0, p1, l, round_end (by omega) hz.1 hz.2, hP, hu, hz.1, hz.2⟩
    obtain ⟨q0, q1, hq0, hq1, d0, _⟩ := do_ev (k := 2) (n := 0) (t := b0) hN (by omega) li h0 h1
    have lj := linv_do (k := 2) (n := 0) (t := b0) hN li
    obtain ⟨c0, s0⟩ := carry_step hP
    rw [do0] at d0 lj
    rw [c0] at d0
    have hP1 := pi_step hP s0
    have hu1 := (step_up s0).trans hu
    have w0 := step_w hP s0 (by have := li.i0.hm; omega)
    generalize (carry0 l).1 = l1 at *
    obtain ⟨r0, r1, hr0, hr1, d1, _⟩ := do_ev (k := 2) (n := 1) (t := b0) (by omega) (by omega) lj hq0 hq1
    have lk := linv_do (k := 2) (n := 1) (t := b0) (by omega) lj
    obtain ⟨c1, s1⟩ := carry_step hP1.sw
    rw [do1, carry1_sw] at d1 lk
    simp only at d1 lk
    rw [c1] at d1
    have hP2 := (pi_step hP1.sw s1).sw
    have hu2 : (swL (carry0 (swL l1)).1).up = true := (step_up s1).trans hu1
    have w1 := step_w hP1.sw s1 (by have h := lj.i1.hm; show l1.e1.held.length ≤ 20; omega)
    have ew : W (swL (carry0 (swL l1)).1) = W (carry0 (swL l1)).1 := Nat.add_comm _ _
    have ew1 : W (swL l1) = W l1 := Nat.add_comm _ _
    have hx : (swL l1).u0 = l1.u1 := rfl
    have hy : (carry0 (swL l1)).1 = swL l1 → W (swL (carry0 (swL l1)).1) = W l1 := fun h => by rw [ew, h, ew1]
    have hdec : W (swL (carry0 (swL l1)).1) + 1 ≤ W l := by
      rcases w1 with ⟨z1, z2⟩ | z
      · rcases w0 with ⟨y1, y2⟩ | y
        · exact absurd ⟨y1, by rw [← y2]; rw [hx] at z1; exact z1⟩ hz
        · rw [hy z2]; exact y
      · rcases w0 with ⟨y1, y2⟩ | y
        · rw [ew]; rw [ew1] at z; rw [← y2]; exact z
        · rw [ew]; rw [ew1] at z; omega
    generalize swL (carry0 (swL l1)).1 = l2 at *
    have hn := inner6 (A0 := A0) (A1 := A1) (i := i) d0 d1
    obtain ⟨j, t0, t1, l', g1, g2, g3, g4, g5⟩ := ih (i + 1) (N + 1 + 1) l2 r0 r1 (by omega) (by omega) (by omega) (by omega) lk hP2 hu2 hr0 hr1
    refine ⟨j, t0, t1, l', ?_, g2, g3, g4, g5⟩
    rw [← g1]
    by_cases e0 : l.u0 = []
    · have e1 : ¬ l.u1 = [] := fun e1 => hz ⟨e0, e1⟩
      have := round_go1 (i := i) (by omega) e0 e1 (by have := li.a1; omega) hn
      simpa using this
    · have := round_go0 (i := i) (by omega) e0 (by have := li.a0; omega) hn
      simpa using this
end Go.Proofs.Ytmjfccnmeiagbaa
