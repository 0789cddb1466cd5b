/- The line's protocol: all acts; how long it takes; where it ends. -/
import Derived.Test.YtmjfccnmeiagbaaCNP2
namespace Go.Proofs.Ytmjfccnmeiagbaa
open Go Go.Aw
set_option linter.unusedSimpArgs false
set_option linter.unusedVariables false
theorem carry1_sw (l : Ln) : carry1 l = (swL (carry0 (swL l)).1, (carry0 (swL l)).2) := by
  obtain ⟨e0, e1, u0, u1, d0, d1, up⟩ := l
  cases u1 with
  | nil => rfl
  | cons f u =>
    show carry1 _ = (swL (carry0 ⟨e1, e0, f :: u, u0, d1, d0, up⟩).1, (carry0 ⟨e1, e0, f :: u, u0, d1, d0, up⟩).2)
    by_cases hc : (takeM e1 f).2.2.2 = 400
    · have a : carry0 ⟨e1, e0, f :: u, u0, d1, d0, up⟩ = _ := if_pos hc
      have b : carry1 ⟨e0, e1, u0, f :: u, d0, d1, up⟩ = _ := if_pos hc
      rw [a, b]; rfl
    · have a : carry0 ⟨e1, e0, f :: u, u0, d1, d0, up⟩ = _ := if_neg hc
      have b : carry1 ⟨e0, e1, u0, f :: u, d0, d1, up⟩ = _ := if_neg hc
      rw [a, b]; rfl
theorem send1_sw (m : Int) (l : Ln) (t : ByteArray) : sendL m l false t = (swL (sendL m (swL l) true t).1, (sendL m (swL l) true t).2) := rfl
def nx0 (c k n : Int) (t : ByteArray) (A : List ByteArray) : List ByteArray := if c = 0 ∧ k = 1 ∧ n.tmod 2 = 0 then A ++ [t] else A
def nx1 (c k n : Int) (t : ByteArray) (A : List ByteArray) : List ByteArray := if c = 0 ∧ k = 1 ∧ ¬ n.tmod 2 = 0 then A ++ [t] else A
theorem send_c {m : Int} {e : En} {t : ByteArray} : ¬ (sendM m e t).2.2 = 400 := by
  unfold sendM
  split
  · simp
  · split <;> simp
theorem pi_do {m : Int} {l : Ln} {A0 A1 : List ByteArray} {k n : Int} {t : ByteArray} (h : PI l A0 A1) :
    PI (doM m l k n t).1 (nx0 (doM m l k n t).2 k n t A0) (nx1 (doM m l k n t).2 k n t A1) ∧ ¬ (doM m l k n t).2 = 400 := by
  by_cases k1 : k = 1
  · subst k1
    by_cases hn : n.tmod 2 = 0
    · have e : doM m l 1 n t = sendL m l true t := by simp [doM, hn]
      rw [e]
      refine ⟨?_, by simp only [sendL, if_true]; exact send_c⟩
      have := pi_send0 (m := m) (t := t) h
      simpa [nx0, nx1, hn] using this
    · have e : doM m l 1 n t = sendL m l false t := by simp [doM, hn]
      rw [e, send1_sw]
      refine ⟨?_, by simp only [sendL, if_true]; exact send_c⟩
      have := (pi_send0 (m := m) (t := t) h.sw).sw
      simpa [nx0, nx1, hn] using this
  · have n0 : ∀ c, nx0 c k n t A0 = A0 := fun c => by simp [nx0, k1]
    have n1 : ∀ c, nx1 c k n t A1 = A1 := fun c => by simp [nx1, k1]
    rw [n0, n1]
    unfold doM
    rw [if_neg k1]
    split
    · split
      · obtain ⟨a, b⟩ := carry_step h
        exact ⟨pi_step h b, by rw [a]; simp⟩
      · obtain ⟨a, b⟩ := carry_step h.sw
        rw [carry1_sw]
        exact ⟨(pi_step h.sw b).sw, by simp only; rw [a]; simp⟩
    split
    · exact ⟨pi_cut h, by simp⟩
    split
    · exact ⟨pi_conn h, by simp⟩
    · exact ⟨h, by simp⟩
def wF (f : Fr) : Nat := if f.k = 1 then 50 else if f.k = 2 then 2 else 1
def wS : List Fr → Nat
  | [] => 0
  | f :: r => wF f + wS r
theorem wS_app : ∀ {a b : List Fr}, wS (a ++ b) = wS a + wS b
  | [], b => by simp [wS]
  | f :: a, b => by simp only [List.cons_append, wS, wS_app]; omega
theorem wS_tells : ∀ {l : List ByteArray} {c i : Int}, wS (tells c i l) = 2 * l.length
  | [], _, _ => rfl
  | x :: l, c, i => by simp only [tells, wS, wS_tells, List.length_cons]; simp [wF]; omega
def W (l : Ln) : Nat := wS l.u0 + wS l.u1
theorem step_w {l l' : Ln} {A0 A1 : List ByteArray} (h : PI l A0 A1) (hs : Step l A0 A1 l') (hm : l.e0.held.length ≤ 20) : (l.u0 = [] ∧ l' = l) ∨ W l' + 1 ≤ W l := by
  cases hs with
  | none h => exact .inl ⟨h, rfl⟩
  | hello u hu s =>
    right
    unfold W
    rw [hu]
    have c1 := h.x.conf; have c2 := h.x.conf0
    have := h.x.held
    rw [this, List.length_drop] at hm
    simp only [wS_app, wS, wS_tells, List.length_drop]
    simp only [wF, if_true]
    omega
  | data u a hu s s1 hx =>
    right
    unfold W
    rw [hu]
    simp only [wS_app, wS]
    simp [wF]
    omega
  | ack u n hu h0 h1 s s1 =>
    right
    unfold W
    rw [hu]
    simp only [wS_app, wS]
    simp [wF]
    omega
theorem wF_pos (f : Fr) : 1 ≤ wF f := by unfold wF; split; omega; split <;> omega
theorem settled {l : Ln} {A0 A1 : List ByteArray} (h : PI l A0 A1) (hu : l.up = true) (h0 : l.u0 = []) (h1 : l.u1 = []) :
    l.e0.st = 2 ∧ l.e1.st = 2 ∧ l.e0.held = [] ∧ l.e1.held = [] ∧ l.e0.sent = l.e0.conf ∧ l.e1.sent = l.e1.conf ∧ l.d1 = A0 ∧ l.d0 = A1 := by
  have one : ∀ {s r : En} {A d : List ByteArray}, Dir s r A d [] [] true → (s.st = 1 ∨ s.st = 2) → (r.st = 1 ∨ r.st = 2) → (s.st = 2 → r.st = 2 ∧ s.held = [] ∧ s.sent = s.conf ∧ d = A) := fun {s r A d} x _ hr s2 => by
    have r2 : r.st = 2 := by
      rcases hr with r1 | r2
      · obtain ⟨T, hT, _⟩ := x.wait rfl r1; cases hT
      · exact r2
    have hq := (x.ready rfl r2).2 s2
    have hd : A.drop r.has.toNat = [] := by
      have := hq.1
      cases hh : A.drop r.has.toNat with
      | nil => rfl
      | cons a b => rw [hh] at this; cases this
    have hc : s.conf = r.has := by
      rcases x.ack rfl s2 with h | h
      · exact h
      · cases h
    have c1 := x.hasl; have c2 := x.sent; have c3 := x.has0
    have hlen : A.length ≤ r.has.toNat := by
      have := congrArg List.length hd
      simp only [List.length_drop, List.length_nil] at this
      omega
    exact ⟨r2, by rw [x.held, hc, hd], by omega, by rw [x.del, List.take_of_length_le hlen]⟩
  have st : ∀ {s r : En} {A d : List ByteArray}, Dir s r A d [] [] true → (r.st = 1 ∨ r.st = 2) → r.st = 2 := fun {s r A d} x hr => by
    rcases hr with r1 | r2
    · obtain ⟨T, hT, _⟩ := x.wait rfl r1; cases hT
    · exact r2
  obtain ⟨x, y, up, dn⟩ := h
  rw [h0, h1, hu] at x y
  obtain ⟨u0, u1⟩ := up hu
  have s0 := st y u0
  have s1 := st x u1
  obtain ⟨_, a1, a2, a3⟩ := one x u0 u1 s0
  obtain ⟨_, b1, b2, b3⟩ := one y u1 u0 s1
  exact ⟨s0, s1, a1, b1, a2, b2, a3, b3⟩
end Go.Proofs.Ytmjfccnmeiagbaa
