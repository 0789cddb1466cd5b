/- The line's protocol, in plain words: what always holds of a line. -/
import Derived.Test.YtmjfccnmeiagbaaCNX8
namespace Go.Proofs.Ytmjfccnmeiagbaa
open Go Go.Aw
set_option linter.unusedSimpArgs false
set_option linter.unusedVariables false
theorem tells_shift {l : List ByteArray} : ∀ {c i : Int}, tells c (i + 1) l = tells (c + 1) i l := by
  induction l with
  | nil => intros; rfl
  | cons x l ih =>
    intro c i
    simp only [tells]
    rw [ih, show c + 1 + (i + 1) = c + 1 + 1 + i by omega]
theorem tells_app {l : List ByteArray} {t : ByteArray} : ∀ {c i : Int}, tells c i (l ++ [t]) = tells c i l ++ [⟨2, c + 1 + i + l.length, t⟩] := by
  induction l with
  | nil => intro c i; simp [tells]
  | cons x l ih =>
    intro c i
    simp only [List.cons_append, tells, ih, List.length_cons]
    rw [show c + 1 + (i + 1) + (l.length : Int) = c + 1 + i + ((l.length + 1 : Nat) : Int) by omega]
theorem tells_k {l : List ByteArray} : ∀ {c i : Int}, ∀ f ∈ tells c i l, f.k = 2 := by
  induction l with
  | nil => intro c i f h; cases h
  | cons x l ih =>
    intro c i f h
    rcases List.mem_cons.1 h with rfl | h
    · rfl
    · exact ih f h
def isD (f : Fr) : Bool := decide (f.k = 2)
theorem tells_filter {l : List ByteArray} {c i : Int} : (tells c i l).filter isD = tells c i l := List.filter_eq_self.2 fun f h => by simp [isD, tells_k f h]
def Qu (s r : En) (A : List ByteArray) (T : List Fr) : Prop :=
  (s.st = 1 → T = []) ∧ (s.st = 2 → T.filter isD = tells r.has 0 (A.drop r.has.toNat) ∧ ∀ f ∈ T, f.k = 2 ∨ (f.k = 3 ∧ f.t = b0 ∧ 0 ≤ f.n ∧ f.n ≤ s.has))
structure Dir (s r : En) (A d : List ByteArray) (ur us : List Fr) (up : Bool) : Prop where
  sent : s.sent = A.length
  has0 : 0 ≤ r.has
  hasl : r.has ≤ s.sent
  del : d = A.take r.has.toNat
  conf0 : 0 ≤ s.conf
  conf : s.conf ≤ r.has
  held : s.held = A.drop s.conf.toNat
  small : ∀ t ∈ A, t.size ≤ 4000
  wait : up = true → r.st = 1 → ∃ T, ur = ⟨1, s.has, b0⟩ :: T ∧ Qu s r A T
  ready : up = true → r.st = 2 → Qu s r A ur
  ack : up = true → s.st = 2 → s.conf = r.has ∨ ⟨3, r.has, b0⟩ ∈ us
structure PI (l : Ln) (A0 A1 : List ByteArray) : Prop where
  x : Dir l.e0 l.e1 A0 l.d1 l.u1 l.u0 l.up
  y : Dir l.e1 l.e0 A1 l.d0 l.u0 l.u1 l.up
  up : l.up = true → (l.e0.st = 1 ∨ l.e0.st = 2) ∧ (l.e1.st = 1 ∨ l.e1.st = 2)
  dn : l.up = false → l.e0.st = 0 ∧ l.e1.st = 0 ∧ l.u0 = [] ∧ l.u1 = []
def swL (l : Ln) : Ln := ⟨l.e1, l.e0, l.u1, l.u0, l.d1, l.d0, l.up⟩
theorem PI.sw {l : Ln} {A0 A1 : List ByteArray} (h : PI l A0 A1) : PI (swL l) A1 A0 :=
  ⟨h.y, h.x, fun u => ⟨(h.up u).2, (h.up u).1⟩, fun u => ⟨(h.dn u).2.1, (h.dn u).1, (h.dn u).2.2.2, (h.dn u).2.2.1⟩⟩
theorem pi_new : PI ln0 [] [] := by
  refine ⟨⟨rfl, by simp [ln0, en0], by simp [ln0, en0], by simp [ln0, en0], by simp [ln0, en0], by simp [ln0, en0], by simp [ln0, en0], by simp, (fun h => by cases h), (fun h => by cases h), (fun h => by cases h)⟩,
    ⟨rfl, by simp [ln0, en0], by simp [ln0, en0], by simp [ln0, en0], by simp [ln0, en0], by simp [ln0, en0], by simp [ln0, en0], by simp, (fun h => by cases h), (fun h => by cases h), (fun h => by cases h)⟩, (fun h => by cases h), fun _ => ⟨rfl, rfl, rfl, rfl⟩⟩
theorem pi_cut {l : Ln} {A0 A1 : List ByteArray} (h : PI l A0 A1) : PI (cutM l) A0 A1 := by
  obtain ⟨x, y, _, _⟩ := h
  exact ⟨⟨x.sent, x.has0, x.hasl, x.del, x.conf0, x.conf, x.held, x.small, (fun h => by cases h), (fun h => by cases h), (fun h => by cases h)⟩,
    ⟨y.sent, y.has0, y.hasl, y.del, y.conf0, y.conf, y.held, y.small, (fun h => by cases h), (fun h => by cases h), (fun h => by cases h)⟩, (fun h => by cases h), fun _ => ⟨rfl, rfl, rfl, rfl⟩⟩
theorem pi_conn {l : Ln} {A0 A1 : List ByteArray} (h : PI l A0 A1) : PI (connL l) A0 A1 := by
  unfold connL
  split
  · exact h
  · rename_i hu
    have hu : l.up = false := by simpa using hu
    obtain ⟨x, y, _, dn⟩ := h
    obtain ⟨s0, s1, q0, q1⟩ := dn hu
    have c0 : connM l.e0 = ({ l.e0 with st := 1 }, [⟨1, l.e0.has, b0⟩], 0) := by simp [connM, s0]
    have c1 : connM l.e1 = ({ l.e1 with st := 1 }, [⟨1, l.e1.has, b0⟩], 0) := by simp [connM, s1]
    rw [c0, c1, q0, q1]
    exact ⟨⟨x.sent, x.has0, x.hasl, x.del, x.conf0, x.conf, x.held, x.small, fun _ _ => ⟨[], rfl, fun _ => rfl, (fun h => by cases h)⟩, (fun _ h => by cases h), (fun _ h => by cases h)⟩,
      ⟨y.sent, y.has0, y.hasl, y.del, y.conf0, y.conf, y.held, y.small, fun _ _ => ⟨[], rfl, fun _ => rfl, (fun h => by cases h)⟩, (fun _ h => by cases h), (fun _ h => by cases h)⟩, fun _ => ⟨.inl rfl, .inl rfl⟩, (fun h => by cases h)⟩
theorem qu_send {s r : En} {A : List ByteArray} {T : List Fr} {t : ByteArray} (hs : s.sent = A.length) (h0 : 0 ≤ r.has) (hl : r.has ≤ s.sent) (h : Qu s r A T) :
    Qu { s with sent := s.sent + 1, held := s.held ++ [t] } r (A ++ [t]) (T ++ if s.st = 2 then [⟨2, s.sent + 1, t⟩] else []) := by
  refine ⟨fun (e : s.st = 1) => ?_, fun (e : s.st = 2) => ?_⟩
  · rw [h.1 e, if_neg (by omega)]; rfl
  · obtain ⟨h1, h2⟩ := h.2 e
    rw [if_pos e]
    refine ⟨?_, fun f hf => ?_⟩
    · rw [List.filter_append, h1, List.drop_append_of_le_length (by omega), tells_app, List.length_drop, show r.has + 1 + 0 + ((A.length - r.has.toNat : Nat) : Int) = s.sent + 1 by omega]
      rfl
    · rcases List.mem_append.1 hf with hf | hf
      · exact h2 f hf
      · cases List.mem_singleton.1 hf; exact .inl rfl
theorem pi_send0 {m : Int} {l : Ln} {A0 A1 : List ByteArray} {t : ByteArray} (h : PI l A0 A1) : PI (sendL m l true t).1 (if (sendL m l true t).2 = 0 then A0 ++ [t] else A0) A1 := by
  unfold sendL sendM
  simp only [if_true]
  split
  · simpa using h
  split
  · simpa using h
  · rename_i g1 g2
    obtain ⟨x, y, up, dn⟩ := h
    simp only [if_true]
    refine ⟨⟨by simp [x.sent], x.has0, ?_, ?_, x.conf0, x.conf, ?_, ?_, ?_, ?_, ?_⟩, ⟨y.sent, y.has0, y.hasl, y.del, y.conf0, y.conf, y.held, y.small, y.wait, y.ready, ?_⟩, up, ?_⟩
    · have := x.hasl; show l.e1.has ≤ l.e0.sent + 1; omega
    · show l.d1 = List.take l.e1.has.toNat (A0 ++ [t])
      have h1 := x.hasl; have h2 := x.sent; have h3 := x.has0
      rw [List.take_append_of_le_length (by omega)]; exact x.del
    · show l.e0.held ++ [t] = List.drop l.e0.conf.toNat (A0 ++ [t])
      have h1 := x.hasl; have h2 := x.sent; have h3 := x.conf; have h4 := x.conf0
      rw [List.drop_append_of_le_length (by omega), x.held]
    · intro s hs
      rcases List.mem_append.1 hs with hs | hs
      · exact x.small s hs
      · cases List.mem_singleton.1 hs; omega
    · intro u v
      obtain ⟨T, hT, hq⟩ := x.wait u v
      exact ⟨T ++ if l.e0.st = 2 then [⟨2, l.e0.sent + 1, t⟩] else [], by rw [hT]; rfl, qu_send x.sent x.has0 x.hasl hq⟩
    · intro u v
      exact qu_send x.sent x.has0 x.hasl (x.ready u v)
    · exact x.ack
    · intro u v
      rcases y.ack u v with h | h
      · exact .inl h
      · exact .inr (List.mem_append.2 (.inl h))
    · intro u
      obtain ⟨d1, d2, d3, d4⟩ := dn u
      refine ⟨d1, d2, d3, ?_⟩
      show l.u1 ++ _ = []
      rw [d4, if_neg (by omega)]; rfl
end Go.Proofs.Ytmjfccnmeiagbaa
