/- The line's protocol: Carry. -/
import Derived.Test.YtmjfccnmeiagbaaCNP1
namespace Go.Proofs.Ytmjfccnmeiagbaa
open Go Go.Aw
set_option linter.unusedSimpArgs false
set_option linter.unusedVariables false
theorem b0n : b0.toList = [] := by kernel_rfl
theorem b0z : b0.size = 0 := rfl
theorem formed_h {n : Int} (h : 0 ≤ n) : formedM ⟨1, n, b0⟩ = true := by simp [formedM, b0n, h]
theorem formed_a {n : Int} (h : 0 ≤ n) : formedM ⟨3, n, b0⟩ = true := by simp [formedM, b0n, h]
theorem formed_d {n : Int} {t : ByteArray} (h : 0 ≤ n) (ht : t.size ≤ 4000) : formedM ⟨2, n, t⟩ = true := by
  have : (t.size : Int) ≤ 4000 := by omega
  simp [formedM, h, this]
/-- What Carry does at the end 0, by the states and the first frame. -/
inductive Step (l : Ln) (A0 A1 : List ByteArray) : Ln → Prop
  | none (h : l.u0 = []) : Step l A0 A1 l
  | hello (u : List Fr) (h : l.u0 = ⟨1, l.e1.has, b0⟩ :: u) (s : l.e0.st = 1) : Step l A0 A1 { l with e0 := { confirmM l.e0 l.e1.has with st := 2 }, u0 := u, d0 := l.d0 ++ [], u1 := l.u1 ++ tells l.e1.has 0 (A0.drop l.e1.has.toNat) }
  | data (u : List Fr) (x : ByteArray) (h : l.u0 = ⟨2, l.e0.has + 1, x⟩ :: u) (s : l.e0.st = 2) (s1 : l.e1.st = 2) (hx : A1.drop l.e0.has.toNat = x :: A1.drop (l.e0.has + 1).toNat) : Step l A0 A1 { l with e0 := { l.e0 with has := l.e0.has + 1 }, u0 := u, d0 := l.d0 ++ [x], u1 := l.u1 ++ [⟨3, l.e0.has + 1, b0⟩] }
  | ack (u : List Fr) (n : Int) (h : l.u0 = ⟨3, n, b0⟩ :: u) (h0 : 0 ≤ n) (h1 : n ≤ l.e1.has) (s : l.e0.st = 2) (s1 : l.e1.st = 2) : Step l A0 A1 { l with e0 := if l.e0.conf < n then confirmM l.e0 n else l.e0, u0 := u, d0 := l.d0 ++ [], u1 := l.u1 ++ [] }
theorem carry_step {l : Ln} {A0 A1 : List ByteArray} (h : PI l A0 A1) : (carry0 l).2 = 0 ∧ Step l A0 A1 (carry0 l).1 := by
  unfold carry0
  split
  · rename_i hu; exact ⟨rfl, .none hu⟩
  · rename_i f u hu
    obtain ⟨x, y, up, dn⟩ := h
    have hup : l.up = true := by
      cases hh : l.up with
      | true => rfl
      | false => have := (dn hh).2.2.1; rw [hu] at this; cases this
    rcases (up hup).1 with s | s
    · obtain ⟨T, hT, hq⟩ := y.wait hup s
      rw [hT] at hu
      cases hu
      have c1 := x.conf; have c2 := x.hasl; have c3 := x.has0; have c4 := x.conf0
      have ht : takeM l.e0 ⟨1, l.e1.has, b0⟩ = ({ confirmM l.e0 l.e1.has with st := 2 }, [], tells l.e1.has 0 (A0.drop l.e1.has.toNat), 0) := by
        unfold takeM
        rw [if_neg (by omega), if_neg (by rw [formed_h c3]; simp), if_pos ⟨rfl, s, c1, c2⟩, x.held, List.drop_drop, show l.e0.conf.toNat + (l.e1.has - l.e0.conf).toNat = l.e1.has.toNat by omega]
      rw [ht]
      rw [if_neg (by simp)]
      exact ⟨rfl, .hello _ hT s⟩
    · have hq := y.ready hup s
      rw [hu] at hq
      have s1 : l.e1.st = 2 := by
        rcases (up hup).2 with s1 | s1
        · have := hq.1 s1; cases this
        · exact s1
      obtain ⟨h1, h2⟩ := hq.2 s1
      rcases h2 f (by simp) with hk | ⟨hk, ht, hn0, hn1⟩
      · rw [List.filter_cons_of_pos (by simp [isD, hk])] at h1
        have z0 := y.has0; have z1 := y.hasl
        cases hd : A1.drop l.e0.has.toNat with
        | nil => rw [hd] at h1; cases h1
        | cons a r =>
          rw [hd] at h1
          simp only [tells, List.cons.injEq] at h1
          have hf := h1.1
          rw [show l.e0.has + 1 + 0 = l.e0.has + 1 by omega] at hf
          have hr : r = A1.drop (l.e0.has + 1).toNat := by
            rw [show (l.e0.has + 1).toNat = l.e0.has.toNat + 1 by omega, ← List.drop_drop, hd]; rfl
          have hm : a ∈ A1 := List.mem_of_mem_drop (by rw [hd]; simp : a ∈ A1.drop l.e0.has.toNat)
          have ht : takeM l.e0 f = ({ l.e0 with has := l.e0.has + 1 }, [a], [⟨3, l.e0.has + 1, b0⟩], 0) := by
            rw [hf]
            unfold takeM
            rw [if_neg (by omega), if_neg (by rw [formed_d (by omega) (y.small a hm)]; simp), if_neg (by simp), if_pos ⟨rfl, s, rfl⟩]
          rw [ht, if_neg (by simp)]
          refine ⟨rfl, .data u a ?_ s s1 ?_⟩
          · rw [hu, hf]
          · rw [hd, hr]
      · obtain ⟨k, n, t⟩ := f
        simp only at hk ht hn0 hn1
        subst hk; subst ht
        have c1 := x.hasl
        have ht : takeM l.e0 ⟨3, n, b0⟩ = (if l.e0.conf < n then confirmM l.e0 n else l.e0, [], [], 0) := by
          unfold takeM
          rw [if_neg (by omega), if_neg (by rw [formed_a hn0]; simp), if_neg (by simp), if_neg (by simp), if_neg (by simp), if_pos ⟨rfl, s, by simp; omega⟩]
        rw [ht, if_neg (by simp)]
        exact ⟨rfl, .ack u n hu hn0 hn1 s s1⟩
theorem pi_step {l l' : Ln} {A0 A1 : List ByteArray} (h : PI l A0 A1) (hs : Step l A0 A1 l') : PI l' A0 A1 := by
  obtain ⟨x, y, up, dn⟩ := h
  have gu : ∀ {f : Fr} {u : List Fr}, l.u0 = f :: u → l.up = true := fun hu => by
    cases hh : l.up with
    | true => rfl
    | false => have := (dn hh).2.2.1; rw [hu] at this; cases this
  cases hs with
  | none h => exact ⟨x, y, up, dn⟩
  | hello u hu s =>
    have hup := gu hu
    obtain ⟨T, hT, hq⟩ := y.wait hup s
    rw [hu] at hT
    cases hT
    have c1 := x.conf; have c2 := x.hasl; have c3 := x.has0; have c4 := x.conf0; have c5 := y.has0
    have nq : Qu { confirmM l.e0 l.e1.has with st := 2 } l.e1 A0 (tells l.e1.has 0 (A0.drop l.e1.has.toNat)) :=
      ⟨(fun h => by cases h), fun _ => ⟨tells_filter, fun f hf => .inl (tells_k f hf)⟩⟩
    refine ⟨⟨x.sent, x.has0, x.hasl, x.del, c3, Int.le_refl _, ?_, x.small, fun _ v => ?_, fun _ v => ?_, fun _ _ => .inl rfl⟩, ⟨y.sent, y.has0, y.hasl, by simp [y.del, confirmM], y.conf0, y.conf, y.held, y.small, (fun _ h => by cases h), fun _ _ => hq, fun a b => ?_⟩, fun _ => ⟨.inr rfl, (up hup).2⟩, fun h => ?_⟩
    · show List.drop (l.e1.has - l.e0.conf).toNat l.e0.held = List.drop l.e1.has.toNat A0
      rw [x.held, List.drop_drop, show l.e0.conf.toNat + (l.e1.has - l.e0.conf).toNat = l.e1.has.toNat by omega]
    · obtain ⟨T, hT, hq0⟩ := x.wait hup v
      refine ⟨tells l.e1.has 0 (A0.drop l.e1.has.toNat), ?_, nq⟩
      show l.u1 ++ _ = _
      rw [hT, hq0.1 s]; rfl
    · have hq0 := x.ready hup v
      show Qu _ _ _ (l.u1 ++ _)
      rw [hq0.1 s]
      exact nq
    · rcases y.ack hup b with h | h
      · exact .inl h
      · exact .inr (List.mem_append.2 (.inl h))
    · rw [show l.up = false from h] at hup; cases hup
  | data u a hu s s1 hx =>
    have hup := gu hu
    have c1 := y.conf; have c2 := y.hasl; have c3 := y.has0; have c4 := y.sent
    have hlen : l.e0.has.toNat < A1.length := by
      have := congrArg List.length hx
      simp only [List.length_drop, List.length_cons] at this
      omega
    have hqy := (y.ready hup s).2 s1
    have hqx := (x.ready hup s1).2 s
    rw [hu] at hqy
    rw [List.filter_cons_of_pos (by simp [isD]), hx] at hqy
    refine ⟨⟨x.sent, x.has0, x.hasl, x.del, x.conf0, x.conf, x.held, x.small, fun _ v => ?_, fun _ v => ⟨fun h => ?_, fun _ => ⟨?_, fun f hf => ?_⟩⟩, fun _ _ => ?_⟩, ⟨y.sent, by show 0 ≤ l.e0.has + 1; omega, by show l.e0.has + 1 ≤ l.e1.sent; omega, ?_, y.conf0, by show l.e1.conf ≤ l.e0.has + 1; omega, y.held, y.small, fun _ v => ?_, fun _ v => ⟨fun h => ?_, fun _ => ⟨?_, fun f hf => ?_⟩⟩, fun _ _ => .inr (List.mem_append.2 (.inr (by simp)))⟩, fun _ => up hup, fun h => ?_⟩
    · rw [s1] at v; cases v
    · rw [show l.e0.st = 1 from h] at s; cases s
    · show List.filter isD (l.u1 ++ [⟨3, l.e0.has + 1, b0⟩]) = _
      rw [List.filter_append, hqx.1]
      simp [isD]
    · rcases List.mem_append.1 hf with hf | hf
      · rcases hqx.2 f hf with h | ⟨h1, h2, h3, h4⟩
        · exact .inl h
        · exact .inr ⟨h1, h2, h3, by show f.n ≤ l.e0.has + 1; omega⟩
      · cases List.mem_singleton.1 hf
        exact .inr ⟨rfl, rfl, by show 0 ≤ l.e0.has + 1; omega, Int.le_refl _⟩
    · rcases x.ack hup s with h | h
      · exact .inl h
      · rw [hu] at h
        rcases List.mem_cons.1 h with h | h
        · cases h
        · exact .inr h
    · show l.d0 ++ [a] = List.take (l.e0.has + 1).toNat A1
      have ha : A1[l.e0.has.toNat]? = some a := by
        have := congrArg List.head? hx
        simpa [List.head?_drop] using this
      rw [y.del, show (l.e0.has + 1).toNat = l.e0.has.toNat + 1 by omega, List.take_add_one, ha]; rfl
    · rw [show l.e0.st = 1 from v] at s; cases s
    · rw [show l.e1.st = 1 from h] at s1; cases s1
    · have := hqy.1
      simp only [tells, List.cons.injEq] at this
      show List.filter isD u = tells (l.e0.has + 1) 0 (A1.drop (l.e0.has + 1).toNat)
      rw [this.2]
      exact tells_shift
    · exact hqy.2 f (List.mem_cons_of_mem _ hf)
    · rw [show l.up = false from h] at hup; cases hup
  | ack u n hu h0 h1 s s1 =>
    have hup := gu hu
    have c1 := x.conf; have c2 := x.conf0; have c3 := x.has0
    have hqy := (y.ready hup s).2 s1
    have hqx := (x.ready hup s1)
    rw [hu, List.filter_cons_of_neg (by simp [isD])] at hqy
    have e1 : (if l.e0.conf < n then confirmM l.e0 n else l.e0).st = l.e0.st := by split <;> rfl
    have e2 : (if l.e0.conf < n then confirmM l.e0 n else l.e0).sent = l.e0.sent := by split <;> rfl
    have e3 : (if l.e0.conf < n then confirmM l.e0 n else l.e0).has = l.e0.has := by split <;> rfl
    have e4 : (if l.e0.conf < n then confirmM l.e0 n else l.e0).conf = max l.e0.conf n := by
      split
      · simp only [confirmM]; omega
      · omega
    have e5 : (if l.e0.conf < n then confirmM l.e0 n else l.e0).held = A0.drop (max l.e0.conf n).toNat := by
      split
      · simp only [confirmM]
        rw [x.held, List.drop_drop, show l.e0.conf.toNat + (n - l.e0.conf).toNat = (max l.e0.conf n).toNat by omega]
      · rw [x.held, show max l.e0.conf n = l.e0.conf by omega]
    generalize (if l.e0.conf < n then confirmM l.e0 n else l.e0) = e at *
    have qx : ∀ T, Qu l.e0 l.e1 A0 T → Qu e l.e1 A0 T := fun T h => by
      unfold Qu at h ⊢
      rw [e1, e3]; exact h
    have qy : ∀ T, Qu l.e1 l.e0 A1 T → Qu l.e1 e A1 T := fun T h => by
      unfold Qu at h ⊢
      rw [e3]; exact h
    refine ⟨⟨e2.trans x.sent, x.has0, ?_, x.del, ?_, ?_, ?_, x.small, fun _ v => ?_, fun _ v => ?_, fun _ v => ?_⟩, ⟨y.sent, ?_, ?_, ?_, y.conf0, ?_, y.held, y.small, fun _ v => ?_, fun _ v => ?_, fun _ v => ?_⟩, fun _ => ⟨.inr (e1.trans s), (up hup).2⟩, fun h => ?_⟩
    · show l.e1.has ≤ e.sent; rw [e2]; exact x.hasl
    · show 0 ≤ e.conf; omega
    · show e.conf ≤ l.e1.has; omega
    · show e.held = A0.drop e.conf.toNat; rw [e5, e4]
    · rw [show l.e1.st = 1 from v] at s1; cases s1
    · show Qu e l.e1 A0 (l.u1 ++ []); rw [List.append_nil]; exact qx _ hqx
    · show e.conf = l.e1.has ∨ _
      rcases x.ack hup s with h | h
      · left; omega
      · rw [hu] at h
        rcases List.mem_cons.1 h with h | h
        · cases h; left; omega
        · exact .inr h
    · show 0 ≤ e.has; rw [e3]; exact y.has0
    · show e.has ≤ _; rw [e3]; exact y.hasl
    · show l.d0 ++ [] = A1.take e.has.toNat; rw [List.append_nil, e3]; exact y.del
    · show _ ≤ e.has; rw [e3]; exact y.conf
    · rw [show e.st = 1 from v] at e1; omega
    · refine qy _ ⟨fun h => ?_, fun _ => ⟨hqy.1, fun f hf => hqy.2 f (List.mem_cons_of_mem _ hf)⟩⟩
      rw [show l.e1.st = 1 from h] at s1; cases s1
    · show _ = e.has ∨ ⟨3, e.has, b0⟩ ∈ l.u1 ++ []
      rw [e3, List.append_nil]; exact y.ack hup s1
    · rw [show l.up = false from h] at hup; cases hup
end Go.Proofs.Ytmjfccnmeiagbaa
