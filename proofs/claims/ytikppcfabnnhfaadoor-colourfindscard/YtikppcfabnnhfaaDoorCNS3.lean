/- Plain: a world that is checked. -/
import Derived.Test.YtikppcfabnnhfaaDoorCNC18
import Derived.Test.YtikppcfabnnhfaaDoorCNS2
namespace Go.Proofs.YtikppcfabnnhfaaDoor
open Go Go.Aw
set_option linter.unusedSimpArgs false
set_option linter.unusedVariables false
def goodE (nb : Int) (e : Et) : Prop := (0 ≤ e.s ∧ e.s < 500) ∧ 0 ≤ e.m ∧ e.m < nb
theorem badE_iff {nb : Int} {e : Et} : badE nb e = false ↔ goodE nb e := by
  simp only [badE, goodE, Bool.or_eq_false_iff, decide_eq_false_iff_not]
  omega
theorem ckC_some {nb : Int} : ∀ {l : List Et} {q : Int}, ckC nb (some q) l = 0 ↔ (∀ e ∈ l, goodE nb e) ∧ ((q :: l.map Et.s).Pairwise (· < ·))
  | [], q => by simp [ckC]
  | e :: l, q => by
    rw [ckC]
    by_cases h : badE nb e = true
    · rw [if_pos h]
      constructor
      · intro h; cases h
      · rintro ⟨h1, _⟩
        rw [badE_iff.2 (h1 e (by simp))] at h
        cases h
    · have h' : badE nb e = false := by simpa using h
      have hg := badE_iff.1 h'
      rw [if_neg h]
      simp only [decide_eq_true_eq]
      by_cases h2 : e.s ≤ q
      · rw [if_pos h2]
        constructor
        · intro h; cases h
        · rintro ⟨_, h3⟩
          have := (List.pairwise_cons.1 h3).1 e.s (by simp)
          omega
      · rw [if_neg h2, ckC_some]
        constructor
        · rintro ⟨h3, h4⟩
          refine ⟨fun x hx => ?_, ?_⟩
          · rcases List.mem_cons.1 hx with rfl | hx
            · exact hg
            · exact h3 x hx
          · rw [List.map_cons]
            refine List.pairwise_cons.2 ⟨fun x hx => ?_, h4⟩
            rcases List.mem_cons.1 hx with rfl | hx
            · omega
            · have := (List.pairwise_cons.1 h4).1 x hx
              omega
        · rintro ⟨h3, h4⟩
          exact ⟨fun x hx => h3 x (by simp [hx]), (List.pairwise_cons.1 h4).2⟩
theorem ckC_none {nb : Int} {l : List Et} : ckC nb none l = 0 ↔ (∀ e ∈ l, goodE nb e) ∧ ((l.map Et.s).Pairwise (· < ·)) := by
  match l with
  | [] => simp [ckC]
  | e :: l =>
    rw [ckC]
    by_cases h : badE nb e = true
    · rw [if_pos h]
      constructor
      · intro h; cases h
      · rintro ⟨h1, _⟩
        rw [badE_iff.2 (h1 e (by simp))] at h
        cases h
    · have h' : badE nb e = false := by simpa using h
      have hg := badE_iff.1 h'
      rw [if_neg h]
      simp only [Bool.false_eq_true, if_false]
      rw [ckC_some]
      constructor
      · rintro ⟨h3, h4⟩
        refine ⟨fun x hx => ?_, h4⟩
        rcases List.mem_cons.1 hx with rfl | hx
        · exact hg
        · exact h3 x hx
      · rintro ⟨h3, h4⟩
        exact ⟨fun x hx => h3 x (by simp [hx]), h4⟩
theorem ckCs_iff {nb : Int} : ∀ {cs : List (List Et)}, ckCs nb cs = 0 ↔ ∀ c ∈ cs, ckC nb none c = 0
  | [] => by simp [ckCs]
  | c :: cs => by
    rw [ckCs]
    by_cases h : ckC nb none c = 0
    · rw [if_pos h, ckCs_iff]
      simp [h]
    · rw [if_neg h]
      simp [h]
structure Good (w : Wd) : Prop where
  nc : w.classes.length ≤ 200
  nb : w.bodies.length ≤ 500
  nr : w.roots.length ≤ 64
  len : ∀ c ∈ w.classes, c.length ≤ 100
  ent : ∀ c ∈ w.classes, ∀ e ∈ c, goodE w.bodies.length e
  asc : ∀ c ∈ w.classes, (c.map Et.s).Pairwise (· < ·)
  bl : ∀ b ∈ w.bodies, b.ss.length ≤ 100 ∧ b.ms.length ≤ 100 ∧ b.cs.length ≤ 100
  br : ∀ b ∈ w.bodies, (∀ x ∈ b.ss, 0 ≤ x ∧ x < 500) ∧ (∀ x ∈ b.ms, 0 ≤ x ∧ x < w.bodies.length) ∧ (∀ x ∈ b.cs, 0 ≤ x ∧ x < w.classes.length)
  rr : ∀ x ∈ w.roots, 0 ≤ x ∧ x < w.bodies.length
theorem inR_all {n : Int} {l : List Int} : l.all (inR n) = true ↔ ∀ x ∈ l, 0 ≤ x ∧ x < n := by
  rw [List.all_eq_true]
  refine forall_congr' fun x => forall_congr' fun _ => ?_
  simp only [inR, Bool.not_eq_true', Bool.or_eq_false_iff, decide_eq_false_iff_not]
  omega
theorem good_of {w : Wd} (h : ckM w = 0) : Good w := by
  unfold ckM at h
  split at h
  · cases h
  rename_i h1
  split at h
  · cases h
  rename_i h2
  split at h
  · cases h
  rename_i h3
  split at h
  · rename_i h4; exact absurd h h4
  rename_i h4
  split at h
  · cases h
  rename_i h5
  split at h
  case isFalse => cases h
  rename_i h6
  have c1 := ckCs_iff.1 (Classical.not_not.1 h4)
  have h2' : w.classes.any bigC = false := by simpa using h2
  have h3' : w.bodies.any bigB = false := by simpa using h3
  have h5' : w.bodies.any (badB w.bodies.length w.classes.length) = false := by simpa using h5
  refine ⟨by omega, by omega, by omega, fun c hc => ?_, fun c hc => (ckC_none.1 (c1 c hc)).1, fun c hc => (ckC_none.1 (c1 c hc)).2, fun b hb => ?_, fun b hb => ?_, inR_all.1 h6⟩
  · have := List.any_eq_false.1 h2' c hc
    simp only [bigC, decide_eq_true_eq] at this
    omega
  · have := List.any_eq_false.1 h3' b hb
    simp only [bigB, Bool.or_eq_true, decide_eq_true_eq] at this
    omega
  · have := List.any_eq_false.1 h5' b hb
    simp only [badB, Bool.or_eq_true, Bool.not_eq_true', not_or, Bool.not_eq_false] at this
    exact ⟨inR_all.1 this.1.1, inR_all.1 this.1.2, inR_all.1 this.2⟩
theorem okW_of {w : Wd} (h : ckM w = 0) : okW w := by
  have g := good_of h
  exact ⟨g.nc, fun c hc => ⟨g.len c hc, fun e he => (g.ent c hc e he).1⟩⟩
theorem pw_nodup {l : List Int} (h : l.Pairwise (· < ·)) : l.Nodup := h.imp (fun h e => by omega)
theorem clsok_of {w : Wd} (g : Good w) : clsok w.classes := fun c hc => ⟨fun e he => (g.ent c hc e he).1, pw_nodup (g.asc c hc)⟩
end Go.Proofs.YtikppcfabnnhfaaDoor
