/- Plain: what CheckColours takes. -/
import Derived.Test.YtikppcfabnnhfaaDoorCNS12
namespace Go.Proofs.YtikppcfabnnhfaaDoor
open Go Go.Aw
set_option linter.unusedVariables false
/-- Colours of a graph. -/
structure ColsOk (g cs : List Int) : Prop where
  len : cs.length = szM g 500
  bd : ∀ c ∈ cs, -1 ≤ c ∧ c < 500
  kn : ∀ i : Nat, i < cs.length → (hasW g 0 i = true → 0 ≤ cs.getD i 0)
  un : ∀ i : Nat, i < cs.length → (hasW g 0 i = false → cs.getD i 0 = -1)
  no : ∀ i j : Nat, i < cs.length → j < cs.length → 0 ≤ cs.getD i 0 → cs.getD i 0 = cs.getD j 0 → ¬ confG g i j
theorem bad_iff {g : List Int} {n c : Int} : badC g n c = false ↔ (-1 ≤ c ∧ c < 500) ∧ (hasW g 0 n = true → 0 ≤ c) ∧ (hasW g 0 n = false → c = -1) := by
  unfold badC
  rw [Bool.or_eq_false_iff, Bool.or_eq_false_iff, decide_eq_false_iff_not, decide_eq_false_iff_not]
  by_cases hc : c = -1
  · subst hc
    cases h : hasW g 0 n
    · exact ⟨fun _ => ⟨⟨by omega, by omega⟩, fun h => (by cases h), fun _ => rfl⟩, fun _ => ⟨⟨rfl, by omega⟩, by omega⟩⟩
    · exact ⟨fun h => (by have := h.1.1; cases this), fun h => by have := h.2.1 rfl; omega⟩
  · have e : (c == -1) = false := beq_eq_false_iff_ne.2 hc
    rw [e]
    cases h : hasW g 0 n
    · exact ⟨fun h => (by have := h.1.1; cases this), fun h => absurd (h.2.2 rfl) hc⟩
    · exact ⟨fun h => ⟨⟨by omega, by omega⟩, fun _ => by omega, fun h => (by cases h)⟩, fun h => ⟨⟨rfl, by omega⟩, by omega⟩⟩
theorem anyB_iff {g : List Int} : ∀ {r : List Int} {n : Int}, anyB g r n = false ↔ ∀ i : Nat, i < r.length → badC g (n + i) (r.getD i 0) = false
  | [], n => by simp [anyB]
  | c :: r, n => by
    rw [anyB, Bool.or_eq_false_iff, anyB_iff]
    constructor
    · rintro ⟨h1, h2⟩ i hi
      cases i with
      | zero => simpa using h1
      | succ i =>
        have := h2 i (by simpa using hi)
        rw [show n + ((i + 1 : Nat) : Int) = n + 1 + i by omega]
        simpa using this
    · intro h
      refine ⟨by simpa using h 0 (by simp), fun i hi => ?_⟩
      have := h (i + 1) (by simpa using hi)
      rw [show n + ((i + 1 : Nat) : Int) = n + 1 + i by omega] at this
      simpa using this
theorem clash_iff {g cs : List Int} : ∀ {r : List Int} {n : Int}, clash g cs r n = false ↔ ∀ i : Nat, i < r.length → 0 ≤ r.getD i 0 → hasW (takW g (n + i) cs) 0 (r.getD i 0) = false
  | [], n => by simp [clash]
  | c :: r, n => by
    rw [clash, Bool.or_eq_false_iff, clash_iff, Bool.and_eq_false_imp]
    constructor
    · rintro ⟨h1, h2⟩ i hi h0
      cases i with
      | zero =>
        have := h1 (by simpa using h0)
        simpa using this
      | succ i =>
        have := h2 i (by simpa using hi) (by simpa using h0)
        rw [show n + ((i + 1 : Nat) : Int) = n + 1 + i by omega]
        simpa using this
    · intro h
      refine ⟨fun h0 => by have := h 0 (by simp) (by simpa using h0); simpa using this, fun i hi h0 => ?_⟩
      have := h (i + 1) (by simpa using hi) (by simpa using h0)
      rw [show n + ((i + 1 : Nat) : Int) = n + 1 + i by omega] at this
      simpa using this
theorem getD_mem {l : List Int} {i : Nat} (h : i < l.length) : l.getD i 0 ∈ l := by
  rw [get_D h]; exact List.getElem_mem _
/-- **What CheckColours takes.** -/
theorem cc_iff {g cs : List Int} : ccW g cs = 0 ↔ ColsOk g cs := by
  have hz := szM_le g 500
  unfold ccW
  constructor
  · intro h
    split at h
    case isFalse => cases h
    rename_i h1
    split at h
    · cases h
    rename_i h2
    split at h
    · cases h
    rename_i h3
    have a := anyB_iff.1 (show anyB g cs 0 = false by simpa using h2)
    have b := clash_iff.1 (show clash g cs cs 0 = false by simpa using h3)
    have a' := fun i hi => bad_iff.1 (a i hi)
    simp only [Int.zero_add] at a' b
    have bd : ∀ c ∈ cs, -1 ≤ c ∧ c < 500 := fun c hc => by
      obtain ⟨i, hi, rfl⟩ := List.mem_iff_getElem.1 hc
      rw [← get_D hi]
      exact (a' i hi).1
    refine ⟨h1, bd, fun i hi => (a' i hi).2.1, fun i hi => (a' i hi).2.2, fun i j hi hj h0 he hc => ?_⟩
    have := (takenW (g := g) (cs := cs) (s := i) (m := cs.getD i 0) ⟨h0, by have := bd _ (getD_mem hi); omega⟩ (fun c hc => by have := bd c hc; omega)).2 ⟨j, hj, by rw [← get_D hj]; exact he.symm, hc⟩
    rw [b i hi h0] at this
    cases this
  · intro h
    rw [if_pos h.len, if_neg, if_neg]
    · intro hc
      refine absurd (clash_iff.2 fun i hi h0 => ?_) (by rw [hc]; simp)
      cases hh : hasW (takW g (0 + i) cs) 0 (cs.getD i 0) with
      | false => rfl
      | true =>
        rw [Int.zero_add] at hh
        obtain ⟨j, hj, e, hc⟩ := (takenW (g := g) (cs := cs) (s := i) (m := cs.getD i 0) ⟨h0, by have := h.bd _ (getD_mem hi); omega⟩ (fun c hc => by have := h.bd c hc; omega)).1 hh
        exact absurd hc (h.no i j hi hj h0 (by rw [get_D hj]; exact e.symm))
    · intro hc
      refine absurd (anyB_iff.2 fun i hi => bad_iff.2 ⟨h.bd _ (getD_mem hi), ?_, ?_⟩) (by rw [hc]; simp)
      · rw [Int.zero_add]; exact h.kn i hi
      · rw [Int.zero_add]; exact h.un i hi
/-- **Colours are colours.** -/
theorem cols_ok {g : List Int} (hg : GrOk g) : ColsOk g (colsM g) := by
  obtain ⟨⟨a, b⟩, c⟩ := colsM_fits hg
  have hz := szM_le g 500
  exact ⟨colsM_len, colOk_bd c (by rw [colsM_len]; exact hz), fun i hi => (a i hi hi).1, fun i hi => (a i hi hi).2, fun i j hi hj => b i j hi hj hi hj⟩
end Go.Proofs.YtikppcfabnnhfaaDoor
