/- Plain: Colours are colours. -/
import Derived.Test.YtikppcfabnnhfaaDoorCNC32
import Derived.Test.YtikppcfabnnhfaaDoorCNS10
namespace Go.Proofs.YtikppcfabnnhfaaDoor
open Go Go.Aw
set_option linter.unusedVariables false
/-- Colours of the first n selectors fit. -/
def fitsN (g : List Int) (n : Nat) (cs : List Int) : Prop :=
  (∀ i : Nat, i < n → i < cs.length → (hasW g 0 i = true → 0 ≤ cs.getD i 0) ∧ (hasW g 0 i = false → cs.getD i 0 = -1)) ∧
  ∀ i j : Nat, i < n → j < n → i < cs.length → j < cs.length → 0 ≤ cs.getD i 0 → cs.getD i 0 = cs.getD j 0 → ¬ confG g i j
theorem set_get {cs : List Int} {n i : Nat} {v : Int} (h : n < cs.length) : (cs.set n v).getD i 0 = if i = n then v else cs.getD i 0 := by
  rw [List.getD_eq_getElem?_getD, List.getElem?_set]
  by_cases e : n = i
  · subst e; rw [if_pos rfl, if_pos h, if_pos rfl]; rfl
  · rw [if_neg e, if_neg (fun h => e h.symm), ← List.getD_eq_getElem?_getD]
theorem colI_fits {g : List Int} (hg : GrOk g) : ∀ {k n : Nat} {cs : List Int}, n + k = cs.length → cs.length ≤ 500 → colOk n cs → fitsN g n cs → fitsN g cs.length (colI g k n cs) ∧ colOk cs.length (colI g k n cs)
  | 0, n, cs, h, hl, h1, h2 => by
    have : n = cs.length := by omega
    subst this
    exact ⟨h2, h1⟩
  | k + 1, n, cs, h, hl, h1, h2 => by
    have hs := colOk_set (g := g) h1 hl
    have hb := least_le (g := g) h1 hl
    rw [colI]
    by_cases c : hasW g 0 n = true
    · rw [if_pos c] at hs ⊢
      have tk := takenW (g := g) (cs := cs) (s := n) (m := leastL (takW g n cs) 0) ⟨hb.1, by omega⟩ (fun c hc => by have := colOk_bd h1 hl c hc; omega)
      have lo := (least_ok (takW_r (g := g) (cs := cs) (s := n)) takW_len).2.2 (by omega)
      generalize leastL (takW g n cs) 0 = v at hs hb tk lo ⊢
      have no : ∀ i : Nat, i < cs.length → cs.getD i 0 = v → ¬ confG g n i := fun i hi he hc => by
        have := tk.2 ⟨i, hi, by rw [← get_D hi]; exact he, hc⟩
        rw [lo] at this; cases this
      have sn : selN (n : Int) := ⟨by omega, by omega⟩
      have := colI_fits hg (k := k) (n := n + 1) (cs := cs.set n v) (by rw [List.length_set]; omega) (by rw [List.length_set]; omega) hs ⟨fun i hi hil => ?_, fun i j hi hj hil hjl h0 he hc => ?_⟩
      · rwa [List.length_set] at this
      · rw [set_get (by omega)]
        split
        · rename_i e; subst e
          exact ⟨fun _ => hb.1, fun hf => (by rw [c] at hf; cases hf)⟩
        · exact h2.1 i (by omega) (by rwa [List.length_set] at hil)
      · rw [List.length_set] at hil hjl
        rw [set_get (by omega)] at h0
        rw [set_get (by omega), set_get (by omega)] at he
        by_cases e1 : i = n
        · subst e1
          rw [if_pos rfl] at he h0
          by_cases e2 : j = i
          · subst e2; exact hg.irr _ sn hc
          · rw [if_neg e2] at he
            exact no j hjl he.symm hc
        · rw [if_neg e1] at he h0
          by_cases e2 : j = n
          · subst e2
            rw [if_pos rfl] at he
            exact no i hil he (hg.sym _ _ ⟨by omega, by omega⟩ sn hc)
          · rw [if_neg e2] at he
            exact h2.2 i j (by omega) (by omega) hil hjl h0 he hc
    · have c' : hasW g 0 n = false := by simpa using c
      rw [if_neg c] at hs ⊢
      refine colI_fits hg (k := k) (n := n + 1) (cs := cs) (by omega) hl hs ⟨fun i hi hil => ?_, fun i j hi hj hil hjl h0 he hc => ?_⟩
      · by_cases e : i = n
        · subst e
          exact ⟨fun hf => (by rw [c'] at hf; cases hf), fun _ => h1.2 i (Nat.le_refl _) hil⟩
        · exact h2.1 i (by omega) hil
      · have e1 : i ≠ n := fun e => by subst e; rw [h1.2 i (Nat.le_refl _) hil] at h0; omega
        have e2 : j ≠ n := fun e => by subst e; rw [he, h1.2 j (Nat.le_refl _) hjl] at h0; omega
        exact h2.2 i j (by omega) (by omega) hil hjl h0 he hc
theorem colsM_len {g : List Int} : (colsM g).length = szM g 500 := by rw [colsM, colI_len, ms_len]
theorem colsM_fits {g : List Int} (hg : GrOk g) : fitsN g (colsM g).length (colsM g) ∧ colOk (colsM g).length (colsM g) := by
  have hz := szM_le g 500
  have h := colI_fits hg (k := szM g 500) (n := 0) (cs := ms (szM g 500)) (by rw [ms_len]; omega) (by rw [ms_len]; omega) colOk_ms ⟨fun i h => by omega, fun i j h => by omega⟩
  rw [ms_len] at h
  rwa [colsM_len]
end Go.Proofs.YtikppcfabnnhfaaDoor
