/- The example's facts. -/
import Derived.Test.YtikppcfabnnhfaaDoorCNS4
namespace Go.Proofs.YtikppcfabnnhfaaDoor
open Go Go.Aw
set_option linter.unusedSimpArgs false
set_option linter.unusedVariables false
set_option maxRecDepth 1000000
def exW : Wd := ⟨[[⟨0, 0⟩, ⟨1, 1⟩], [⟨1, 2⟩, ⟨2, 3⟩]], [⟨[], [], []⟩, ⟨[], [], []⟩, ⟨[], [], []⟩, ⟨[], [], []⟩], [0]⟩
def exC : List Et := [⟨0, 0⟩, ⟨2, 0⟩]
theorem ex_ck : ckM exW = 0 := by kernel_rfl
theorem ex_ck2 : ckM (moreW exW exC) = 0 := by kernel_rfl
theorem ex_cnt : cntM (graphW exW) 8 = 3 := by kernel_rfl
theorem ex_sz2 : szM (graphW (moreW exW exC)) 500 = 3 := by kernel_rfl
theorem ex_cc : ccW (graphW exW) [0, 1, 0] = 0 := by kernel_rfl
theorem ex_least : leastW (graphW exW) = 2 := by kernel_rfl
theorem ex_pack : packM [0, 1, 0] exW.classes ([], []) = ([⟨0, 0⟩, ⟨1, 1⟩, ⟨2, 3⟩, ⟨1, 2⟩], [0, 2]) := by kernel_rfl
theorem ex_grow : gwM (graphW (moreW exW exC)) exC [] (ms0 exW exC [0, 1, 0]) [] = some ([0, 1, 2], [2]) := by kernel_rfl
theorem ex_good : Good exW := good_of ex_ck
theorem ex_near {a b : Int} (ha : selN a) (hb : selN b) : hasW (graphW exW) (nb a) b = true ↔ a ≠ b ∧ (((a = 0 ∨ a = 1) ∧ (b = 0 ∨ b = 1)) ∨ ((a = 1 ∨ a = 2) ∧ (b = 1 ∨ b = 2))) := by
  rw [nearW ha hb (clsok_of ex_good)]
  refine and_congr_right fun _ => ?_
  simp [exW]
  omega
theorem rowI_nil {g : List Int} {a : Int} : ∀ {k : Nat} {b : Int}, (∀ x, b ≤ x → x < b + k → hasW g (nb a) x = false) → rowI g a k b = []
  | 0, _, _ => rfl
  | k + 1, b, h => by
    rw [rowI, h b (by omega) (by omega), rowI_nil (fun x h1 h2 => h x (by omega) (by omega))]
    rfl
theorem allI_nil {g : List Int} : ∀ {k : Nat} {a : Int}, (∀ x y, a ≤ x → x < y → y < a + k → hasW g (nb x) y = false) → allI g k a = []
  | 0, _, _ => rfl
  | k + 1, a, h => by
    rw [allI, rowI_nil (fun x h1 h2 => h a x (by omega) (by omega) (by omega)), allI_nil (fun x y h1 h2 h3 => h x y (by omega) h2 (by omega))]
    rfl
theorem ex_no {a b : Int} (ha : selN a) (hb : selN b) (h : ¬ (a ≠ b ∧ (((a = 0 ∨ a = 1) ∧ (b = 0 ∨ b = 1)) ∨ ((a = 1 ∨ a = 2) ∧ (b = 1 ∨ b = 2))))) : hasW (graphW exW) (nb a) b = false := by
  cases hh : hasW (graphW exW) (nb a) b with
  | false => rfl
  | true => exact absurd ((ex_near ha hb).1 hh) h
theorem ex_conf : cfM (graphW exW) = [(0, 1), (1, 2)] := by
  have e0 : hasW (graphW exW) (nb 0) 1 = true := (ex_near (by unfold selN; omega) (by unfold selN; omega)).2 (by omega)
  have e1 : hasW (graphW exW) (nb 1) 2 = true := (ex_near (by unfold selN; omega) (by unfold selN; omega)).2 (by omega)
  have no : ∀ a b : Int, 0 ≤ a → b < 500 → a < b → (a = 0 → b ≠ 1) → (a = 1 → b ≠ 2) → hasW (graphW exW) (nb a) b = false := fun a b h1 h2 h3 h4 h5 => ex_no (by unfold selN; omega) (by unfold selN; omega) (by omega)
  unfold cfM
  generalize graphW exW = g at e0 e1 no
  rw [show allI g 500 0 = rowI g 0 499 (0 + 1) ++ allI g 499 (0 + 1) from rfl, show rowI g 0 499 (0 + 1) = (if hasW g (nb 0) (0 + 1) = true then [((0 : Int), (0 : Int) + 1)] else []) ++ rowI g 0 498 (0 + 1 + 1) from rfl,
    show allI g 499 (0 + 1) = rowI g (0 + 1) 498 (0 + 1 + 1) ++ allI g 498 (0 + 1 + 1) from rfl, show rowI g (0 + 1) 498 (0 + 1 + 1) = (if hasW g (nb (0 + 1)) (0 + 1 + 1) = true then [((0 : Int) + 1, (0 : Int) + 1 + 1)] else []) ++ rowI g (0 + 1) 497 (0 + 1 + 1 + 1) from rfl]
  rw [rowI_nil (k := 498) (fun x h1 h2 => no 0 x (by omega) (by omega) (by omega) (by omega) (by omega)), rowI_nil (k := 497) (fun x h1 h2 => no (0 + 1) x (by omega) (by omega) (by omega) (by omega) (by omega)), allI_nil (fun x y h1 h2 h3 => no x y (by omega) (by omega) (by omega) (by omega) (by omega))]
  have z1 : ((0 : Int) + 1) = 1 := rfl
  have z2 : ((1 : Int) + 1) = 2 := rfl
  simp only [z1, z2, e0, e1, if_true, List.append_nil, List.cons_append, List.nil_append]
theorem ex_hasC : ∀ c ∈ exW.classes, ∀ e ∈ c, hasC [0, 1, 0] e := by
  have : ∀ c ∈ exW.classes, ∀ e ∈ c, (0 ≤ e.s ∧ e.s < 3 ∧ 0 ≤ colAt [0, 1, 0] e.s ∧ colAt [0, 1, 0] e.s < 500) := by
    unfold exW
    decide
  exact this
end Go.Proofs.YtikppcfabnnhfaaDoor
