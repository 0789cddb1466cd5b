/- ColourFew: Least does not depend on the order of the classes, does not fall with a class more, and is at least the number of entries of each class, for worlds as the statement's guard lets them in. The package's table math/bits.deBruijn64tab is as the program's text lays it. -/
import Derived.Test.YtikppcfabnnhfaaDoorCNR0
import Derived.Test.YtikppcfabnnhfaaDoorCNC31
namespace Go.Proofs.YtikppcfabnnhfaaDoor
open Go Go.Aw
set_option maxRecDepth 100000
theorem few_lifted (os : Os) (started : os.Started) (H : Type) (enc : TypeId × Value → H) :
    ReturnsInHanded {} Tryd.checked os 4 .any (fun w args => (Rows.colourFewSpec.pre enc Tryd.prog Tryd.f4 [] false w args ∧ laidMetH Tryd.prog laidL w) ∧ sizedMet enc Tryd.prog Tryd.f4 (OpenSpec.ofChange Rows.colourFewSpec) false w args)
      (Rows.colourFewSpec.post enc Tryd.prog Tryd.f4 false true false false) := by
  refine returnsInHanded_of_change_and (C := Tryd.checked) (X := fun w _ => laidMetH Tryd.prog laidL w) (fun _ _ _ hh h => h.of_heap hh) own started (by kernel_rfl) Tryd.func4
    (ChangeSpec.witness_shaped (enc := enc) (C := Tryd.checked) (os := os) (X := fun w _ => laidMetH Tryd.prog laidL w) false (World.doorLaid Tryd.prog 400 os) #[.agg #[.slice none 0 0, .slice none 0 0, .slice none 0 0], .slice none 0 0] 8 rfl (World.shaped_of_RefB (by kernel_rfl) (by kernel_rfl)) (by kernel_rfl) (by kernel_rfl) (by kernel_rfl) (door_met os _)) ?_
  intro W base args ds gs before hval hW _ hsz hL _
  refine law_contractG (G := G) (A := ANL) evokL laidOut (fn := Tryd.f4) (l := [35, 32, 33, 23, 36, 71, 83, 3]) (by kernel_rfl) (ts := [35, 36]) (by rw [Tryd.params4]) (by kernel_rfl) (by kernel_rfl) (tb := 4) (by kernel_rfl) Tryd.underlying4 rfl (tab_laid hL) hval hW hsz (fun ds h => ?_) fun nx hl ht => ?_
  · match ds, h with
    | [a, b], _ => exact ⟨rfl, rfl, rfl⟩
  · match nx, hl with
    | [a, b], _ =>
      obtain ⟨w, hi, _, ha⟩ := world_of (ht 0 35 a rfl rfl)
      obtain ⟨l, _, _, _, hb⟩ := pairs_of Tryd.underlying36 Tryd.underlying71 rfl (by kernel_rfl) (by kernel_rfl) (ht 1 36 b rfl rfl)
      refine ⟨[], ?_⟩
      have := few_ev (w := w) (mo := l) hi
      show EL.F 4 [argA Tryd.prog 35 a.2, argA Tryd.prog 36 b.2] [] = _
      rw [hb]
      simp only [argA, Tryd.underlying35, Tryd.underlying36, List.getD_cons_zero]
      rw [ha]
      exact this
theorem few_holds : Rows.ColourFewSaid :=
  OpenClaim.holds_of_wide 4 Tryd.f4 rfl rfl rfl rfl rfl rfl rfl ⟨rfl, rfl, rfl, rfl, rfl⟩ rfl rfl rfl rfl rfl (by kernel_rfl) Tryd.func4 (by kernel_rfl)
    (of_decide_eq_true (by kernel_rfl)) (by unfold Func.isWrapper; first | (rw [if_pos (by decide +kernel)]; kernel_rfl) | (rw [if_neg (by decide +kernel)]; exact ⟨rfl, rfl⟩))
    (fun os started H enc _ => few_lifted os started H enc)
theorem few_card : Rows.ColourFewCardSaid :=
  Claim7.holds_tied_plain_at .later [] [.data] true (true, "3dc01f15a731540aeb3bad63498fda4938458450b3483f3d83b3da088dc41856") false
    few_holds (fun _ h => by cases h) (by kernel_rfl) (fun _ h => by cases h) colourFew_row_tie rfl ⟨rfl, rfl⟩ (by kernel_rfl) rfl
    (fun f fn hf hfn => by
      obtain rfl : f = 4 := Option.some.inj ((show Tryd.prog.funcNamed "hackamore/hackamorelaw23.ColourFew" = some 4 by kernel_rfl).symm.trans hf) |>.symm
      obtain rfl : fn = Tryd.f4 := (Option.some.inj (Tryd.func4.symm.trans hfn)).symm
      exact ⟨by kernel_rfl, fun j t ht => by
        rw [Tryd.params4] at ht
        have hm : t ∈ [35, 36] := by simpa using Array.mem_of_getElem? ht
        have hall : ([35, 36].all fun u => !Tryd.prog.wantsStandIn u) = true := by kernel_rfl
        exact (show Tryd.prog.wantsStandIn t = false by simpa using List.all_eq_true.1 hall t hm)⟩)
    (by kernel_rfl)
end Go.Proofs.YtikppcfabnnhfaaDoor
