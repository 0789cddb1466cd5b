/- ColourFinds: by the colours of a world, and the vector of Pack, Lookup is the method of the entry for each class and each selector up to 2 more than there are, and -1 without one; no place has a slot of two classes; for worlds as the statement's guard lets them in. The package's table math/bits.deBruijn64tab is as the program's text lays it. -/
import Derived.Test.YtikppcfabnnhfaaDoorCNR0
import Derived.Test.YtikppcfabnnhfaaDoorCNC34
namespace Go.Proofs.YtikppcfabnnhfaaDoor
open Go Go.Aw
set_option maxRecDepth 100000
theorem finds_lifted (os : Os) (started : os.Started) (H : Type) (enc : TypeId × Value → H) :
    ReturnsInHanded {} Tryd.checked os 7 .any (fun w args => (Rows.colourFindsSpec.pre enc Tryd.prog Tryd.f7 [] false w args ∧ laidMetH Tryd.prog laidL w) ∧ sizedMet enc Tryd.prog Tryd.f7 (OpenSpec.ofChange Rows.colourFindsSpec) false w args)
      (Rows.colourFindsSpec.post enc Tryd.prog Tryd.f7 false true false false) := by
  refine returnsInHanded_of_change_and (C := Tryd.checked) (X := fun w _ => laidMetH Tryd.prog laidL w) (fun _ _ _ hh h => h.of_heap hh) own started (by kernel_rfl) Tryd.func7
    (ChangeSpec.witness_shaped (enc := enc) (C := Tryd.checked) (os := os) (X := fun w _ => laidMetH Tryd.prog laidL w) false (World.doorLaid Tryd.prog 400 os) #[.agg #[.slice none 0 0, .slice none 0 0, .slice none 0 0]] 8 rfl (World.shaped_of_RefB (by kernel_rfl) (by kernel_rfl)) (by kernel_rfl) (by kernel_rfl) (by kernel_rfl) (door_met os _)) ?_
  intro W base args ds gs before hval hW _ hsz hL _
  refine law_contractG (G := G) (A := ANL) evokL laidOut (fn := Tryd.f7) (l := [35, 32, 33, 23, 36, 71, 83, 3, 5]) (by kernel_rfl) (ts := [35]) (by rw [Tryd.params7]) (by kernel_rfl) (by kernel_rfl) (tb := 4) (by kernel_rfl) Tryd.underlying4 rfl (tab_laid hL) hval hW hsz (fun ds h => ?_) fun nx hl ht => ?_
  · match ds, h with
    | [a], _ => exact ⟨rfl, rfl, rfl⟩
  · match nx, hl with
    | [a], _ =>
      obtain ⟨wa, hia, hra, ha⟩ := world_of (ht 0 35 a rfl rfl)
      refine ⟨[], ?_⟩
      have := finds_ev hia
      show EL.F 7 [argA Tryd.prog 35 a.2] [] = _
      simp only [argA, Tryd.underlying35, List.getD_cons_zero]
      rw [ha]
      exact this
theorem finds_holds : Rows.ColourFindsSaid :=
  OpenClaim.holds_of_wide 7 Tryd.f7 rfl rfl rfl rfl rfl rfl rfl ⟨rfl, rfl, rfl, rfl, rfl⟩ rfl rfl rfl rfl rfl (by kernel_rfl) Tryd.func7 (by kernel_rfl)
    (of_decide_eq_true (by kernel_rfl)) (by unfold Func.isWrapper; first | (rw [if_pos (by decide +kernel)]; kernel_rfl) | (rw [if_neg (by decide +kernel)]; exact ⟨rfl, rfl⟩))
    (fun os started H enc _ => finds_lifted os started H enc)
theorem finds_card : Rows.ColourFindsCardSaid :=
  Claim7.holds_tied_plain_at .later [] [.data] true (true, "3dc01f15a731540aeb3bad63498fda4938458450b3483f3d83b3da088dc41856") false
    finds_holds (fun _ h => by cases h) (by kernel_rfl) (fun _ h => by cases h) colourFinds_row_tie rfl ⟨rfl, rfl⟩ (by kernel_rfl) rfl
    (fun f fn hf hfn => by
      obtain rfl : f = 7 := Option.some.inj ((show Tryd.prog.funcNamed "hackamore/hackamorelaw23.ColourFinds" = some 7 by kernel_rfl).symm.trans hf) |>.symm
      obtain rfl : fn = Tryd.f7 := (Option.some.inj (Tryd.func7.symm.trans hfn)).symm
      exact ⟨by kernel_rfl, fun j t ht => by
        rw [Tryd.params7] at ht
        have hm : t ∈ [35] := by simpa using Array.mem_of_getElem? ht
        have hall : ([35].all fun u => !Tryd.prog.wantsStandIn u) = true := by kernel_rfl
        exact (show Tryd.prog.wantsStandIn t = false by simpa using List.all_eq_true.1 hall t hm)⟩)
    (by kernel_rfl)
end Go.Proofs.YtikppcfabnnhfaaDoor
