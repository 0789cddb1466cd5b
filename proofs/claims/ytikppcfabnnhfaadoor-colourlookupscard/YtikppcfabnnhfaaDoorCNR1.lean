/- ColourLookups: Lookup of the program answers as the reference's does, for any vector, offsets and colours of up to 100 each, any class and selector. The package's table math/bits.deBruijn64tab is as the program's text lays it. -/
import Derived.Test.YtikppcfabnnhfaaDoorCNR0
import Derived.Test.YtikppcfabnnhfaaDoorCNC29
namespace Go.Proofs.YtikppcfabnnhfaaDoor
open Go Go.Aw
set_option maxRecDepth 100000
theorem lookups_lifted (os : Os) (started : os.Started) (H : Type) (enc : TypeId × Value → H) :
    ReturnsInHanded {} Tryd.checked os 3 .any (fun w args => (Rows.colourLookupsSpec.pre enc Tryd.prog Tryd.f3 [] false w args ∧ laidMetH Tryd.prog laidL w) ∧ sizedMet enc Tryd.prog Tryd.f3 (OpenSpec.ofChange Rows.colourLookupsSpec) false w args)
      (Rows.colourLookupsSpec.post enc Tryd.prog Tryd.f3 false true false false) := by
  refine returnsInHanded_of_change_and (C := Tryd.checked) (X := fun w _ => laidMetH Tryd.prog laidL w) (fun _ _ _ hh h => h.of_heap hh) own started (by kernel_rfl) Tryd.func3
    (ChangeSpec.witness_shaped (enc := enc) (C := Tryd.checked) (os := os) (X := fun w _ => laidMetH Tryd.prog laidL w) false (World.doorLaid Tryd.prog 400 os) #[.slice none 0 0, .slice none 0 0, .slice none 0 0, .int .i64 0, .int .i64 0] 8 rfl (World.shaped_of_RefB (by kernel_rfl) (by kernel_rfl)) (by kernel_rfl) (by kernel_rfl) (by kernel_rfl) (door_met os _)) ?_
  intro W base args ds gs before hval hW _ hsz hL _
  refine law_contractG (G := G) (A := ANL) evokL laidOut (fn := Tryd.f3) (l := [22, 23, 3, 27]) (by kernel_rfl) (ts := [22, 23, 23, 3, 3]) (by rw [Tryd.params3]) (by kernel_rfl) (by kernel_rfl) (tb := 4) (by kernel_rfl) Tryd.underlying4 rfl (tab_laid hL) hval hW hsz (fun ds h => ?_) fun nx hl ht => ?_
  · match ds, h with
    | [a, b, c, d, e], _ => exact ⟨rfl, rfl, rfl⟩
  · match nx, hl with
    | [a, b, c, d, e], _ =>
      obtain ⟨v, _, _, _, ha⟩ := pairs_of Tryd.underlying22 Tryd.underlying27 rfl (by kernel_rfl) (by kernel_rfl) (ht 0 22 a rfl rfl)
      obtain ⟨o, wo, _, _, hb⟩ := ints_of (ht 1 23 b rfl rfl)
      obtain ⟨l, wl, _, _, hc⟩ := ints_of (ht 2 23 c rfl rfl)
      obtain ⟨x, _, hd⟩ := int_of (ht 3 3 d rfl rfl)
      obtain ⟨s, _, he⟩ := int_of (ht 4 3 e rfl rfl)
      refine ⟨[], ?_⟩
      have := lookups_ev (v := v) (c := x) (s := s) wo wl
      show EL.F 3 [argA Tryd.prog 22 a.2, argA Tryd.prog 23 b.2, argA Tryd.prog 23 c.2, argA Tryd.prog 3 d.2, argA Tryd.prog 3 e.2] [] = _
      rw [ha, hb, hc, hd, he]
      simp only [argA, Tryd.underlying22, Tryd.underlying23, Tryd.underlying3, List.getD_cons_zero]
      exact this
theorem lookups_holds : Rows.ColourLookupsSaid :=
  OpenClaim.holds_of_wide 3 Tryd.f3 rfl rfl rfl rfl rfl rfl rfl ⟨rfl, rfl, rfl, rfl, rfl⟩ rfl rfl rfl rfl rfl (by kernel_rfl) Tryd.func3 (by kernel_rfl)
    (of_decide_eq_true (by kernel_rfl)) (by unfold Func.isWrapper; first | (rw [if_pos (by decide +kernel)]; kernel_rfl) | (rw [if_neg (by decide +kernel)]; exact ⟨rfl, rfl⟩))
    (fun os started H enc _ => lookups_lifted os started H enc)
theorem lookups_card : Rows.ColourLookupsCardSaid :=
  Claim7.holds_tied_plain_at .later [] [.data] true (true, "3dc01f15a731540aeb3bad63498fda4938458450b3483f3d83b3da088dc41856") false
    lookups_holds (fun _ h => by cases h) (by kernel_rfl) (fun _ h => by cases h) colourLookups_row_tie rfl ⟨rfl, rfl⟩ (by kernel_rfl) rfl
    (fun f fn hf hfn => by
      obtain rfl : f = 3 := Option.some.inj ((show Tryd.prog.funcNamed "hackamore/hackamorelaw23.ColourLookups" = some 3 by kernel_rfl).symm.trans hf) |>.symm
      obtain rfl : fn = Tryd.f3 := (Option.some.inj (Tryd.func3.symm.trans hfn)).symm
      exact ⟨by kernel_rfl, fun j t ht => by
        rw [Tryd.params3] at ht
        have hm : t ∈ [22, 23, 23, 3, 3] := by simpa using Array.mem_of_getElem? ht
        have hall : ([22, 23, 23, 3, 3].all fun u => !Tryd.prog.wantsStandIn u) = true := by kernel_rfl
        exact (show Tryd.prog.wantsStandIn t = false by simpa using List.all_eq_true.1 hall t hm)⟩)
    (by kernel_rfl)
end Go.Proofs.YtikppcfabnnhfaaDoor
