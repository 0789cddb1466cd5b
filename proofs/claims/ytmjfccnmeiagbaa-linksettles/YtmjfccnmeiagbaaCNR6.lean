/- LinkSettles: whatever was done, if the line is connected and all frames are carried, both ends have all that was sent, and hold nothing. No condition. -/
import Derived.Test.YtmjfccnmeiagbaaRows
import Derived.Test.YtmjfccnmeiagbaaCNS5
import Derived.Test.YtmjfccnmeiagbaaCAw5
namespace Go.Proofs.Ytmjfccnmeiagbaa
open Go Go.Aw
set_option maxRecDepth 100000
theorem own : ownKnob Try.prog.godebug = none := by kernel_rfl
theorem laidOut : laidOutB Try.prog = true := by kernel_rfl
theorem act_of {n : Nat} {y : AV} (h : typed Try.prog n 78 y.cells) (he : isE Try.prog 78 y) : ∃ a : Ac, True ∧ y = acV a := by
  obtain ⟨cs, rfl⟩ := isE_struct Try.underlying78 he
  obtain ⟨m', z0, s0, rfl, g0, z1, s1, rfl, g1, z2, s2, rfl, g2, rfl⟩ := typed_struct Try.underlying78 h (ts := [3, 3, 9]) rfl
  obtain ⟨b, _, rfl⟩ := typed_int Try.underlying3 g0
  obtain ⟨c, _, rfl⟩ := typed_int Try.underlying3 g1
  obtain ⟨s, _, rfl⟩ := typed_string Try.underlying9 g2
  exact ⟨⟨b, c, s⟩, trivial, rfl⟩
theorem settles_lifted (os : Os) (started : os.Started) (H : Type) (enc : TypeId × Value → H) :
    ReturnsInHanded {} Try.checked os 6 .any (Rows.linkSettlesSpec.pre6 enc Try.prog Try.f6 Rows.linkSettlesRow.domain false) (Rows.linkSettlesSpec.post enc Try.prog Try.f6 false true false false) := by
  refine returnsInHanded_of_change (C := Try.checked) own started (by kernel_rfl) Try.func6
    (ChangeSpec.witness6 (enc := enc) (C := Try.checked) false ⟨#[], #[.int .u8 0, .slice none 0 0], []⟩ 8 (by kernel_rfl) (by kernel_rfl) (by kernel_rfl) (by kernel_rfl)) ?_
  intro W base args ds gs before hval hW _ _
  refine law_contract (G := G) (A := AN) evok (fun _ => rfl) laidOut (fn := Try.f6) (l := [3, 5, 9, 58, 78]) (by kernel_rfl) (ts := [5, 58]) (by rw [Try.params6]) (by kernel_rfl) (by kernel_rfl) (tb := 4) (by kernel_rfl) Try.underlying4 rfl hval hW (fun ds h => ?_) fun nx hl ht => ?_
  · match ds, h with
    | [a, b], _ => exact ⟨rfl, rfl, rfl⟩
  · match nx, hl with
    | [x, y], _ =>
      obtain ⟨m, wm, hx⟩ := typed_int Try.underlying5 (ht 0 5 x rfl rfl)
      obtain ⟨q, es, _, hes, hy⟩ := typed_slice Try.underlying58 (ht 1 58 y rfl rfl)
      obtain ⟨l, _, rfl⟩ := list_map_of (f := acV) (Q := fun _ => True) (fun y hy => act_of (hes y hy).1 (hes y hy).2)
      have hm : 0 ≤ m ∧ m ≤ 255 := by
        have h8 : IntKind.u8.min = 0 := by kernel_rfl
        have h9 : IntKind.u8.max = 255 := by kernel_rfl
        simp [Lit.wf] at wm
        omega
      refine ⟨[], ?_⟩
      have := settles_ev (x := m) (a := l) hm.1 hm.2
      show E.F 6 [argA Try.prog 5 x.2, argA Try.prog 58 y.2] [] = _
      have hc : Try.prog.cellsOf 78 = 3 := by kernel_rfl
      have e1 : argA Try.prog 5 x.2 = .int .u8 m := by rw [hx]; unfold argA; rw [Try.underlying5]; rfl
      have e2 : argA Try.prog 58 y.2 = .ro 3 (l.map acV) := by rw [hy, hc]; unfold argA; rw [Try.underlying58]; rfl
      rw [e1, e2]
      exact this
theorem settles_holds : Rows.LinkSettlesSaid :=
  OpenClaim.holds_of_wide 6 Try.f6 rfl rfl rfl rfl rfl rfl rfl ⟨rfl, rfl, rfl, rfl, rfl⟩ rfl rfl rfl rfl rfl (by kernel_rfl) Try.func6 (by kernel_rfl)
    (of_decide_eq_true (by kernel_rfl)) (by unfold Func.isWrapper; first | (rw [if_pos (by decide +kernel)]; kernel_rfl) | (rw [if_neg (by decide +kernel)]; exact ⟨rfl, rfl⟩))
    (fun os started H enc _ => settles_lifted os started H enc)
end Go.Proofs.Ytmjfccnmeiagbaa
