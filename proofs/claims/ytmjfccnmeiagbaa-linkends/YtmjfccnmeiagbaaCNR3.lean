/- LinkEnds: an end answers any calls as the reference does. No condition. -/
import Derived.Test.YtmjfccnmeiagbaaRows
import Derived.Test.YtmjfccnmeiagbaaCNW2
import Derived.Test.YtmjfccnmeiagbaaCAw5
namespace Go.Proofs.Ytmjfccnmeiagbaa
open Go Go.Aw
set_option maxRecDepth 100000
theorem own : ownKnob Try.prog.godebug = none := by kernel_rfl
theorem laidOut : laidOutB Try.prog = true := by kernel_rfl
theorem move_of {n : Nat} {y : AV} (h : typed Try.prog n 36 y.cells) (he : isE Try.prog 36 y) : ∃ a : Mv, 0 ≤ a.k ∧ y = mvV a := by
  obtain ⟨cs, rfl⟩ := isE_struct Try.underlying36 he
  obtain ⟨m, y0, r0, rfl, h0, y1, r1, rfl, h1, rfl⟩ := typed_struct Try.underlying36 h (ts := [5, 34]) rfl
  obtain ⟨a, wa, rfl⟩ := typed_int Try.underlying5 h0
  obtain ⟨m', z0, s0, rfl, g0, z1, s1, rfl, g1, z2, s2, rfl, g2, rfl⟩ := typed_struct Try.underlying34 h1 (ts := [3, 3, 9]) rfl
  obtain ⟨b, _, rfl⟩ := typed_int Try.underlying3 g0
  obtain ⟨c, _, rfl⟩ := typed_int Try.underlying3 g1
  obtain ⟨s, _, rfl⟩ := typed_string Try.underlying9 g2
  refine ⟨⟨a, ⟨b, c, s⟩⟩, ?_, rfl⟩
  have h8 : IntKind.u8.min = 0 := by kernel_rfl
  simp [Lit.wf] at wa
  show 0 ≤ a
  omega
theorem ends_lifted (os : Os) (started : os.Started) (H : Type) (enc : TypeId × Value → H) :
    ReturnsInHanded {} Try.checked os 3 .any (Rows.linkEndsSpec.pre6 enc Try.prog Try.f3 Rows.linkEndsRow.domain false) (Rows.linkEndsSpec.post enc Try.prog Try.f3 false true false false) := by
  refine returnsInHanded_of_change (C := Try.checked) own started (by kernel_rfl) Try.func3
    (ChangeSpec.witness6 (enc := enc) (C := Try.checked) false ⟨#[], #[.int .i64 0, .slice none 0 0], []⟩ 8 (by kernel_rfl) (by kernel_rfl) (by kernel_rfl) (by kernel_rfl)) ?_
  intro W base args ds gs before hval hW _ _
  refine law_contract (G := G) (A := AN) evok (fun _ => rfl) laidOut (fn := Try.f3) (l := [3, 5, 9, 22, 34, 36]) (by kernel_rfl) (ts := [3, 22]) (by rw [Try.params3]) (by kernel_rfl) (by kernel_rfl) (tb := 4) (by kernel_rfl) Try.underlying4 rfl hval hW (fun ds h => ?_) fun nx hl ht => ?_
  · match ds, h with
    | [a, b], _ => exact ⟨rfl, rfl, rfl⟩
  · match nx, hl with
    | [x, y], _ =>
      obtain ⟨m, _, hx⟩ := typed_int Try.underlying3 (ht 0 3 x rfl rfl)
      obtain ⟨q, es, _, hes, hy⟩ := typed_slice Try.underlying22 (ht 1 22 y rfl rfl)
      obtain ⟨l, hl, rfl⟩ := list_map_of (f := mvV) (Q := fun a => 0 ≤ a.k) (fun y hy => move_of (hes y hy).1 (hes y hy).2)
      refine ⟨[], ?_⟩
      have := ends_ev (m := m) hl
      show E.F 3 [argA Try.prog 3 x.2, argA Try.prog 22 y.2] [] = _
      have hc : Try.prog.cellsOf 36 = 4 := by kernel_rfl
      have e1 : argA Try.prog 3 x.2 = .int .i64 m := by rw [hx]; unfold argA; rw [Try.underlying3]; rfl
      have e2 : argA Try.prog 22 y.2 = .ro 4 (l.map mvV) := by rw [hy, hc]; unfold argA; rw [Try.underlying22]; rfl
      rw [e1, e2]
      exact this
theorem ends_holds : Rows.LinkEndsSaid :=
  OpenClaim.holds_of_wide 3 Try.f3 rfl rfl rfl rfl rfl rfl rfl ⟨rfl, rfl, rfl, rfl, rfl⟩ rfl rfl rfl rfl rfl (by kernel_rfl) Try.func3 (by kernel_rfl)
    (of_decide_eq_true (by kernel_rfl)) (by unfold Func.isWrapper; first | (rw [if_pos (by decide +kernel)]; kernel_rfl) | (rw [if_neg (by decide +kernel)]; exact ⟨rfl, rfl⟩))
    (fun os started H enc _ => ends_lifted os started H enc)
end Go.Proofs.Ytmjfccnmeiagbaa
