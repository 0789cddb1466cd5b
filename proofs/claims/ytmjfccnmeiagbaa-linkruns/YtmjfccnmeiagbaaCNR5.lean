/- LinkRuns: whatever is done to a line, it does what the reference does. No condition. -/
import Derived.Test.YtmjfccnmeiagbaaRows
import Derived.Test.YtmjfccnmeiagbaaCNY4
import Derived.Test.YtmjfccnmeiagbaaCAw5
namespace Go.Proofs.Ytmjfccnmeiagbaa
open Go Go.Aw
set_option maxRecDepth 100000
theorem own : ownKnob Try.prog.godebug = none := by kernel_rfl
theorem laidOut : laidOutB Try.prog = true := by kernel_rfl
theorem act_of {n : Nat} {y : AV} (h : typed Try.prog n 97 y.cells) (he : isE Try.prog 97 y) : ∃ a : Ac, True ∧ y = acV a := by
  obtain ⟨cs, rfl⟩ := isE_struct Try.underlying97 he
  obtain ⟨m', z0, s0, rfl, g0, z1, s1, rfl, g1, z2, s2, rfl, g2, rfl⟩ := typed_struct Try.underlying97 h (ts := [3, 3, 9]) rfl
  obtain ⟨b, _, rfl⟩ := typed_int Try.underlying3 g0
  obtain ⟨c, _, rfl⟩ := typed_int Try.underlying3 g1
  obtain ⟨s, _, rfl⟩ := typed_string Try.underlying9 g2
  exact ⟨⟨b, c, s⟩, trivial, rfl⟩
theorem runs_lifted (os : Os) (started : os.Started) (H : Type) (enc : TypeId × Value → H) :
    ReturnsInHanded {} Try.checked os 5 .any (Rows.linkRunsSpec.pre6 enc Try.prog Try.f5 Rows.linkRunsRow.domain false) (Rows.linkRunsSpec.post enc Try.prog Try.f5 false true false false) := by
  refine returnsInHanded_of_change (C := Try.checked) own started (by kernel_rfl) Try.func5
    (ChangeSpec.witness6 (enc := enc) (C := Try.checked) false ⟨#[], #[.int .i64 0, .slice none 0 0], []⟩ 8 (by kernel_rfl) (by kernel_rfl) (by kernel_rfl) (by kernel_rfl)) ?_
  intro W base args ds gs before hval hW _ _
  refine law_contract (G := G) (A := AN) evok (fun _ => rfl) laidOut (fn := Try.f5) (l := [3, 9, 67, 97]) (by kernel_rfl) (ts := [3, 67]) (by rw [Try.params5]) (by kernel_rfl) (by kernel_rfl) (tb := 4) (by kernel_rfl) Try.underlying4 rfl hval hW (fun ds h => ?_) fun nx hl ht => ?_
  · match ds, h with
    | [a, b], _ => exact ⟨rfl, rfl, rfl⟩
  · match nx, hl with
    | [x, y], _ =>
      obtain ⟨m, _, hx⟩ := typed_int Try.underlying3 (ht 0 3 x rfl rfl)
      obtain ⟨q, es, _, hes, hy⟩ := typed_slice Try.underlying67 (ht 1 67 y rfl rfl)
      obtain ⟨l, _, rfl⟩ := list_map_of (f := acV) (Q := fun _ => True) (fun y hy => act_of (hes y hy).1 (hes y hy).2)
      refine ⟨[], ?_⟩
      have := runs_ev (m := m) (a := l)
      show E.F 5 [argA Try.prog 3 x.2, argA Try.prog 67 y.2] [] = _
      have hc : Try.prog.cellsOf 97 = 3 := by kernel_rfl
      have e1 : argA Try.prog 3 x.2 = .int .i64 m := by rw [hx]; unfold argA; rw [Try.underlying3]; rfl
      have e2 : argA Try.prog 67 y.2 = .ro 3 (l.map acV) := by rw [hy, hc]; unfold argA; rw [Try.underlying67]; rfl
      rw [e1, e2]
      exact this
theorem runs_holds : Rows.LinkRunsSaid :=
  OpenClaim.holds_of_wide 5 Try.f5 rfl rfl rfl rfl rfl rfl rfl ⟨rfl, rfl, rfl, rfl, rfl⟩ rfl rfl rfl rfl rfl (by kernel_rfl) Try.func5 (by kernel_rfl)
    (of_decide_eq_true (by kernel_rfl)) (by unfold Func.isWrapper; first | (rw [if_pos (by decide +kernel)]; kernel_rfl) | (rw [if_neg (by decide +kernel)]; exact ⟨rfl, rfl⟩))
    (fun os started H enc _ => runs_lifted os started H enc)
end Go.Proofs.Ytmjfccnmeiagbaa
