/- LinkNil: a nil end and a nil line answer ErrArg, or nothing, whatever act and frame they are given; the example of the package holds. No condition. -/
import Derived.Test.YtmjfccnmeiagbaaRows
import Derived.Test.YtmjfccnmeiagbaaCNT4
import Derived.Test.YtmjfccnmeiagbaaCAw5
namespace Go.Proofs.Ytmjfccnmeiagbaa
open Go Go.Aw
set_option maxRecDepth 100000
theorem own : ownKnob Try.prog.godebug = none := by kernel_rfl
theorem laidOut : laidOutB Try.prog = true := by kernel_rfl
theorem frame_of {n : Nat} {t : TypeId} {fs : Array Field} {xs : List AV} (hu : Try.prog.underlying t = some (.struct fs)) (hts : fs.toList.map (·.type) = [3, 3, 9]) (h : typed Try.prog n t xs) :
    ∃ (a b : Int) (s : ByteArray), (Lit.int .i64 a).wf = true ∧ (Lit.int .i64 b).wf = true ∧ s.size ≤ maxLen ∧ xs = [.int .i64 a, .int .i64 b, .str s] := by
  obtain ⟨m, y0, r0, rfl, h0, y1, r1, rfl, h1, y2, r2, rfl, h2, rfl⟩ := typed_struct hu h hts
  obtain ⟨a, wa, rfl⟩ := typed_int Try.underlying3 h0
  obtain ⟨b, wb, rfl⟩ := typed_int Try.underlying3 h1
  obtain ⟨s, ws, rfl⟩ := typed_string Try.underlying9 h2
  exact ⟨a, b, s, wa, wb, ws, rfl⟩
theorem arg_struct {t : TypeId} {fs : Array Field} (hu : Try.prog.underlying t = some (.struct fs)) (xs : List AV) : argA Try.prog t xs = .agg xs := by unfold argA; rw [hu]
theorem nil_lifted (os : Os) (started : os.Started) (H : Type) (enc : TypeId × Value → H) :
    ReturnsInHanded {} Try.checked os 7 .any (Rows.linkNilSpec.pre6 enc Try.prog Try.f7 Rows.linkNilRow.domain false) (Rows.linkNilSpec.post enc Try.prog Try.f7 false true false false) := by
  refine returnsInHanded_of_change (C := Try.checked) own started (by kernel_rfl) Try.func7
    (ChangeSpec.witness6 (enc := enc) (C := Try.checked) false ⟨#[], #[.agg #[.int .i64 0, .int .i64 0, .string ⟨#[]⟩], .agg #[.int .i64 0, .int .i64 0, .string ⟨#[]⟩]], []⟩ 8 (by kernel_rfl) (by kernel_rfl) (by kernel_rfl) (by kernel_rfl)) ?_
  intro W base args ds gs before hval hW _ _
  refine law_contract (G := G) (A := AN) evok (fun _ => rfl) laidOut (fn := Try.f7) (l := [3, 9, 78, 49]) (by kernel_rfl) (ts := [78, 49]) (by rw [Try.params7]) (by kernel_rfl) (by kernel_rfl) (tb := 4) (by kernel_rfl) Try.underlying4 rfl hval hW (fun ds h => ?_) fun nx hl ht => ?_
  · match ds, h with
    | [a, b], _ => exact ⟨rfl, rfl, rfl⟩
  · match nx, hl with
    | [x, y], _ =>
      obtain ⟨a, b, s, _, _, _, hx⟩ := frame_of Try.underlying78 rfl (ht 0 78 x rfl rfl)
      obtain ⟨a', b', s', _, _, _, hy⟩ := frame_of Try.underlying49 rfl (ht 1 49 y rfl rfl)
      refine ⟨[], ?_⟩
      have := nil_ev a b a' b' s s'
      show E.F 7 [argA Try.prog 78 x.2, argA Try.prog 49 y.2] [] = _
      rw [arg_struct Try.underlying78, arg_struct Try.underlying49, hx, hy]
      exact this
theorem nil_holds : Rows.LinkNilSaid :=
  OpenClaim.holds_of_wide 7 Try.f7 rfl rfl rfl rfl rfl rfl rfl ⟨rfl, rfl, rfl, rfl, rfl⟩ rfl rfl rfl rfl rfl (by kernel_rfl) Try.func7 (by kernel_rfl)
    (of_decide_eq_true (by kernel_rfl)) (by unfold Func.isWrapper; first | (rw [if_pos (by decide +kernel)]; kernel_rfl) | (rw [if_neg (by decide +kernel)]; exact ⟨rfl, rfl⟩))
    (fun os started H enc _ => nil_lifted os started H enc)
end Go.Proofs.Ytmjfccnmeiagbaa
