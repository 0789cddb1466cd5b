/- A framework of the hand for programs over the model: abstract values, an interpreter, that it is sound. Own work. -/
import Derived.Test.YtmjfccnmeiagbaaCAw4
/- Types of what comes in, taken apart. Own work. -/
namespace Go.Aw
open Go
def typedL (P : Program) (n : Nat) : List TypeId → List AV → Prop
  | [], xs => xs = []
  | t :: ts, xs => ∃ y r, xs = y ++ r ∧ typed P n t y ∧ typedL P n ts r
theorem typedL_of {P : Program} {n : Nat} : ∀ {fs : List Field} {xss : List (List AV)}, xss.length = fs.length → (∀ (i : Nat) (f : Field) (ys : List AV), fs[i]? = some f → xss[i]? = some ys → typed P n f.type ys) → typedL P n (fs.map (·.type)) xss.flatten
  | [], xss, h, _ => by
    have : xss = [] := List.eq_nil_of_length_eq_zero h
    subst this; rfl
  | f :: fs, [], h, _ => by cases h
  | f :: fs, y :: xss, h, ht => ⟨y, xss.flatten, rfl, ht 0 f y rfl rfl, typedL_of (by simpa using h) fun i g ys hg hy => ht (i + 1) g ys (by simpa using hg) (by simpa using hy)⟩
theorem typed_struct {P : Program} {n : Nat} {t : TypeId} {fs : Array Field} {xs : List AV} (hu : P.underlying t = some (.struct fs)) (h : typed P n t xs) {ts : List TypeId} (hts : fs.toList.map (·.type) = ts) : ∃ m, typedL P m ts xs := by
  cases n with
  | zero => exact h.elim
  | succ n =>
    simp only [typed, hu] at h
    obtain ⟨xss, rfl, h1, h2⟩ := h
    exact ⟨n, hts ▸ typedL_of h1 h2⟩
theorem typed_int {P : Program} {n : Nat} {t : TypeId} {k : IntKind} {xs : List AV} (hu : P.underlying t = some (.int k)) (h : typed P n t xs) : ∃ m : Int, (Lit.int k m).wf = true ∧ xs = [.int k m] := by
  cases n with
  | zero => exact h.elim
  | succ n => simp only [typed, hu] at h; exact h
theorem typed_bool {P : Program} {n : Nat} {t : TypeId} {xs : List AV} (hu : P.underlying t = some .bool) (h : typed P n t xs) : ∃ b, xs = [.bool b] := by
  cases n with
  | zero => exact h.elim
  | succ n => simp only [typed, hu] at h; exact h
theorem typed_string {P : Program} {n : Nat} {t : TypeId} {xs : List AV} (hu : P.underlying t = some .string) (h : typed P n t xs) : ∃ s : ByteArray, s.size ≤ maxLen ∧ xs = [.str s] := by
  cases n with
  | zero => exact h.elim
  | succ n => simp only [typed, hu] at h; exact h
theorem typed_slice {P : Program} {n : Nat} {t e : TypeId} {xs : List AV} (hu : P.underlying t = some (.slice e)) (h : typed P n t xs) : ∃ (m : Nat) (es : List AV), es.length ≤ maxLen ∧ (∀ y ∈ es, typed P m e y.cells ∧ isE P e y) ∧ xs = [.ro (P.cellsOf e) es] := by
  cases n with
  | zero => exact h.elim
  | succ n => simp only [typed, hu] at h; exact ⟨n, h⟩
theorem isE_struct {P : Program} {e : TypeId} {fs : Array Field} {y : AV} (hu : P.underlying e = some (.struct fs)) (h : isE P e y) : ∃ cs, y = .agg cs := by
  unfold isE at h; rw [hu] at h; exact h
theorem list_map_of {α : Type} {f : α → AV} {Q : α → Prop} : ∀ {es : List AV}, (∀ y ∈ es, ∃ a, Q a ∧ y = f a) → ∃ l : List α, (∀ a ∈ l, Q a) ∧ es = l.map f
  | [], _ => ⟨[], by simp, rfl⟩
  | y :: es, h => by
    obtain ⟨a, h1, rfl⟩ := h y (by simp)
    obtain ⟨l, h2, rfl⟩ := list_map_of (es := es) fun z hz => h z (by simp [hz])
    exact ⟨a :: l, by simpa using ⟨h1, h2⟩, rfl⟩
end Go.Aw

