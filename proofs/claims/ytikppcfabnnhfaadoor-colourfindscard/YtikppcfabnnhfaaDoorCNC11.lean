/- Conflicts. -/
import Derived.Test.YtikppcfabnnhfaaDoorCNC10
namespace Go.Proofs.YtikppcfabnnhfaaDoor
open Go Go.Aw
set_option linter.unusedSimpArgs false
set_option linter.unusedVariables false
set_option maxRecDepth 100000
set_option maxHeartbeats 40000000
def pV (p : Int × Int) : AV := .agg [.int .i64 p.1, .int .i64 p.2]
instance rf_p : RowF pV := ⟨fun _ => rfl, fun _ => rfl⟩
def rowI (g : List Int) (a : Int) : Nat → Int → List (Int × Int)
  | 0, _ => []
  | k + 1, b => (if hasW g (nb a) b = true then [(a, b)] else []) ++ rowI g a k (b + 1)
def allI (g : List Int) : Nat → Int → List (Int × Int)
  | 0, _ => []
  | k + 1, a => rowI g a k (a + 1) ++ allI g k (a + 1)
def cfH (g : List Int) (m : List (Int × Int)) : HL := [(60000, gO g), (60001, ⟨false, 2, m.map pV⟩)]
theorem in_loop {g : List Int} (hg : g.length = 4008) {a : Int} (ha : 0 ≤ a ∧ a < 500) : ∀ (k : Nat) (b : Int) (m : List (Int × Int)), b + k = 500 → 0 ≤ b → m.length ≤ 500 * 1000 + b →
    E.L 36 11 [.ptr 60000 0 0, .sl 60001 0 m.length, .int .i64 a, .int .i64 b, .int .i64 a] (cfH g m) = some ((.exit 2, [.ptr 60000 0 0, .sl 60001 0 (m ++ rowI g a k b).length, .int .i64 a, .int .i64 500, .int .i64 a], cfH g (m ++ rowI g a k b)), True) := by
  intro k
  induction k with
  | zero =>
    intro b m h hb hm
    have h' : b = 500 := by omega
    subst h'
    rw [l36_11]
    simp (maxSteps := 100000000) only [ivc, anf, nilR, eq_self, Nat.reduceEqDiff, Nat.reduceLT, Nat.reduceLeDiff, Nat.reduceAdd, Nat.reduceBEq, Int.reduceLT, reduceCtorEq, ↓reduceIte, tyb, cfH, gO, ldb, rowI]
  | succ k ih =>
    intro b m h hb hm
    have q1 : (0 ≤ a ∧ a < 500) = True := eq_true ha
    have q2 : b < 500 := by omega
    have hw : IntKind.i64.wrap (b + 1) = b + 1 := wrap_id (by omega) (by omega)
    have c := hasr_ev (l := g) (c := nb a) (n := b) (by omega) (by omega) (by unfold nb; omega)
    simp only [nb] at c
    by_cases h1 : hasW g (nb a) b = true
    · have ih' := ih (b + 1) (m ++ [(a, b)]) (by omega) (by omega) (by simp; omega)
      simp only [cfH, gO, List.map_append, List.map_cons, List.map_nil, List.length_append, List.length_cons, List.length_nil, Nat.zero_add, pV, List.append_assoc, List.cons_append, List.nil_append] at ih'
      rw [l36_11]
      simp only [nb] at h1
      rw [h1] at c
      simp (maxSteps := 100000000) only [ivc, anf, vop, nilR, salloc, sappend, eq_self, Nat.reduceEqDiff, Nat.reduceLT, Nat.reduceLeDiff, Nat.reduceAdd, Nat.reduceMul, Nat.reduceBEq, reduceCtorEq, ↓reduceIte, tyb, cfH, gO, pV, ldb, agg_imm, rowI, q1, q2, hw, c, h1, ih', nb]
      exact some_true (by omega)
    · have ih' := ih (b + 1) m (by omega) (by omega) (by omega)
      have h1' : hasW g (nb a) b = false := by simpa using h1
      simp only [cfH, gO] at ih'
      rw [l36_11]
      simp only [nb] at h1'
      rw [h1'] at c
      simp (maxSteps := 100000000) only [ivc, anf, vop, nilR, eq_self, Nat.reduceEqDiff, Nat.reduceLT, Nat.reduceLeDiff, Nat.reduceAdd, Nat.reduceBEq, reduceCtorEq, ↓reduceIte, tyb, cfH, gO, ldb, agg_imm, rowI, q1, q2, hw, c, h1', ih', nb]
theorem rowI_len (g : List Int) (a : Int) : ∀ (k : Nat) (b : Int), (rowI g a k b).length ≤ k := by
  intro k
  induction k with
  | zero => intro b; exact Nat.le_refl 0
  | succ k ih =>
    intro b
    have := ih (b + 1)
    rw [rowI, List.length_append]
    split <;> simp <;> omega
theorem out_loop {g : List Int} (hg : g.length = 4008) : ∀ (k : Nat) (a : Int) (m : List (Int × Int)), a + k = 500 → 0 ≤ a → m.length ≤ 500 * a →
    E.L 36 8 [.ptr 60000 0 0, .sl 60001 0 m.length, .int .i64 a] (cfH g m) = some ((.exit 0, [.ptr 60000 0 0, .sl 60001 0 (m ++ allI g k a).length, .int .i64 500], cfH g (m ++ allI g k a)), True) := by
  intro k
  induction k with
  | zero =>
    intro a m h ha hm
    have h' : a = 500 := by omega
    subst h'
    rw [l36_8]
    simp (maxSteps := 100000000) only [ivc, anf, nilR, eq_self, Nat.reduceEqDiff, Nat.reduceLT, Nat.reduceLeDiff, Nat.reduceAdd, Nat.reduceBEq, Int.reduceLT, reduceCtorEq, ↓reduceIte, tyb, cfH, gO, ldb, allI]
  | succ k ih =>
    intro a m h ha hm
    have q2 : a < 500 := by omega
    have hw : IntKind.i64.wrap (a + 1) = a + 1 := wrap_id (by omega) (by omega)
    have c := in_loop hg (a := a) ⟨ha, q2⟩ k (a + 1) m (by omega) (by omega) (by omega)
    have ih' := ih (a + 1) (m ++ rowI g a k (a + 1)) (by omega) (by omega) (by have := rowI_len g a k (a + 1); simp; omega)
    simp only [cfH, gO, List.length_append, List.map_append, List.append_assoc] at ih' c
    rw [l36_8]
    simp (maxSteps := 100000000) only [ivc, anf, nilR, eq_self, Nat.reduceEqDiff, Nat.reduceLT, Nat.reduceLeDiff, Nat.reduceAdd, Nat.reduceBEq, reduceCtorEq, ↓reduceIte, tyb, cfH, gO, ldb, allI, q2, hw, c, ih']
def cfM (g : List Int) : List (Int × Int) := allI g 500 0
theorem cf_loop {g : List Int} (hg : g.length = 4008) : E.L 36 8 [.ptr 60000 0 0, .sl 60001 0 0, .int .i64 0] (cfH g []) = some ((.exit 0, [.ptr 60000 0 0, .sl 60001 0 (cfM g).length, .int .i64 500], cfH g (cfM g)), True) := by
  have h := out_loop hg 500 0 [] (by omega) (by omega) (by simp)
  rw [List.nil_append] at h
  exact h
theorem graphM_len {cs : List (List Et)} : ∀ {g : List Int}, (graphM cs g).length = g.length := by
  induction cs with
  | nil => intro g; rfl
  | cons c cs ih => intro g; simp only [graphM, List.foldl_cons] at ih ⊢; rw [ih, entsM_len]
theorem graphW_len {w : Wd} : (graphW w).length = 4008 := by rw [graphW, graphM_len, zs_len]
theorem conf_ev {w : Wd} (ok : ckM w = 0 → okW w) : E.F 36 [wdV w] [] = some ((if ckM w = 0 then .tup [.ro 2 ((cfM (graphW w)).map pV), .int .i64 0] else .tup [.ro 2 [], .int .i64 (ckM w)], []), True) := by
  have h1 := check_ev (w := w)
  rw [e36]
  by_cases h : ckM w = 0
  · rw [if_pos h]
    rw [h] at h1
    have h2 := graph_ev (ok h)
    have h3 := cf_loop (g := graphW w) graphW_len
    simp only [wdV] at h1 h2
    simp only [cfH, gO, List.map_nil] at h2 h3
    simp (maxSteps := 100000000) only [ivc, anf, nilR, salloc, eq_self, Nat.reduceEqDiff, Nat.reduceLT, Nat.reduceLeDiff, Nat.reduceAdd, Nat.reduceMul, Nat.reduceBEq, reduceCtorEq, ↓reduceIte, tyb, wdV, ldb, h1, h2, h3]
  · rw [if_neg h]
    have h' : (ckM w != 0) = true := by simp [h]
    simp only [wdV] at h1
    simp (maxSteps := 100000000) only [ivc, anf, nilR, salloc, eq_self, Nat.reduceEqDiff, Nat.reduceLT, Nat.reduceLeDiff, Nat.reduceAdd, Nat.reduceBEq, ↓reduceIte, tyb, wdV, h1, h']
end Go.Proofs.YtikppcfabnnhfaaDoor
