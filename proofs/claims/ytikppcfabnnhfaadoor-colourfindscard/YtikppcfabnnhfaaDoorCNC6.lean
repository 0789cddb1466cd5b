/- Check: the function. -/
import Derived.Test.YtikppcfabnnhfaaDoorCNC5
namespace Go.Proofs.YtikppcfabnnhfaaDoor
open Go Go.Aw
set_option linter.unusedSimpArgs false
set_option linter.unusedVariables false
set_option maxRecDepth 100000
set_option maxHeartbeats 40000000
theorem check_ev {w : Wd} : E.F 32 [wdV w] [] = some ((.int .i64 (ckM w), []), True) := by
  rw [e32]
  unfold ckM
  by_cases a1 : (200 : Int) < w.classes.length
  · rw [if_pos (.inl a1)]
    simp (maxSteps := 100000000) only [ivc, anf, vop, vlen, vbuiltin, nilR, salloc, eq_self, Nat.reduceEqDiff, Nat.reduceLT, Nat.reduceLeDiff, Nat.reduceAdd, Nat.reduceBEq, Int.reduceLT, reduceCtorEq, ↓reduceIte, tyb, wdV, a1]
  by_cases a2 : (500 : Int) < w.bodies.length
  · rw [if_pos (.inr (.inl a2))]
    simp (maxSteps := 100000000) only [ivc, anf, vop, vlen, vbuiltin, nilR, salloc, eq_self, Nat.reduceEqDiff, Nat.reduceLT, Nat.reduceLeDiff, Nat.reduceAdd, Nat.reduceBEq, Int.reduceLT, reduceCtorEq, ↓reduceIte, tyb, wdV, a1, a2]
  by_cases a3 : (64 : Int) < w.roots.length
  · rw [if_pos (.inr (.inr a3))]
    simp (maxSteps := 100000000) only [ivc, anf, vop, vlen, vbuiltin, nilR, salloc, eq_self, Nat.reduceEqDiff, Nat.reduceLT, Nat.reduceLeDiff, Nat.reduceAdd, Nat.reduceBEq, reduceCtorEq, ↓reduceIte, tyb, wdV, a1, a2, a3]
  rw [if_neg (by omega)]
  have g1 := any67_ev (l := w.classes) (by omega)
  have g2 := any69_ev (l := w.bodies) (by omega)
  by_cases b1 : w.classes.any bigC = true
  · rw [if_pos b1]
    rw [b1] at g1
    simp (maxSteps := 100000000) only [ivc, anf, vop, vlen, vbuiltin, nilR, salloc, eq_self, Nat.reduceEqDiff, Nat.reduceLT, Nat.reduceLeDiff, Nat.reduceAdd, Nat.reduceBEq, reduceCtorEq, ↓reduceIte, tyb, wdV, a1, a2, a3, g1]
  rw [if_neg b1]
  have b1' : w.classes.any bigC = false := by simpa using b1
  rw [b1'] at g1
  by_cases b2 : w.bodies.any bigB = true
  · rw [if_pos b2]
    rw [b2] at g2
    simp (maxSteps := 100000000) only [ivc, anf, vop, vlen, vbuiltin, nilR, salloc, eq_self, Nat.reduceEqDiff, Nat.reduceLT, Nat.reduceLeDiff, Nat.reduceAdd, Nat.reduceBEq, reduceCtorEq, ↓reduceIte, tyb, wdV, a1, a2, a3, g1, g2]
  rw [if_neg b2]
  have b2' : w.bodies.any bigB = false := by simpa using b2
  rw [b2'] at g2
  have s1 : ∀ c ∈ w.classes, c.length ≤ 1000 := fun c hc => by
    have := List.any_eq_false.1 b1' c hc
    simp only [bigC, decide_eq_true_eq] at this
    omega
  have s2 : ∀ b ∈ w.bodies, b.ss.length ≤ 1000 ∧ b.ms.length ≤ 1000 ∧ b.cs.length ≤ 1000 := fun b hb => by
    have := List.any_eq_false.1 b2' b hb
    simp only [bigB, Bool.or_eq_true, decide_eq_true_eq] at this
    omega
  obtain ⟨x9, h9⟩ := ck9_loop (by omega) s1 w.classes [] rfl
  simp only [cV9, wO, wdV, List.length_nil, Int.natCast_zero] at h9
  by_cases c1 : ckCs w.bodies.length w.classes = 0
  · rw [if_neg (by simpa using c1)]
    rw [c1] at h9
    simp only [if_true] at h9
    obtain ⟨x16, h16⟩ := ck16_loop (by omega) s2 w.bodies [] rfl
    simp only [cV16, wO, wdV, List.length_nil, Int.natCast_zero] at h16
    by_cases c2 : w.bodies.any (badB w.bodies.length w.classes.length) = true
    · rw [if_pos c2]
      rw [c2] at h16
      simp only [if_true] at h16
      simp (maxSteps := 100000000) only [ivc, anf, vop, vlen, vbuiltin, nilR, salloc, eq_self, Nat.reduceEqDiff, Nat.reduceLT, Nat.reduceLeDiff, Nat.reduceAdd, Nat.reduceBEq, reduceCtorEq, ↓reduceIte, tyb, wdV, a1, a2, a3, g1, g2, h9, h16]
    · rw [if_neg c2]
      have c2' : w.bodies.any (badB w.bodies.length w.classes.length) = false := by simpa using c2
      rw [c2'] at h16
      simp only [Bool.false_eq_true, if_false] at h16
      have g3 := within_ev (l := w.roots) (n := w.bodies.length) (by omega)
      by_cases c3 : w.roots.all (inR w.bodies.length) = true
      · rw [if_pos c3]
        rw [c3] at g3
        simp (maxSteps := 100000000) only [ivc, anf, vop, vlen, vbuiltin, nilR, salloc, eq_self, Nat.reduceEqDiff, Nat.reduceLT, Nat.reduceLeDiff, Nat.reduceAdd, Nat.reduceBEq, reduceCtorEq, ↓reduceIte, tyb, wdV, a1, a2, a3, g1, g2, g3, h9, h16]
      · rw [if_neg c3]
        have c3' : w.roots.all (inR w.bodies.length) = false := by simpa using c3
        rw [c3'] at g3
        simp (maxSteps := 100000000) only [ivc, anf, vop, vlen, vbuiltin, nilR, salloc, eq_self, Nat.reduceEqDiff, Nat.reduceLT, Nat.reduceLeDiff, Nat.reduceAdd, Nat.reduceBEq, reduceCtorEq, ↓reduceIte, tyb, wdV, a1, a2, a3, g1, g2, g3, h9, h16]
  · rw [if_pos c1]
    rw [if_neg c1] at h9
    simp (maxSteps := 100000000) only [ivc, anf, vop, vlen, vbuiltin, nilR, salloc, eq_self, Nat.reduceEqDiff, Nat.reduceLT, Nat.reduceLeDiff, Nat.reduceAdd, Nat.reduceBEq, reduceCtorEq, ↓reduceIte, tyb, wdV, a1, a2, a3, g1, g2, h9]
end Go.Proofs.YtikppcfabnnhfaaDoor
