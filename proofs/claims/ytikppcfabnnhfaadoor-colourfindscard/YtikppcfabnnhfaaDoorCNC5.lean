/- Check: all. -/
import Derived.Test.YtikppcfabnnhfaaDoorCNC4
namespace Go.Proofs.YtikppcfabnnhfaaDoor
open Go Go.Aw
set_option linter.unusedSimpArgs false
set_option linter.unusedVariables false
set_option maxRecDepth 100000
set_option maxHeartbeats 40000000
def ckCs (nb : Int) : List (List Et) → Int
  | [] => 0
  | c :: r => if ckC nb none c = 0 then ckCs nb r else ckC nb none c
def badB (nb nc : Int) (b : Bd) : Bool := !(b.ss.all (inR 500)) || !(b.ms.all (inR nb)) || !(b.cs.all (inR nc))
def ckM (w : Wd) : Int :=
  if (200 : Int) < w.classes.length ∨ (500 : Int) < w.bodies.length ∨ (64 : Int) < w.roots.length then 4
  else if w.classes.any bigC then 4 else if w.bodies.any bigB then 4
  else if ckCs w.bodies.length w.classes ≠ 0 then ckCs w.bodies.length w.classes
  else if w.bodies.any (badB w.bodies.length w.classes.length) then 3
  else if w.roots.all (inR w.bodies.length) then 0 else 3
def wO (w : Wd) : HL := [(60000, ⟨true, 3, [wdV w]⟩)]
def cV9 (w : Wd) (t i : Int) : List AV := [.ptr 60000 0 0, .int .i64 t, .ro 1 (w.classes.map clV), .int .i64 w.classes.length, .int .i64 i]
theorem ck9_loop {w : Wd} (hl : w.classes.length ≤ 1000) (hs : ∀ c ∈ w.classes, c.length ≤ 1000) : ∀ (r m : List (List Et)), w.classes = m ++ r →
    ∃ e : Int, E.L 32 9 (cV9 w 0 m.length) (wO w) = some ((if ckCs w.bodies.length r = 0 then .exit 0 else .ret, cV9 w (ckCs w.bodies.length r) e, wO w), True) := by
  intro r
  induction r with
  | nil =>
    intro m h
    rw [List.append_nil] at h
    refine ⟨m.length, ?_⟩
    rw [l32_9]
    simp (maxSteps := 100000000) only [ivc, anf, nilR, eq_self, Nat.reduceEqDiff, Nat.reduceLT, Nat.reduceLeDiff, Nat.reduceAdd, Nat.reduceBEq, reduceCtorEq, ↓reduceIte, tyb, cV9, wO, wdV, h, Int.lt_irrefl, ckCs]
  | cons x r ih =>
    intro m h
    have hn : m.length + (r.length + 1) = w.classes.length := by rw [h]; simp
    have hi' : (m.length : Int) < w.classes.length := by omega
    have hg := getD_map (f := clV) (show w.classes[m.length]? = some x by rw [h]; simp)
    have hw : IntKind.i64.wrap ((m.length : Int) + 1) = m.length + 1 := wrap_id (by omega) (by omega)
    have hc : (0 ≤ (m.length : Int)) = True := eq_true (by omega)
    have hx : x.length ≤ 1000 := hs x (by rw [h]; simp)
    have hk := ckC_ev (l := x) (nb := w.bodies.length) (by omega)
    obtain ⟨e, ih'⟩ := ih (m ++ [x]) (by simp [h])
    simp only [List.length_append, List.length_cons, List.length_nil, Nat.zero_add, Int.natCast_add, Int.cast_ofNat_Int, cV9, wO, wdV] at ih'
    by_cases hz : ckC w.bodies.length none x = 0
    · refine ⟨e, ?_⟩
      rw [hz] at hk
      rw [l32_9]
      simp (maxSteps := 100000000) only [ivc, anf, vop, vlen, vbuiltin, nilR, eq_self, Nat.reduceEqDiff, Nat.reduceLT, Nat.reduceLeDiff, Nat.reduceAdd, Nat.reduceBEq, reduceCtorEq, ↓reduceIte, tyb, cV9, wO, wdV, clV, hi', hg, hw, hc, hk, ih', ckCs, hz]
    · refine ⟨m.length, ?_⟩
      have hz' : (ckC w.bodies.length none x != 0) = true := by simp [hz]
      rw [l32_9]
      simp (maxSteps := 100000000) only [ivc, anf, vop, vlen, vbuiltin, nilR, eq_self, Nat.reduceEqDiff, Nat.reduceLT, Nat.reduceLeDiff, Nat.reduceAdd, Nat.reduceBEq, reduceCtorEq, ↓reduceIte, tyb, cV9, wO, wdV, clV, hi', hg, hc, hk, ckCs, hz, hz']
def cV16 (w : Wd) (t i : Int) : List AV := [.ptr 60000 0 0, .int .i64 t, .ro 3 (w.bodies.map bdV), .int .i64 w.bodies.length, .int .i64 i]
theorem ck16_loop {w : Wd} (hl : w.bodies.length ≤ 1000) (hs : ∀ b ∈ w.bodies, b.ss.length ≤ 1000 ∧ b.ms.length ≤ 1000 ∧ b.cs.length ≤ 1000) : ∀ (r m : List Bd), w.bodies = m ++ r →
    ∃ e : Int, E.L 32 16 (cV16 w 0 m.length) (wO w) = some ((if r.any (badB w.bodies.length w.classes.length) then .ret else .exit 2, cV16 w (if r.any (badB w.bodies.length w.classes.length) then 3 else 0) e, wO w), True) := by
  intro r
  induction r with
  | nil =>
    intro m h
    rw [List.append_nil] at h
    refine ⟨m.length, ?_⟩
    rw [l32_16]
    simp (maxSteps := 100000000) only [ivc, anf, nilR, eq_self, Nat.reduceEqDiff, Nat.reduceLT, Nat.reduceLeDiff, Nat.reduceAdd, Nat.reduceBEq, reduceCtorEq, ↓reduceIte, tyb, cV16, wO, wdV, h, Int.lt_irrefl, List.any_nil]
  | cons x r ih =>
    intro m h
    have hn : m.length + (r.length + 1) = w.bodies.length := by rw [h]; simp
    have hi' : (m.length : Int) < w.bodies.length := by omega
    have hg := getD_map (f := bdV) (show w.bodies[m.length]? = some x by rw [h]; simp)
    have hw : IntKind.i64.wrap ((m.length : Int) + 1) = m.length + 1 := wrap_id (by omega) (by omega)
    have hc : (0 ≤ (m.length : Int)) = True := eq_true (by omega)
    obtain ⟨x1, x2, x3⟩ := hs x (by rw [h]; simp)
    have k1 := within_ev (l := x.ss) (n := 500) (by omega)
    have k2 := within_ev (l := x.ms) (n := w.bodies.length) (by omega)
    have k3 := within_ev (l := x.cs) (n := w.classes.length) (by omega)
    obtain ⟨e, ih'⟩ := ih (m ++ [x]) (by simp [h])
    simp only [List.length_append, List.length_cons, List.length_nil, Nat.zero_add, Int.natCast_add, Int.cast_ofNat_Int, cV16, wO, wdV] at ih'
    by_cases b1 : x.ss.all (inR 500) = true
    · rw [b1] at k1
      by_cases b2 : x.ms.all (inR w.bodies.length) = true
      · rw [b2] at k2
        by_cases b3 : x.cs.all (inR w.classes.length) = true
        · rw [b3] at k3
          refine ⟨e, ?_⟩
          rw [l32_16]
          simp (maxSteps := 100000000) only [ivc, anf, vop, vlen, vbuiltin, nilR, salloc, eq_self, Nat.reduceEqDiff, Nat.reduceLT, Nat.reduceLeDiff, Nat.reduceAdd, Nat.reduceBEq, reduceCtorEq, ↓reduceIte, tyb, cV16, wO, wdV, bdV, hi', hg, hw, hc, k1, k2, k3, ih', List.any_cons, badB, b1, b2, b3]
        · have b3' : x.cs.all (inR w.classes.length) = false := by simpa using b3
          rw [b3'] at k3
          refine ⟨m.length, ?_⟩
          rw [l32_16]
          simp (maxSteps := 100000000) only [ivc, anf, vop, vlen, vbuiltin, nilR, salloc, eq_self, Nat.reduceEqDiff, Nat.reduceLT, Nat.reduceLeDiff, Nat.reduceAdd, Nat.reduceBEq, reduceCtorEq, ↓reduceIte, tyb, cV16, wO, wdV, bdV, hi', hg, hc, k1, k2, k3, List.any_cons, badB, b1, b2, b3']
      · have b2' : x.ms.all (inR w.bodies.length) = false := by simpa using b2
        rw [b2'] at k2
        refine ⟨m.length, ?_⟩
        rw [l32_16]
        simp (maxSteps := 100000000) only [ivc, anf, vop, vlen, vbuiltin, nilR, salloc, eq_self, Nat.reduceEqDiff, Nat.reduceLT, Nat.reduceLeDiff, Nat.reduceAdd, Nat.reduceBEq, reduceCtorEq, ↓reduceIte, tyb, cV16, wO, wdV, bdV, hi', hg, hc, k1, k2, List.any_cons, badB, b1, b2']
    · have b1' : x.ss.all (inR 500) = false := by simpa using b1
      rw [b1'] at k1
      refine ⟨m.length, ?_⟩
      rw [l32_16]
      simp (maxSteps := 100000000) only [ivc, anf, vop, vlen, vbuiltin, nilR, salloc, eq_self, Nat.reduceEqDiff, Nat.reduceLT, Nat.reduceLeDiff, Nat.reduceAdd, Nat.reduceBEq, reduceCtorEq, ↓reduceIte, tyb, cV16, wO, wdV, bdV, hi', hg, hc, k1, List.any_cons, badB, b1']
end Go.Proofs.YtikppcfabnnhfaaDoor
