/- ColourFew: the walk. -/
import Derived.Test.YtikppcfabnnhfaaDoorCNS10
import Derived.Test.YtikppcfabnnhfaaDoorCNC28
import Derived.Test.YtikppcfabnnhfaaDoorCNC30
namespace Go.Proofs.YtikppcfabnnhfaaDoor
open Go Go.Aw
set_option linter.unusedSimpArgs false
set_option linter.unusedVariables false
set_option maxRecDepth 100000
set_option maxHeartbeats 40000000
theorem rls_rep {x : AV} (h : x.rl = []) : ∀ {n : Nat}, AV.rl.rls (List.replicate n x) = []
  | 0 => rfl
  | n + 1 => by rw [List.replicate_succ, AV.rl.rls, h, rls_rep h]; rfl
theorem nilB_rl : AV.rl (.agg [.nilsl, .nilsl, .nilsl]) = [] := rfl
theorem rls_nb {n : Nat} : AV.rl.rls (List.replicate n (.agg [.nilsl, .nilsl, .nilsl])) = [] := rls_rep nilB_rl
theorem imm_nb {n : Nat} : (List.replicate n (AV.agg [.ro 1 [], .ro 1 [], .ro 1 []])).all (fun e => e.cells.all AV.isImm) = true := by
  rw [List.all_eq_true]
  intro x hx
  rw [List.eq_of_mem_replicate hx]
  rfl
theorem tk_rev {l : List (List Et)} : List.take l.length (List.map clV l.reverse) = List.map clV l.reverse := List.take_of_length_le (by simp)
def fwH (w : Wd) (k : List (List Et)) : HL := [(60000, ⟨true, 3, [wdV w]⟩), (60001, ⟨true, 3, [.agg [.sl 60002 0 k.length, .ro 3 (w.bodies.map bdV), .ro 1 (w.roots.map (AV.int .i64))]]⟩), (60002, ⟨false, 1, k.map clV⟩)]
def fwV (mo : List Et) (n c : Int) : List AV := [clV mo, .ptr 60000 0 0, .bool false, .int .i64 n, .ptr 60001 0 0, .int .i64 c]
theorem few_loop {w : Wd} {mo : List Et} {n : Int} (hl : w.classes.length ≤ 11) (hs : ∀ c ∈ w.classes, (c.length : Int) ≤ n) : ∀ k : Nat, k ≤ w.classes.length →
    EL.L 4 10 (fwV mo n ((k : Int) - 1)) (fwH w (w.classes.drop k).reverse) = some ((.exit 0, fwV mo n (-1), fwH w w.classes.reverse), True) := by
  intro k
  induction k with
  | zero =>
    intro _
    rw [l4_10L]
    simp (maxSteps := 100000000) only [ivc, nilR, eq_self, Nat.reduceEqDiff, Nat.reduceLT, Nat.reduceLeDiff, Nat.reduceAdd, Nat.reduceBEq, Int.reduceLE, Int.reduceNeg, reduceCtorEq, ↓reduceIte, anfL, tyb, fwV, fwH, wdV, clV, Int.zero_sub]
  | succ k ih =>
    intro hk
    have hg := getD_map (f := clV) (show w.classes[k]? = some w.classes[k] from List.getElem?_eq_getElem (by omega))
    have hx := hs _ (List.getElem_mem (show k < w.classes.length by omega))
    have hd : w.classes.drop k = w.classes[k] :: w.classes.drop (k + 1) := List.drop_eq_getElem_cons (by omega)
    have ih' := ih (by omega)
    rw [hd, List.reverse_cons] at ih'
    generalize hx' : w.classes[k] = x at hg hx ih'
    have hlr : (w.classes.drop (k + 1)).reverse.length ≤ 11 := by rw [List.length_reverse, List.length_drop]; omega
    generalize (w.classes.drop (k + 1)).reverse = m at ih' hlr ⊢
    have e0 : ((k + 1 : Nat) : Int) - 1 = k := by omega
    have q0 : (0 ≤ (k : Int)) = True := eq_true (by omega)
    have q1 : (0 ≤ (k : Int) ∧ (k : Int) < w.classes.length) = True := eq_true (by omega)
    have q2 : (n < (x.length : Int)) = False := eq_false (by omega)
    have hw : IntKind.i64.wrap ((k : Int) - 1) = k - 1 := wrap_id (by omega) (by omega)
    have hn : ((k : Int)).toNat = k := by omega
    simp only [fwV, fwH, wdV, List.length_append, List.length_cons, List.length_nil, Nat.zero_add, List.map_append, List.map_cons, List.map_nil, clV] at ih'
    rw [e0, l4_10L]
    simp (maxSteps := 100000000) only [ivc, vop, vlen, vbuiltin, nilR, salloc, sappend, eq_self, Nat.reduceEqDiff, Nat.reduceLT, Nat.reduceLeDiff, Nat.reduceAdd, Nat.reduceSub, Nat.reduceBEq, Int.reduceNeg, reduceCtorEq, ↓reduceIte, anfL, tyb, fwV, fwH, wdV, clV, hg, q0, q2, hw, hn, ih']
    exact some_true (by omega)
theorem few_ev {w : Wd} {mo : List Et} (hw : inpW w) : EL.F 4 [wdV w, clV mo] [] = some ((.bool true, []), True) := by
  have aw := awake_ev
  have sm := small_ev hw
  rw [e4L]
  cases hs : smallM w with
  | false =>
    rw [hs] at sm
    simp only [wdV] at sm
    simp (maxSteps := 100000000) only [ivc, vop, vlen, vbuiltin, nilR, salloc, eq_self, Nat.reduceEqDiff, Nat.reduceLT, Nat.reduceLeDiff, Nat.reduceAdd, Nat.reduceMul, Int.reduceLT, reduceCtorEq, ↓reduceIte, anfL, gv14L, tyb, wdV, clV, sm, aw]
  | true =>
  rw [hs] at sm
  by_cases h1 : (12 : Int) < mo.length
  · simp only [wdV] at sm
    simp (maxSteps := 100000000) only [ivc, vop, vlen, vbuiltin, nilR, salloc, eq_self, Nat.reduceEqDiff, Nat.reduceLT, Nat.reduceLeDiff, Nat.reduceAdd, Nat.reduceMul, Int.reduceLT, reduceCtorEq, ↓reduceIte, anfL, gv14L, tyb, wdV, clV, sm, h1, aw]
  by_cases h2 : (11 : Int) < w.classes.length
  · simp only [wdV] at sm
    simp (maxSteps := 100000000) only [ivc, vop, vlen, vbuiltin, nilR, salloc, eq_self, Nat.reduceEqDiff, Nat.reduceLT, Nat.reduceLeDiff, Nat.reduceAdd, Nat.reduceMul, reduceCtorEq, ↓reduceIte, anfL, gv14L, tyb, wdV, clV, sm, h1, h2, aw]
  have l1 := least15_ev (w := w) okW_of
  by_cases c1 : ckM w ≠ 0
  · rw [if_neg c1] at l1
    have c1' : (ckM w != 0) = true := bne_iff_ne.2 c1
    simp only [wdV] at sm l1
    simp (maxSteps := 100000000) only [ivc, vop, vlen, vbuiltin, nilR, salloc, eq_self, Nat.reduceEqDiff, Nat.reduceLT, Nat.reduceLeDiff, Nat.reduceAdd, Nat.reduceMul, reduceCtorEq, ↓reduceIte, anfL, gv14L, gv15L, tyb, wdV, clV, sm, h1, h2, l1, c1', aw]
  have c1 : ckM w = 0 := Classical.not_not.1 c1
  rw [if_pos c1] at l1
  by_cases c2 : 12 < cntM (graphW w) 8
  · rw [if_pos c2] at l1
    simp only [wdV] at sm l1
    simp (maxSteps := 100000000) only [ivc, vop, vlen, vbuiltin, nilR, salloc, eq_self, Nat.reduceEqDiff, Nat.reduceLT, Nat.reduceLeDiff, Nat.reduceAdd, Nat.reduceMul, Int.reduceBNe, reduceCtorEq, ↓reduceIte, anfL, gv14L, gv15L, tyb, wdV, clV, sm, h1, h2, l1, aw]
  rw [if_neg c2] at l1
  have g := good_of c1
  have lp := few_loop (w := w) (mo := mo) (n := leastW (graphW w)) (by omega) (fun c hc => least_class (clsok_of g) hc) w.classes.length (Nat.le_refl _)
  rw [List.drop_length] at lp
  simp only [fwV, fwH, wdV, clV, List.reverse_nil, List.map_nil, List.length_nil, List.length_reverse] at lp
  have l2 := least15_ev (w := revW w) okW_of
  rw [if_pos (ck_of_good (rev_good g)), rev_cnt g, if_neg c2, rev_least g] at l2
  have w1 : IntKind.i64.wrap ((w.classes.length : Int) - 1) = w.classes.length - 1 := wrap_id (by omega) (by omega)
  have nb0 := g.nb
  have q9 : ((w.bodies.length : Int) < 0) = False := eq_false (by omega)
  simp only [wdV] at sm l1
  simp only [wdV, revW, bdV, noB, List.map_replicate, List.map_nil] at l2
  by_cases h3 : (1 : Int) < w.classes.length
  · have l3 := least15_ev (w := addC w (revW w) mo) okW_of
    by_cases d1 : ckM (addC w (revW w) mo) ≠ 0
    · rw [if_neg d1] at l3
      have d1' : (ckM (addC w (revW w) mo) != 0) = true := bne_iff_ne.2 d1
      generalize ckM (addC w (revW w) mo) = er at l3 d1'
      simp only [wdV, addC, revW, bdV, noB, List.map_replicate, List.map_nil, List.map_append, List.map_cons, clV] at l3
      simp (maxSteps := 100000000) only [ivc, vop, vlen, vbuiltin, nilR, salloc, sappend, eq_self, Nat.reduceEqDiff, Nat.reduceLT, Nat.reduceLeDiff, Nat.reduceAdd, Nat.reduceMul, Nat.reduceBEq, Int.reduceNeg, reduceCtorEq, ↓reduceIte, anfL, gv14L, gv15L, tyb, wdV, clV, tk_rev, rls_nb, imm_nb, List.map_replicate, List.take_replicate, Nat.min_self, sm, h1, h2, h3, l1, lp, l2, l3, w1, d1', aw]
      exact some_true (by omega)
    have d1 : ckM (addC w (revW w) mo) = 0 := Classical.not_not.1 d1
    have le := add_least g d1
    rw [if_pos d1] at l3
    generalize leastW (graphW (addC w (revW w) mo)) = n2 at l3 le
    by_cases d2 : 12 < cntM (graphW (addC w (revW w) mo)) 8
    · rw [if_pos d2] at l3
      simp only [wdV, addC, revW, bdV, noB, List.map_replicate, List.map_nil, List.map_append, List.map_cons, clV] at l3
      simp (maxSteps := 100000000) only [ivc, vop, vlen, vbuiltin, nilR, salloc, sappend, eq_self, Nat.reduceEqDiff, Nat.reduceLT, Nat.reduceLeDiff, Nat.reduceAdd, Nat.reduceMul, Nat.reduceBEq, Int.reduceNeg, Int.reduceBNe, reduceCtorEq, ↓reduceIte, anfL, gv14L, gv15L, tyb, wdV, clV, tk_rev, rls_nb, imm_nb, List.map_replicate, List.take_replicate, Nat.min_self, sm, h1, h2, h3, l1, lp, l2, l3, w1, aw]
      exact some_true (by omega)
    rw [if_neg d2] at l3
    simp only [wdV, addC, revW, bdV, noB, List.map_replicate, List.map_nil, List.map_append, List.map_cons, clV] at l3
    simp (maxSteps := 100000000) only [ivc, vop, vlen, vbuiltin, nilR, salloc, sappend, eq_self, Nat.reduceEqDiff, Nat.reduceLT, Nat.reduceLeDiff, Nat.reduceAdd, Nat.reduceMul, Nat.reduceBEq, Int.reduceNeg, reduceCtorEq, ↓reduceIte, anfL, gv14L, gv15L, tyb, wdV, clV, tk_rev, rls_nb, imm_nb, List.map_replicate, List.take_replicate, Nat.min_self, sm, h1, h2, h3, l1, lp, l2, l3, w1, le, aw]
    exact some_true (by omega)
  · have l3 := least15_ev (w := addC w w mo) okW_of
    by_cases d1 : ckM (addC w w mo) ≠ 0
    · rw [if_neg d1] at l3
      have d1' : (ckM (addC w w mo) != 0) = true := bne_iff_ne.2 d1
      generalize ckM (addC w w mo) = er at l3 d1'
      simp only [wdV, addC, List.map_nil, List.map_append, List.map_cons, clV] at l3
      simp (maxSteps := 100000000) only [ivc, vop, vlen, vbuiltin, nilR, salloc, sappend, eq_self, Nat.reduceEqDiff, Nat.reduceLT, Nat.reduceLeDiff, Nat.reduceAdd, Nat.reduceMul, Nat.reduceBEq, Int.reduceNeg, reduceCtorEq, ↓reduceIte, anfL, gv14L, gv15L, tyb, wdV, clV, sm, h1, h2, h3, l1, lp, l3, w1, d1', aw]
      exact some_true (by omega)
    have d1 : ckM (addC w w mo) = 0 := Classical.not_not.1 d1
    have le := add_least g d1
    rw [if_pos d1] at l3
    generalize leastW (graphW (addC w w mo)) = n2 at l3 le
    by_cases d2 : 12 < cntM (graphW (addC w w mo)) 8
    · rw [if_pos d2] at l3
      simp only [wdV, addC, List.map_nil, List.map_append, List.map_cons, clV] at l3
      simp (maxSteps := 100000000) only [ivc, vop, vlen, vbuiltin, nilR, salloc, sappend, eq_self, Nat.reduceEqDiff, Nat.reduceLT, Nat.reduceLeDiff, Nat.reduceAdd, Nat.reduceMul, Nat.reduceBEq, Int.reduceNeg, Int.reduceBNe, reduceCtorEq, ↓reduceIte, anfL, gv14L, gv15L, tyb, wdV, clV, sm, h1, h2, h3, l1, lp, l3, w1, aw]
      exact some_true (by omega)
    rw [if_neg d2] at l3
    simp only [wdV, addC, List.map_nil, List.map_append, List.map_cons, clV] at l3
    simp (maxSteps := 100000000) only [ivc, vop, vlen, vbuiltin, nilR, salloc, sappend, eq_self, Nat.reduceEqDiff, Nat.reduceLT, Nat.reduceLeDiff, Nat.reduceAdd, Nat.reduceMul, Nat.reduceBEq, Int.reduceNeg, reduceCtorEq, ↓reduceIte, anfL, gv14L, gv15L, tyb, wdV, clV, sm, h1, h2, h3, l1, lp, l3, w1, le, aw]
    exact some_true (by omega)
end Go.Proofs.YtikppcfabnnhfaaDoor
