/- LinkRuns: the loop, the law. -/
import Derived.Test.YtmjfccnmeiagbaaCNY2
import Derived.Test.YtmjfccnmeiagbaaCNT3
namespace Go.Proofs.Ytmjfccnmeiagbaa
open Go Go.Aw
set_option linter.unusedSimpArgs false
set_option linter.unusedVariables false
set_option maxRecDepth 100000
set_option maxHeartbeats 40000000
theorem runs_step {m N : Int} {l : Ln} {p0 p1 : List Fr} {a : List Ac} {i : Nat} {x : Ac} (h0 : 0 ≤ N) (hN : N ≤ 4000) (hi : LInv m N l) (hp0 : (p0.length : Int) ≤ N) (hp1 : (p1.length : Int) ≤ N) (hx : a[i]? = some x) (hl : a.length ≤ 200) :
    ∃ (q0 q1 : List Fr) (l' : Ln), LInv m (N + 1) l' ∧ (q0.length : Int) ≤ N + 1 ∧ (q1.length : Int) ≤ N + 1 ∧ E.L 27 7 (pV a i) (pO p0 p1 m l) = E.L 27 7 (pV a (i + 1)) (pO q0 q1 m l') := by
  obtain ⟨q0, q1, hq0, hq1, d1, d2⟩ := do_ev (k := x.k) (n := x.n) (t := x.t) h0 (by omega) hi hp0 hp1
  have hj := linv_do (k := x.k) (n := x.n) (t := x.t) h0 hi
  generalize doM m l x.k x.n x.t = r at d1 d2 hj
  obtain ⟨l', c⟩ := r
  simp only at d1 d2 hj
  refine ⟨q0, q1, l', hj, hq0, hq1, ?_⟩
  have hil : i < a.length := by
    obtain ⟨h, _⟩ := List.getElem?_eq_some_iff.1 hx
    exact h
  have hi' : (i : Int) < a.length := by omega
  have hg := getD_map (f := acV) hx
  have hw : IntKind.i64.wrap ((i : Int) + 1) = i + 1 := wrap_id (by omega) (by omega)
  have hc : (0 ≤ (i : Int)) = True := eq_true (by omega)
  have b0 := hj.i0.hm
  have b1 := hj.i1.hm
  have b2 := hj.i0.m2
  have b3 := hj.b0
  have b4 := hj.b1
  have b5 := hj.a0
  have b6 := hj.a1
  have hn := inner_ev (m := m) (l := l') (p0 := q0) (p1 := q1) (a := a) (i := i) (by omega) (by omega) (by omega) (by omega) (by omega) (by omega)
  simp only [pO, pV, lnI, lnX, lnB, lnT, lnR, enR, actA, List.map_append, List.cons_append, List.nil_append] at d1 d2 hn
  rw [l27_7]
  simp (maxSteps := 100000000) only [ivb, anf, Aw.orN, stCall_fn, stNo, avOf, xF_P, xF_G, xF_S, xF_A, xF_f, xF_ps, xF_cx, xF_ret, xF_normal, xF_exit, xL_P, xL_G, xL_S, xL_A, xL_f, xL_ps, xL_cx, xL_ret, xL_normal, xL_exit, canR_some, cxE_P, cxE_G, cxE_n, frzM, frzM.frzO, frzM.frzP, frzW, rowsN, kidsN, frzL, frzL.frzO, frzL.frzP, frzA, frzH, fixV.fixG, fixV.fixQ, fixV.fixR, fixA, fixA.fixS, fixA.fixI, fixV.fixU, fixV.fixT, ltPs, nmS, obsOf, obs0, reach, nums, swp, tau, frN, surv, freE, mkHO, dom, stayA, stay, isArg, inOk, psL, modeF, modeL, resAs, resA, pinsC, HO.lost, HO.bad, dropAll, hp_cons, hp_nil, newH_app, rls_nil, rls_cons, ob_rl, immB_eq, ren, ren.rens, renOb, sub, sub.subs, subOb, kill, argsH, args0, closedL, Ob.refs, wrapg, opnds, outside, headOut, frL, aev, allB, vop, binv, binA, eqL, eqAnd, vload, cut, fits, vindexAddr, vindex, vslice, bnd, vlen, vmin, vbuiltin, nilR, sstore, vstore, stcells, putl, put1, salloc, aop, fillE, vbuild, fillS, setl, spick, sappend, vappend, srcE, badOf, orcGet, List.zip_cons_cons, List.zip_nil_left, List.isEmpty_nil, List.isEmpty_cons, List.reverse_cons, List.reverse_nil, List.append_assoc, List.filter_cons, List.filter_nil, Option.getD_some, Option.getD_none, Option.isSome_some, Option.isSome_none, eq_self, Nat.reduceEqDiff, Nat.reduceLT, Nat.reduceLeDiff, Nat.reduceAdd, Nat.reduceMul, Nat.reduceSub, Nat.reduceBEq, Int.reduceEq, Int.reduceLT, Int.reduceLE, Int.reduceNeg, Int.reduceToNat, Int.reduceBEq, Int.reduceBNe, Nat.reduceBNe, bne_self_eq_false, Int.reduceAdd, Int.reduceSub, Int.reduceMul, Int.reduceTMod, Int.reduceTDiv, Int.reduceMod, Int.reduceDiv, Int.reducePow, Nat.reducePow, Nat.reduceMod, Nat.reduceDiv, reduceCtorEq, ↓reduceIte, if_true, if_false, ne_eq, gt_iff_lt, ge_iff_le, Int.natCast_add, Int.cast_ofNat_Int, List.append_eq, implies_true, beq_self_eq_true, tyb, pO, pV, lnB, lnT, lnR, enR, hi', hg, hw, hc, acV, d1, d2, hn, List.map_append, List.cons_append, List.nil_append]
theorem runs_loop {m : Int} {a : List Ac} (hl : a.length ≤ 200) : ∀ (r p : List Ac) (l : Ln) (N : Int) (p0 p1 : List Fr), a = p ++ r → 0 ≤ N → N + r.length ≤ 3000 → LInv m N l → (p0.length : Int) ≤ N → (p1.length : Int) ≤ N →
    ∃ (q0 q1 : List Fr) (l' : Ln), E.L 27 7 (pV a p.length) (pO p0 p1 m l) = some ((.exit 0, pV a a.length, pO q0 q1 m l'), True) := by
  intro r
  induction r with
  | nil =>
    intro p l N p0 p1 h hN hN2 hi h0 h1
    rw [List.append_nil] at h
    subst h
    refine ⟨p0, p1, l, ?_⟩
    rw [l27_7]
    simp (maxSteps := 100000000) only [ivb, anf, Aw.orN, stCall_fn, stNo, avOf, xF_P, xF_G, xF_S, xF_A, xF_f, xF_ps, xF_cx, xF_ret, xF_normal, xF_exit, xL_P, xL_G, xL_S, xL_A, xL_f, xL_ps, xL_cx, xL_ret, xL_normal, xL_exit, canR_some, cxE_P, cxE_G, cxE_n, frzM, frzM.frzO, frzM.frzP, frzW, rowsN, kidsN, frzL, frzL.frzO, frzL.frzP, frzA, frzH, fixV.fixG, fixV.fixQ, fixV.fixR, fixA, fixA.fixS, fixA.fixI, fixV.fixU, fixV.fixT, ltPs, nmS, obsOf, obs0, reach, nums, swp, tau, frN, surv, freE, mkHO, dom, stayA, stay, isArg, inOk, psL, modeF, modeL, resAs, resA, pinsC, HO.lost, HO.bad, dropAll, hp_cons, hp_nil, newH_app, rls_nil, rls_cons, ob_rl, immB_eq, ren, ren.rens, renOb, sub, sub.subs, subOb, kill, argsH, args0, closedL, Ob.refs, wrapg, opnds, outside, headOut, frL, aev, allB, vop, binv, binA, eqL, eqAnd, vload, cut, fits, vindexAddr, vindex, vslice, bnd, vlen, vmin, vbuiltin, nilR, sstore, vstore, stcells, putl, put1, salloc, aop, fillE, vbuild, fillS, setl, spick, sappend, vappend, srcE, badOf, orcGet, List.zip_cons_cons, List.zip_nil_left, List.isEmpty_nil, List.isEmpty_cons, List.reverse_cons, List.reverse_nil, List.append_assoc, List.filter_cons, List.filter_nil, Option.getD_some, Option.getD_none, Option.isSome_some, Option.isSome_none, eq_self, Nat.reduceEqDiff, Nat.reduceLT, Nat.reduceLeDiff, Nat.reduceAdd, Nat.reduceMul, Nat.reduceSub, Nat.reduceBEq, Int.reduceEq, Int.reduceLT, Int.reduceLE, Int.reduceNeg, Int.reduceToNat, Int.reduceBEq, Int.reduceBNe, Nat.reduceBNe, bne_self_eq_false, Int.reduceAdd, Int.reduceSub, Int.reduceMul, Int.reduceTMod, Int.reduceTDiv, Int.reduceMod, Int.reduceDiv, Int.reducePow, Nat.reducePow, Nat.reduceMod, Nat.reduceDiv, reduceCtorEq, ↓reduceIte, if_true, if_false, ne_eq, gt_iff_lt, ge_iff_le, Int.natCast_add, Int.cast_ofNat_Int, List.append_eq, implies_true, beq_self_eq_true, tyb, pO, pV, lnB, lnT, lnR, enR, Int.lt_irrefl, List.map_append, List.cons_append, List.nil_append]
  | cons x r ih =>
    intro p l N p0 p1 h hN hN2 hi h0 h1
    have hx : a[p.length]? = some x := by rw [h]; simp
    simp only [List.length_cons, Int.natCast_add, Int.cast_ofNat_Int] at hN2
    obtain ⟨q0, q1, l', hj, h2, h3, hs⟩ := runs_step hN (by omega) hi h0 h1 hx hl
    obtain ⟨r0, r1, l'', hh⟩ := ih (p ++ [x]) l' (N + 1) q0 q1 (by simp [h]) (by omega) (by omega) hj h2 h3
    refine ⟨r0, r1, l'', ?_⟩
    rw [hs, ← hh]
    simp
end Go.Proofs.Ytmjfccnmeiagbaa
