/- LinkSettles: the law. -/
import Derived.Test.YtmjfccnmeiagbaaCNS4
namespace Go.Proofs.Ytmjfccnmeiagbaa
open Go Go.Aw
set_option linter.unusedSimpArgs false
set_option linter.unusedVariables false
set_option maxRecDepth 100000
set_option maxHeartbeats 40000000
theorem settles_ev {x : Int} {a : List Ac} (h1 : 0 ≤ x) (h2 : x ≤ 255) : E.F 6 [.int .u8 x, .ro 3 (a.map acV)] [] = some ((.bool true, []), True) := by
  have haw := awake_ev
  by_cases g : (200 : Int) < a.length
  · rw [e6]
    simp (maxSteps := 100000000) only [ivb, anf, Aw.orN, stCall_fn, stNo, noV, noA, avOf, xF_P, xF_G, xF_S, xF_A, xF_f, xF_ps, xF_cx, xF_ret, xF_normal, xF_exit, xL_P, xL_G, xL_S, xL_A, xL_f, xL_ps, xL_cx, xL_ret, xL_normal, xL_exit, canR_some, cxE_P, cxE_G, cxE_n, frzM, frzM.frzO, frzM.frzP, frzW, rowsN, kidsN, frzL, frzL.frzO, frzL.frzP, frzA, frzH, fixV.fixG, fixV.fixQ, fixV.fixR, fixA, fixA.fixS, fixA.fixI, fixV.fixU, fixV.fixT, ltPs, nmS, obsOf, obs0, reach, nums, swp, tau, frN, surv, freE, mkHO, dom, stayA, stay, isArg, inOk, psL, modeF, modeL, resAs, resA, pinsC, HO.lost, HO.bad, dropAll, hp_cons, hp_nil, newH_app, rls_nil, rls_cons, ob_rl, immB_eq, ren, ren.rens, renOb, sub, sub.subs, subOb, kill, argsH, args0, closedL, Ob.refs, wrapg, opnds, outside, headOut, frL, aev, allB, vop, binv, binA, eqL, eqAnd, vload, cut, fits, vindexAddr, vindex, vslice, bnd, vlen, vmin, vbuiltin, nilR, sstore, vstore, stcells, putl, put1, salloc, aop, fillE, vbuild, fillS, setl, spick, sappend, vappend, srcE, badOf, orcGet, List.zip_cons_cons, List.zip_nil_left, List.isEmpty_nil, List.isEmpty_cons, List.reverse_cons, List.reverse_nil, List.append_assoc, List.filter_cons, List.filter_nil, Option.getD_some, Option.getD_none, Option.isSome_some, Option.isSome_none, eq_self, Nat.reduceEqDiff, Nat.reduceLT, Nat.reduceLeDiff, Nat.reduceAdd, Nat.reduceMul, Nat.reduceSub, Nat.reduceBEq, Int.reduceEq, Int.reduceLT, Int.reduceLE, Int.reduceNeg, Int.reduceToNat, Int.reduceBEq, Int.reduceBNe, Nat.reduceBNe, bne_self_eq_false, Int.reduceAdd, Int.reduceSub, Int.reduceMul, Int.reduceTMod, Int.reduceTDiv, Int.reduceMod, Int.reduceDiv, Int.reducePow, Nat.reducePow, Nat.reduceMod, Nat.reduceDiv, reduceCtorEq, ↓reduceIte, if_true, if_false, ne_eq, gt_iff_lt, ge_iff_le, Int.natCast_add, Int.cast_ofNat_Int, List.append_eq, implies_true, beq_self_eq_true, tyb, haw, g]
  have hx : 0 ≤ x.tmod 20 ∧ x.tmod 20 < 20 := by rw [Int.tmod_eq_emod_of_nonneg h1]; omega
  have w1 : IntKind.i64.wrap (x.tmod 20) = x.tmod 20 := wrap_id (by omega) (by omega)
  have w2 : IntKind.i64.wrap (x.tmod 20 + 1) = x.tmod 20 + 1 := wrap_id (by omega) (by omega)
  have a1 := nl_ev (m := x.tmod 20 + 1) (by omega) (by omega)
  have li : LInv (x.tmod 20 + 1) 0 ln0 := ⟨inv_new (by omega) (by omega), inv_new (by omega) (by omega), by simp [ln0], by simp [ln0], by simp [ln0], by simp [ln0], fun _ => ⟨rfl, rfl, rfl, rfl⟩, fun h => by cases h⟩
  obtain ⟨q0, q1, l, A0, A1, k1, k2, k3, k4, k5, k6, k7⟩ := acts_loop (m := x.tmod 20 + 1) (a := a) (by omega) a [] ln0 0 [] [] [] [] rfl (by omega) (by omega) li pi_new (by simp) (by simp) (by simp) (by simp)
  obtain ⟨r0, r1, hr0, hr1, d0, _⟩ := do_ev (k := 3) (n := 0) (t := b0) (by omega) (by omega) k2 k4 k5
  have lj := linv_do (k := 3) (n := 0) (t := b0) (by omega) k2
  obtain ⟨s0, s1, hs0, hs1, d1, _⟩ := do_ev (k := 4) (n := 0) (t := b0) (by omega) (by omega) lj hr0 hr1
  have lk := linv_do (k := 4) (n := 0) (t := b0) (by omega) lj
  have hP := pi_conn (pi_cut k3)
  have hup : (connL (cutM l)).up = true := rfl
  have hW : W (connL (cutM l)) ≤ 100 := by simp [W, connL, cutM, connM, breakM, wS, wF]
  have e1 : doM (x.tmod 20 + 1) l 3 0 b0 = (cutM l, 0) := rfl
  rw [e1] at d0 d1 lk
  have e2 : doM (x.tmod 20 + 1) (cutM l) 4 0 b0 = (connL (cutM l), 0) := rfl
  rw [e2] at d1 lk
  simp only at d0 d1 lk
  obtain ⟨j, t0, t1, l', g1, g2, g3, g4, g5⟩ := rounds (m := x.tmod 20 + 1) (by omega) 100 0 _ _ s0 s1 hW (by omega) (by omega) (by omega) lk hP hup hs0 hs1
  obtain ⟨y1, y2, y3, y4, y5, y6, y7, y8⟩ := settled g2 g3 g4 g5
  have hf := final_ev (m := x.tmod 20 + 1) (p0 := t0) (p1 := t1) (A0 := A0) (A1 := A1) (by omega) (by omega) y1 y2 y3 y4 y5 y6 y7 y8
  generalize connL (cutM l) = l2 at *
  generalize cutM l = l1 at *
  simp only [lnI, lnX, lnB, lnT, tO, tV, uV, actA, b0_eq, ln0, en0, List.map_append, List.cons_append, List.nil_append, List.length_nil, List.map_nil, Int.natCast_zero] at a1 k1 d0 d1 g1 hf
  rw [e6]
  simp (maxSteps := 100000000) only [ivb, anf, Aw.orN, stCall_fn, stNo, noV, noA, avOf, xF_P, xF_G, xF_S, xF_A, xF_f, xF_ps, xF_cx, xF_ret, xF_normal, xF_exit, xL_P, xL_G, xL_S, xL_A, xL_f, xL_ps, xL_cx, xL_ret, xL_normal, xL_exit, canR_some, cxE_P, cxE_G, cxE_n, frzM, frzM.frzO, frzM.frzP, frzW, rowsN, kidsN, frzL, frzL.frzO, frzL.frzP, frzA, frzH, fixV.fixG, fixV.fixQ, fixV.fixR, fixA, fixA.fixS, fixA.fixI, fixV.fixU, fixV.fixT, ltPs, nmS, obsOf, obs0, reach, nums, swp, tau, frN, surv, freE, mkHO, dom, stayA, stay, isArg, inOk, psL, modeF, modeL, resAs, resA, pinsC, HO.lost, HO.bad, dropAll, hp_cons, hp_nil, newH_app, rls_nil, rls_cons, ob_rl, immB_eq, ren, ren.rens, renOb, sub, sub.subs, subOb, kill, argsH, args0, closedL, Ob.refs, wrapg, opnds, outside, headOut, frL, aev, allB, vop, binv, binA, eqL, eqAnd, vload, cut, fits, vindexAddr, vindex, vslice, bnd, vlen, vmin, vbuiltin, nilR, sstore, vstore, stcells, putl, put1, salloc, aop, fillE, vbuild, fillS, setl, spick, sappend, vappend, srcE, badOf, orcGet, List.zip_cons_cons, List.zip_nil_left, List.isEmpty_nil, List.isEmpty_cons, List.reverse_cons, List.reverse_nil, List.append_assoc, List.filter_cons, List.filter_nil, Option.getD_some, Option.getD_none, Option.isSome_some, Option.isSome_none, eq_self, Nat.reduceEqDiff, Nat.reduceLT, Nat.reduceLeDiff, Nat.reduceAdd, Nat.reduceMul, Nat.reduceSub, Nat.reduceBEq, Int.reduceEq, Int.reduceLT, Int.reduceLE, Int.reduceNeg, Int.reduceToNat, Int.reduceBEq, Int.reduceBNe, Nat.reduceBNe, bne_self_eq_false, Int.reduceAdd, Int.reduceSub, Int.reduceMul, Int.reduceTMod, Int.reduceTDiv, Int.reduceMod, Int.reduceDiv, Int.reducePow, Nat.reducePow, Nat.reduceMod, Nat.reduceDiv, reduceCtorEq, ↓reduceIte, if_true, if_false, ne_eq, gt_iff_lt, ge_iff_le, Int.natCast_add, Int.cast_ofNat_Int, List.append_eq, implies_true, beq_self_eq_true, tyb, e3, e4, e5, e7, e8, e9, e10, e11, e12, e13, e14, e15, e16, e17, e18, e19, e20, e21, e22, e24, e25, e26, e27, e29, e30, e31, e32, e33, e34, e35, e36, e37, e38, e39, e40, e41, e42, e43, e44, e45, e46, e47, haw, g, w1, w2, lnT, a1, k1, d0, d1, g1, hf, List.map_append, List.cons_append, List.nil_append, List.length_nil, List.map_nil, Int.natCast_zero, ln0, en0]
end Go.Proofs.Ytmjfccnmeiagbaa
