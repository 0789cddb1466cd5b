/- LinkOrders: the law. -/
import Derived.Test.YtmjfccnmeiagbaaCNQ2
import Derived.Test.YtmjfccnmeiagbaaCNX6
import Derived.Test.YtmjfccnmeiagbaaCNT3
namespace Go.Proofs.Ytmjfccnmeiagbaa
open Go Go.Aw
set_option linter.unusedSimpArgs false
set_option linter.unusedVariables false
set_option maxRecDepth 100000
set_option maxHeartbeats 40000000
theorem dir_end {s r : En} {A d : List ByteArray} {ur us : List Fr} {up : Bool} (h : Dir s r A d ur us up) :
    ¬ ((A.length : Int) < d.length) ∧ List.take d.length (A.map AV.str) = d.map AV.str ∧ (s.sent != (A.length : Int)) = false ∧ (r.has != (d.length : Int)) = false ∧ ¬ r.has < s.conf ∧ List.take (A.length - s.conf.toNat) (List.drop s.conf.toNat (A.map AV.str)) = s.held.map AV.str ∧ (0 ≤ s.conf ∧ s.conf ≤ A.length) ∧ d.length ≤ A.length := by
  have c0 := h.sent; have c1 := h.has0; have c2 := h.hasl; have c3 := h.conf; have c4 := h.conf0
  have hd : d.length = r.has.toNat := by rw [h.del, List.length_take]; omega
  refine ⟨by omega, ?_, by simp [c0], ?_, by omega, ?_, by omega, by omega⟩
  · rw [hd, ← List.map_take, ← h.del]
  · have : r.has = (d.length : Int) := by omega
    simp [this]
  · rw [take_drop_map (by omega), ← h.held]
def oV (x : Int) (a : List Ac) (i : Int) : List AV := [.int .u8 x, .ro 3 (a.map acV), .bool false, .int .i64 i]
theorem ord0 {x : Int} {a : List Ac} (hl : a.length ≤ 200) (h1 : 0 ≤ x) (h2 : x ≤ 255) : E.L 4 5 (oV x a 0) [] = E.L 4 5 (oV x a 1) [] := by
  have hx : 0 ≤ x.tmod 20 ∧ x.tmod 20 < 20 := by rw [Int.tmod_eq_emod_of_nonneg h1]; omega
  have w1 : IntKind.i64.wrap (x.tmod 20) = x.tmod 20 := wrap_id (by omega) (by omega)
  have w2 : IntKind.i64.wrap (x.tmod 20 + 1) = x.tmod 20 + 1 := wrap_id (by omega) (by omega)
  have a1 := nl_ev (m := x.tmod 20 + 1) (by omega) (by omega)
  obtain ⟨q0, q1, l, B0, B1, li, hP, g0, g1, a2⟩ := sent_ev (m := x.tmod 20 + 1) (e := 0) (.inl rfl) hl (by omega) (by omega)
  have hp : pick 0 B0 B1 = B0 := rfl
  rw [hp] at a2
  have b0 := li.i0.hm; have b1 := li.i1.hm; have b2 := li.i0.m2; have b3 := li.b0; have b4 := li.b1; have b5 := li.i0.c2; have b6 := li.i1.c2
  obtain ⟨k1, k2, k3, k4, k5, k6, k7, k8⟩ := dir_end hP.x
  have hB := hP.x.sent
  have a3 := deliv1_ev (m := x.tmod 20 + 1) (l := l) (p0 := q0) (p1 := q1) (by omega)
  have a4 := lstat0_ev (m := x.tmod 20 + 1) (l := l) (p0 := q0) (p1 := q1) (by omega)
  have a5 := lstat1_ev (m := x.tmod 20 + 1) (l := l) (p0 := q0) (p1 := q1) (by omega)
  have a6 := eqs_ev (l := l.d1) (l' := l.d1) (by omega) (by omega)
  have a7 := eqs_ev (l := l.e0.held) (l' := l.e0.held) (by omega) (by omega)
  have kc : ((0 ≤ (l.d1.length : Int) ∧ (l.d1.length : Int) ≤ B0.length) ∧ (B0.length : Int) ≤ B0.length) = True := eq_true (by omega)
  simp only [lnI, lnB, lnT, ln0, en0, List.map_append, List.cons_append, List.nil_append, List.length_nil, List.map_nil, Int.natCast_zero, decide_true] at a1 a2 a3 a4 a5 a6 a7
  rw [l4_5]
  simp (maxSteps := 100000000) only [ivb, anf, Aw.orN, stCall_fn, stNo, avOf, xF_P, xF_G, xF_S, xF_A, xF_f, xF_ps, xF_cx, xF_ret, xF_normal, xF_exit, xL_P, xL_G, xL_S, xL_A, xL_f, xL_ps, xL_cx, xL_ret, xL_normal, xL_exit, canR_some, cxE_P, cxE_G, cxE_n, frzM, frzM.frzO, frzM.frzP, frzW, rowsN, kidsN, frzL, frzL.frzO, frzL.frzP, frzA, frzH, fixV.fixG, fixV.fixQ, fixV.fixR, fixA, fixA.fixS, fixA.fixI, fixV.fixU, fixV.fixT, ltPs, nmS, obsOf, obs0, reach, nums, swp, tau, frN, surv, freE, mkHO, dom, stayA, stay, isArg, inOk, psL, modeF, modeL, resAs, resA, pinsC, HO.lost, HO.bad, dropAll, hp_cons, hp_nil, newH_app, rls_nil, rls_cons, ob_rl, immB_eq, ren, ren.rens, renOb, sub, sub.subs, subOb, kill, argsH, args0, closedL, Ob.refs, wrapg, opnds, outside, headOut, frL, aev, allB, vop, binv, binA, eqL, eqAnd, vload, cut, fits, vindexAddr, vindex, vslice, bnd, vlen, vmin, vbuiltin, nilR, sstore, vstore, stcells, putl, put1, salloc, aop, fillE, vbuild, fillS, setl, spick, sappend, vappend, srcE, badOf, orcGet, List.zip_cons_cons, List.zip_nil_left, List.isEmpty_nil, List.isEmpty_cons, List.reverse_cons, List.reverse_nil, List.append_assoc, List.filter_cons, List.filter_nil, Option.getD_some, Option.getD_none, Option.isSome_some, Option.isSome_none, eq_self, Nat.reduceEqDiff, Nat.reduceLT, Nat.reduceLeDiff, Nat.reduceAdd, Nat.reduceMul, Nat.reduceSub, Nat.reduceBEq, Int.reduceEq, Int.reduceLT, Int.reduceLE, Int.reduceNeg, Int.reduceToNat, Int.reduceBEq, Int.reduceBNe, Nat.reduceBNe, bne_self_eq_false, Int.reduceAdd, Int.reduceSub, Int.reduceMul, Int.reduceTMod, Int.reduceTDiv, Int.reduceMod, Int.reduceDiv, Int.reducePow, Nat.reducePow, Nat.reduceMod, Nat.reduceDiv, reduceCtorEq, ↓reduceIte, if_true, if_false, ne_eq, gt_iff_lt, ge_iff_le, Int.natCast_add, Int.cast_ofNat_Int, List.append_eq, implies_true, beq_self_eq_true, tyb, oV, lnB, lnT, w1, w2, a1, a2, a3, a4, a5, a6, a7, k1, k2, k3, k4, k5, k6, k7, k8, kc, List.map_append, List.cons_append, List.nil_append]
theorem ord1 {x : Int} {a : List Ac} (hl : a.length ≤ 200) (h1 : 0 ≤ x) (h2 : x ≤ 255) : E.L 4 5 (oV x a 1) [] = E.L 4 5 (oV x a 2) [] := by
  have hx : 0 ≤ x.tmod 20 ∧ x.tmod 20 < 20 := by rw [Int.tmod_eq_emod_of_nonneg h1]; omega
  have w1 : IntKind.i64.wrap (x.tmod 20) = x.tmod 20 := wrap_id (by omega) (by omega)
  have w2 : IntKind.i64.wrap (x.tmod 20 + 1) = x.tmod 20 + 1 := wrap_id (by omega) (by omega)
  have a1 := nl_ev (m := x.tmod 20 + 1) (by omega) (by omega)
  obtain ⟨q0, q1, l, B0, B1, li, hP, g0, g1, a2⟩ := sent_ev (m := x.tmod 20 + 1) (e := 1) (.inr rfl) hl (by omega) (by omega)
  have hp : pick 1 B0 B1 = B1 := rfl
  rw [hp] at a2
  have b0 := li.i0.hm; have b1 := li.i1.hm; have b2 := li.i0.m2; have b3 := li.b0; have b4 := li.b1; have b5 := li.i0.c2; have b6 := li.i1.c2
  obtain ⟨k1, k2, k3, k4, k5, k6, k7, k8⟩ := dir_end hP.y
  have hB := hP.y.sent
  have a3 := deliv0_ev (m := x.tmod 20 + 1) (l := l) (p0 := q0) (p1 := q1) (by omega)
  have a4 := lstat0_ev (m := x.tmod 20 + 1) (l := l) (p0 := q0) (p1 := q1) (by omega)
  have a5 := lstat1_ev (m := x.tmod 20 + 1) (l := l) (p0 := q0) (p1 := q1) (by omega)
  have a6 := eqs_ev (l := l.d0) (l' := l.d0) (by omega) (by omega)
  have a7 := eqs_ev (l := l.e1.held) (l' := l.e1.held) (by omega) (by omega)
  have kc : ((0 ≤ (l.d0.length : Int) ∧ (l.d0.length : Int) ≤ B1.length) ∧ (B1.length : Int) ≤ B1.length) = True := eq_true (by omega)
  simp only [lnI, lnB, lnT, ln0, en0, List.map_append, List.cons_append, List.nil_append, List.length_nil, List.map_nil, Int.natCast_zero, decide_true] at a1 a2 a3 a4 a5 a6 a7
  rw [l4_5]
  simp (maxSteps := 100000000) only [ivb, anf, Aw.orN, stCall_fn, stNo, avOf, xF_P, xF_G, xF_S, xF_A, xF_f, xF_ps, xF_cx, xF_ret, xF_normal, xF_exit, xL_P, xL_G, xL_S, xL_A, xL_f, xL_ps, xL_cx, xL_ret, xL_normal, xL_exit, canR_some, cxE_P, cxE_G, cxE_n, frzM, frzM.frzO, frzM.frzP, frzW, rowsN, kidsN, frzL, frzL.frzO, frzL.frzP, frzA, frzH, fixV.fixG, fixV.fixQ, fixV.fixR, fixA, fixA.fixS, fixA.fixI, fixV.fixU, fixV.fixT, ltPs, nmS, obsOf, obs0, reach, nums, swp, tau, frN, surv, freE, mkHO, dom, stayA, stay, isArg, inOk, psL, modeF, modeL, resAs, resA, pinsC, HO.lost, HO.bad, dropAll, hp_cons, hp_nil, newH_app, rls_nil, rls_cons, ob_rl, immB_eq, ren, ren.rens, renOb, sub, sub.subs, subOb, kill, argsH, args0, closedL, Ob.refs, wrapg, opnds, outside, headOut, frL, aev, allB, vop, binv, binA, eqL, eqAnd, vload, cut, fits, vindexAddr, vindex, vslice, bnd, vlen, vmin, vbuiltin, nilR, sstore, vstore, stcells, putl, put1, salloc, aop, fillE, vbuild, fillS, setl, spick, sappend, vappend, srcE, badOf, orcGet, List.zip_cons_cons, List.zip_nil_left, List.isEmpty_nil, List.isEmpty_cons, List.reverse_cons, List.reverse_nil, List.append_assoc, List.filter_cons, List.filter_nil, Option.getD_some, Option.getD_none, Option.isSome_some, Option.isSome_none, eq_self, Nat.reduceEqDiff, Nat.reduceLT, Nat.reduceLeDiff, Nat.reduceAdd, Nat.reduceMul, Nat.reduceSub, Nat.reduceBEq, Int.reduceEq, Int.reduceLT, Int.reduceLE, Int.reduceNeg, Int.reduceToNat, Int.reduceBEq, Int.reduceBNe, Nat.reduceBNe, bne_self_eq_false, Int.reduceAdd, Int.reduceSub, Int.reduceMul, Int.reduceTMod, Int.reduceTDiv, Int.reduceMod, Int.reduceDiv, Int.reducePow, Nat.reducePow, Nat.reduceMod, Nat.reduceDiv, reduceCtorEq, ↓reduceIte, if_true, if_false, ne_eq, gt_iff_lt, ge_iff_le, Int.natCast_add, Int.cast_ofNat_Int, List.append_eq, implies_true, beq_self_eq_true, tyb, oV, lnB, lnT, w1, w2, a1, a2, a3, a4, a5, a6, a7, k1, k2, k3, k4, k5, k6, k7, k8, kc, List.map_append, List.cons_append, List.nil_append]
theorem orders_ev {x : Int} {a : List Ac} (h1 : 0 ≤ x) (h2 : x ≤ 255) : E.F 4 [.int .u8 x, .ro 3 (a.map acV)] [] = some ((.bool true, []), True) := by
  have haw := awake_ev
  by_cases g : (200 : Int) < a.length
  · rw [e4]
    simp (maxSteps := 100000000) only [ivb, anf, Aw.orN, stCall_fn, stNo, avOf, xF_P, xF_G, xF_S, xF_A, xF_f, xF_ps, xF_cx, xF_ret, xF_normal, xF_exit, xL_P, xL_G, xL_S, xL_A, xL_f, xL_ps, xL_cx, xL_ret, xL_normal, xL_exit, canR_some, cxE_P, cxE_G, cxE_n, frzM, frzM.frzO, frzM.frzP, frzW, rowsN, kidsN, frzL, frzL.frzO, frzL.frzP, frzA, frzH, fixV.fixG, fixV.fixQ, fixV.fixR, fixA, fixA.fixS, fixA.fixI, fixV.fixU, fixV.fixT, ltPs, nmS, obsOf, obs0, reach, nums, swp, tau, frN, surv, freE, mkHO, dom, stayA, stay, isArg, inOk, psL, modeF, modeL, resAs, resA, pinsC, HO.lost, HO.bad, dropAll, hp_cons, hp_nil, newH_app, rls_nil, rls_cons, ob_rl, immB_eq, ren, ren.rens, renOb, sub, sub.subs, subOb, kill, argsH, args0, closedL, Ob.refs, wrapg, opnds, outside, headOut, frL, aev, allB, vop, binv, binA, eqL, eqAnd, vload, cut, fits, vindexAddr, vindex, vslice, bnd, vlen, vmin, vbuiltin, nilR, sstore, vstore, stcells, putl, put1, salloc, aop, fillE, vbuild, fillS, setl, spick, sappend, vappend, srcE, badOf, orcGet, List.zip_cons_cons, List.zip_nil_left, List.isEmpty_nil, List.isEmpty_cons, List.reverse_cons, List.reverse_nil, List.append_assoc, List.filter_cons, List.filter_nil, Option.getD_some, Option.getD_none, Option.isSome_some, Option.isSome_none, eq_self, Nat.reduceEqDiff, Nat.reduceLT, Nat.reduceLeDiff, Nat.reduceAdd, Nat.reduceMul, Nat.reduceSub, Nat.reduceBEq, Int.reduceEq, Int.reduceLT, Int.reduceLE, Int.reduceNeg, Int.reduceToNat, Int.reduceBEq, Int.reduceBNe, Nat.reduceBNe, bne_self_eq_false, Int.reduceAdd, Int.reduceSub, Int.reduceMul, Int.reduceTMod, Int.reduceTDiv, Int.reduceMod, Int.reduceDiv, Int.reducePow, Nat.reducePow, Nat.reduceMod, Nat.reduceDiv, reduceCtorEq, ↓reduceIte, if_true, if_false, ne_eq, gt_iff_lt, ge_iff_le, Int.natCast_add, Int.cast_ofNat_Int, List.append_eq, implies_true, beq_self_eq_true, tyb, haw, g]
  · have r0 := ord0 (a := a) (by omega) h1 h2
    have r1 := ord1 (a := a) (by omega) h1 h2
    have r2 : E.L 4 5 (oV x a 2) [] = some ((.exit 0, oV x a 2, []), True) := by
      rw [l4_5]
      simp (maxSteps := 100000000) only [ivb, anf, Aw.orN, stCall_fn, stNo, avOf, xF_P, xF_G, xF_S, xF_A, xF_f, xF_ps, xF_cx, xF_ret, xF_normal, xF_exit, xL_P, xL_G, xL_S, xL_A, xL_f, xL_ps, xL_cx, xL_ret, xL_normal, xL_exit, canR_some, cxE_P, cxE_G, cxE_n, frzM, frzM.frzO, frzM.frzP, frzW, rowsN, kidsN, frzL, frzL.frzO, frzL.frzP, frzA, frzH, fixV.fixG, fixV.fixQ, fixV.fixR, fixA, fixA.fixS, fixA.fixI, fixV.fixU, fixV.fixT, ltPs, nmS, obsOf, obs0, reach, nums, swp, tau, frN, surv, freE, mkHO, dom, stayA, stay, isArg, inOk, psL, modeF, modeL, resAs, resA, pinsC, HO.lost, HO.bad, dropAll, hp_cons, hp_nil, newH_app, rls_nil, rls_cons, ob_rl, immB_eq, ren, ren.rens, renOb, sub, sub.subs, subOb, kill, argsH, args0, closedL, Ob.refs, wrapg, opnds, outside, headOut, frL, aev, allB, vop, binv, binA, eqL, eqAnd, vload, cut, fits, vindexAddr, vindex, vslice, bnd, vlen, vmin, vbuiltin, nilR, sstore, vstore, stcells, putl, put1, salloc, aop, fillE, vbuild, fillS, setl, spick, sappend, vappend, srcE, badOf, orcGet, List.zip_cons_cons, List.zip_nil_left, List.isEmpty_nil, List.isEmpty_cons, List.reverse_cons, List.reverse_nil, List.append_assoc, List.filter_cons, List.filter_nil, Option.getD_some, Option.getD_none, Option.isSome_some, Option.isSome_none, eq_self, Nat.reduceEqDiff, Nat.reduceLT, Nat.reduceLeDiff, Nat.reduceAdd, Nat.reduceMul, Nat.reduceSub, Nat.reduceBEq, Int.reduceEq, Int.reduceLT, Int.reduceLE, Int.reduceNeg, Int.reduceToNat, Int.reduceBEq, Int.reduceBNe, Nat.reduceBNe, bne_self_eq_false, Int.reduceAdd, Int.reduceSub, Int.reduceMul, Int.reduceTMod, Int.reduceTDiv, Int.reduceMod, Int.reduceDiv, Int.reducePow, Nat.reducePow, Nat.reduceMod, Nat.reduceDiv, reduceCtorEq, ↓reduceIte, if_true, if_false, ne_eq, gt_iff_lt, ge_iff_le, Int.natCast_add, Int.cast_ofNat_Int, List.append_eq, implies_true, beq_self_eq_true, tyb, oV]
    have r3 := r0.trans (r1.trans r2)
    simp only [oV] at r3
    rw [e4]
    simp (maxSteps := 100000000) only [ivb, anf, Aw.orN, stCall_fn, stNo, avOf, xF_P, xF_G, xF_S, xF_A, xF_f, xF_ps, xF_cx, xF_ret, xF_normal, xF_exit, xL_P, xL_G, xL_S, xL_A, xL_f, xL_ps, xL_cx, xL_ret, xL_normal, xL_exit, canR_some, cxE_P, cxE_G, cxE_n, frzM, frzM.frzO, frzM.frzP, frzW, rowsN, kidsN, frzL, frzL.frzO, frzL.frzP, frzA, frzH, fixV.fixG, fixV.fixQ, fixV.fixR, fixA, fixA.fixS, fixA.fixI, fixV.fixU, fixV.fixT, ltPs, nmS, obsOf, obs0, reach, nums, swp, tau, frN, surv, freE, mkHO, dom, stayA, stay, isArg, inOk, psL, modeF, modeL, resAs, resA, pinsC, HO.lost, HO.bad, dropAll, hp_cons, hp_nil, newH_app, rls_nil, rls_cons, ob_rl, immB_eq, ren, ren.rens, renOb, sub, sub.subs, subOb, kill, argsH, args0, closedL, Ob.refs, wrapg, opnds, outside, headOut, frL, aev, allB, vop, binv, binA, eqL, eqAnd, vload, cut, fits, vindexAddr, vindex, vslice, bnd, vlen, vmin, vbuiltin, nilR, sstore, vstore, stcells, putl, put1, salloc, aop, fillE, vbuild, fillS, setl, spick, sappend, vappend, srcE, badOf, orcGet, List.zip_cons_cons, List.zip_nil_left, List.isEmpty_nil, List.isEmpty_cons, List.reverse_cons, List.reverse_nil, List.append_assoc, List.filter_cons, List.filter_nil, Option.getD_some, Option.getD_none, Option.isSome_some, Option.isSome_none, eq_self, Nat.reduceEqDiff, Nat.reduceLT, Nat.reduceLeDiff, Nat.reduceAdd, Nat.reduceMul, Nat.reduceSub, Nat.reduceBEq, Int.reduceEq, Int.reduceLT, Int.reduceLE, Int.reduceNeg, Int.reduceToNat, Int.reduceBEq, Int.reduceBNe, Nat.reduceBNe, bne_self_eq_false, Int.reduceAdd, Int.reduceSub, Int.reduceMul, Int.reduceTMod, Int.reduceTDiv, Int.reduceMod, Int.reduceDiv, Int.reducePow, Nat.reducePow, Nat.reduceMod, Nat.reduceDiv, reduceCtorEq, ↓reduceIte, if_true, if_false, ne_eq, gt_iff_lt, ge_iff_le, Int.natCast_add, Int.cast_ofNat_Int, List.append_eq, implies_true, beq_self_eq_true, tyb, e3, e5, e6, e7, e8, e9, e10, e11, e12, e13, e14, e15, e16, e17, e18, e19, e20, e21, e22, e25, e26, e27, e28, e29, e30, e31, e32, e33, e34, e35, e36, e37, e38, e39, e40, e41, e42, e43, e44, e45, e46, e47, haw, g, r3]
end Go.Proofs.Ytmjfccnmeiagbaa
