/- An end: a frame's form; Take, the cases without a loop. -/
import Derived.Test.YtmjfccnmeiagbaaCNU3
namespace Go.Proofs.Ytmjfccnmeiagbaa
open Go Go.Aw
set_option linter.unusedSimpArgs false
set_option maxRecDepth 100000
set_option maxHeartbeats 40000000
def formedM (f : Fr) : Bool := decide (1 ≤ f.k) && decide (f.k ≤ 3) && decide (0 ≤ f.n) && (f.k == 2 && decide ((f.t.size : Int) ≤ 4000) || f.t.toList == [])
def rightM (f : Fr) : Bool := decide (1 ≤ f.k) && decide (f.k ≤ 3) && decide (0 ≤ f.n) && decide ((f.t.size : Int) ≤ 4000) && (f.k == 2 && decide (0 < f.n) || f.k != 2 && f.t.toList == [])
theorem b0l : (⟨#[]⟩ : ByteArray).toList = [] := by kernel_rfl
theorem formed_ev {f : Fr} : E.F 31 [.agg [.int .i64 f.k, .int .i64 f.n, .str f.t]] [] = some ((.bool (formedM f), []), True) := by
  rw [e31]
  unfold formedM
  simp (maxSteps := 100000000) only [ivb, anf, Aw.orN, stCall_fn, stNo, noV, noA, avOf, xF_P, xF_G, xF_S, xF_A, xF_f, xF_ps, xF_cx, xF_ret, xF_normal, xF_exit, xL_P, xL_G, xL_S, xL_A, xL_f, xL_ps, xL_cx, xL_ret, xL_normal, xL_exit, canR_some, cxE_P, cxE_G, cxE_n, frzM, frzM.frzO, frzM.frzP, frzW, rowsN, kidsN, frzL, frzL.frzO, frzL.frzP, frzA, frzH, fixV.fixG, fixV.fixQ, fixV.fixR, fixA, fixA.fixS, fixA.fixI, fixV.fixU, fixV.fixT, ltPs, nmS, obsOf, obs0, reach, nums, swp, tau, frN, surv, freE, mkHO, dom, stayA, stay, isArg, inOk, psL, modeF, modeL, resAs, resA, pinsC, HO.lost, HO.bad, dropAll, hp_cons, hp_nil, newH_app, rls_nil, rls_cons, ob_rl, immB_eq, ren, ren.rens, renOb, sub, sub.subs, subOb, kill, argsH, args0, closedL, Ob.refs, wrapg, opnds, outside, headOut, frL, aev, allB, vop, binv, binA, eqL, eqAnd, vload, cut, fits, vindexAddr, vindex, vslice, bnd, vlen, vmin, vbuiltin, nilR, sstore, vstore, stcells, putl, put1, salloc, aop, fillE, vbuild, fillS, setl, spick, sappend, vappend, srcE, badOf, orcGet, List.zip_cons_cons, List.zip_nil_left, List.isEmpty_nil, List.isEmpty_cons, List.reverse_cons, List.reverse_nil, List.append_assoc, List.filter_cons, List.filter_nil, Option.getD_some, Option.getD_none, Option.isSome_some, Option.isSome_none, eq_self, Nat.reduceEqDiff, Nat.reduceLT, Nat.reduceLeDiff, Nat.reduceAdd, Nat.reduceMul, Nat.reduceSub, Nat.reduceBEq, Int.reduceEq, Int.reduceLT, Int.reduceLE, Int.reduceNeg, Int.reduceToNat, Int.reduceBEq, Int.reduceBNe, Nat.reduceBNe, bne_self_eq_false, Int.reduceAdd, Int.reduceSub, Int.reduceMul, Int.reduceTMod, Int.reduceTDiv, Int.reduceMod, Int.reduceDiv, Int.reducePow, Nat.reducePow, Nat.reduceMod, Nat.reduceDiv, reduceCtorEq, ↓reduceIte, if_true, if_false, ne_eq, gt_iff_lt, ge_iff_le, Int.natCast_add, Int.cast_ofNat_Int, List.append_eq, implies_true, beq_self_eq_true, tyb, e3, e4, e5, e6, e7, e8, e9, e10, e11, e12, e13, e14, e15, e16, e17, e18, e19, e20, e21, e22, e23, e24, e25, e26, e27, e28, e29, e30, e32, e33, e34, e35, e36, e37, e38, e39, e40, e41, e42, e43, e44, e45, e46, e47, b0l]
  refine some_true ?_
  generalize decide (1 ≤ f.k) = a
  generalize decide (f.k ≤ 3) = b
  generalize decide (0 ≤ f.n) = c
  generalize (f.k == 2) = d
  generalize decide ((f.t.size : Int) ≤ 4000) = e
  revert a b c d e
  decide
theorem right_ev {f : Fr} : E.F 33 [.agg [.int .i64 f.k, .int .i64 f.n, .str f.t]] [] = some ((.bool (rightM f), []), True) := by
  rw [e33]
  unfold rightM
  have hne : (f.k != 2) = !(f.k == 2) := rfl
  simp (maxSteps := 100000000) only [ivb, anf, Aw.orN, stCall_fn, stNo, noV, noA, avOf, xF_P, xF_G, xF_S, xF_A, xF_f, xF_ps, xF_cx, xF_ret, xF_normal, xF_exit, xL_P, xL_G, xL_S, xL_A, xL_f, xL_ps, xL_cx, xL_ret, xL_normal, xL_exit, canR_some, cxE_P, cxE_G, cxE_n, frzM, frzM.frzO, frzM.frzP, frzW, rowsN, kidsN, frzL, frzL.frzO, frzL.frzP, frzA, frzH, fixV.fixG, fixV.fixQ, fixV.fixR, fixA, fixA.fixS, fixA.fixI, fixV.fixU, fixV.fixT, ltPs, nmS, obsOf, obs0, reach, nums, swp, tau, frN, surv, freE, mkHO, dom, stayA, stay, isArg, inOk, psL, modeF, modeL, resAs, resA, pinsC, HO.lost, HO.bad, dropAll, hp_cons, hp_nil, newH_app, rls_nil, rls_cons, ob_rl, immB_eq, ren, ren.rens, renOb, sub, sub.subs, subOb, kill, argsH, args0, closedL, Ob.refs, wrapg, opnds, outside, headOut, frL, aev, allB, vop, binv, binA, eqL, eqAnd, vload, cut, fits, vindexAddr, vindex, vslice, bnd, vlen, vmin, vbuiltin, nilR, sstore, vstore, stcells, putl, put1, salloc, aop, fillE, vbuild, fillS, setl, spick, sappend, vappend, srcE, badOf, orcGet, List.zip_cons_cons, List.zip_nil_left, List.isEmpty_nil, List.isEmpty_cons, List.reverse_cons, List.reverse_nil, List.append_assoc, List.filter_cons, List.filter_nil, Option.getD_some, Option.getD_none, Option.isSome_some, Option.isSome_none, eq_self, Nat.reduceEqDiff, Nat.reduceLT, Nat.reduceLeDiff, Nat.reduceAdd, Nat.reduceMul, Nat.reduceSub, Nat.reduceBEq, Int.reduceEq, Int.reduceLT, Int.reduceLE, Int.reduceNeg, Int.reduceToNat, Int.reduceBEq, Int.reduceBNe, Nat.reduceBNe, bne_self_eq_false, Int.reduceAdd, Int.reduceSub, Int.reduceMul, Int.reduceTMod, Int.reduceTDiv, Int.reduceMod, Int.reduceDiv, Int.reducePow, Nat.reducePow, Nat.reduceMod, Nat.reduceDiv, reduceCtorEq, ↓reduceIte, if_true, if_false, ne_eq, gt_iff_lt, ge_iff_le, Int.natCast_add, Int.cast_ofNat_Int, List.append_eq, implies_true, beq_self_eq_true, tyb, e3, e4, e5, e6, e7, e8, e9, e10, e11, e12, e13, e14, e15, e16, e17, e18, e19, e20, e21, e22, e23, e24, e25, e26, e27, e28, e29, e30, e31, e32, e34, e35, e36, e37, e38, e39, e40, e41, e42, e43, e44, e45, e46, e47, b0l, hne]
  refine some_true ?_
  generalize decide (1 ≤ f.k) = a
  generalize decide (f.k ≤ 3) = b
  generalize decide (0 ≤ f.n) = c
  generalize (f.k == 2) = d
  generalize decide ((f.t.size : Int) ≤ 4000) = e
  generalize decide (0 < f.n) = g
  revert a b c d e g
  decide
def confirmM (e : En) (n : Int) : En := { e with held := e.held.drop (n - e.conf).toNat, conf := n }
def tells (c : Int) : Int → List ByteArray → List Fr
  | _, [] => []
  | i, s :: r => ⟨2, c + 1 + i, s⟩ :: tells c (i + 1) r
def takeM (e : En) (f : Fr) : En × List ByteArray × List Fr × Int :=
  if e.st = 0 then (e, [], [], 14)
  else if formedM f = false then ({ e with st := 0 }, [], [], 400)
  else if f.k = 1 ∧ e.st = 1 ∧ e.conf ≤ f.n ∧ f.n ≤ e.sent then ({ confirmM e f.n with st := 2 }, [], tells f.n 0 (e.held.drop (f.n - e.conf).toNat), 0)
  else if f.k = 2 ∧ e.st = 2 ∧ f.n = e.has + 1 then ({ e with has := e.has + 1 }, [f.t], [⟨3, e.has + 1, b0⟩], 0)
  else if f.k = 2 ∧ e.st = 2 ∧ 1 ≤ f.n ∧ f.n ≤ e.has then (e, [], [⟨3, e.has, b0⟩], 0)
  else if f.k = 3 ∧ e.st = 2 ∧ f.n ≤ e.sent then (if e.conf < f.n then confirmM e f.n else e, [], [], 0)
  else ({ e with st := 0 }, [], [], 400)
def takeR (m : Int) (r : En × List ByteArray × List Fr × Int) : Option ((AV × HL) × Prop) :=
  some ((.tup [.sl 200000 0 r.2.1.length, .sl 200001 0 r.2.2.1.length, .int .i64 r.2.2.2], (200000, ⟨false, 1, r.2.1.map .str⟩) :: (200001, ⟨false, 3, r.2.2.1.map frV⟩) :: enO 100000 200002 m r.1), True)
theorem take_down {m : Int} {e : En} {f : Fr} (g : e.st = 0) : E.F 18 [.ptr 100000 0 0, .agg [.int .i64 f.k, .int .i64 f.n, .str f.t]] (enO 100000 100001 m e) = takeR m (e, [], [], 14) := by
  rw [e18]
  unfold takeR
  simp (maxSteps := 100000000) only [ivb, anf, Aw.orN, stCall_fn, stNo, noV, noA, avOf, xF_P, xF_G, xF_S, xF_A, xF_f, xF_ps, xF_cx, xF_ret, xF_normal, xF_exit, xL_P, xL_G, xL_S, xL_A, xL_f, xL_ps, xL_cx, xL_ret, xL_normal, xL_exit, canR_some, cxE_P, cxE_G, cxE_n, frzM, frzM.frzO, frzM.frzP, frzW, rowsN, kidsN, frzL, frzL.frzO, frzL.frzP, frzA, frzH, fixV.fixG, fixV.fixQ, fixV.fixR, fixA, fixA.fixS, fixA.fixI, fixV.fixU, fixV.fixT, ltPs, nmS, obsOf, obs0, reach, nums, swp, tau, frN, surv, freE, mkHO, dom, stayA, stay, isArg, inOk, psL, modeF, modeL, resAs, resA, pinsC, HO.lost, HO.bad, dropAll, hp_cons, hp_nil, newH_app, rls_nil, rls_cons, ob_rl, immB_eq, ren, ren.rens, renOb, sub, sub.subs, subOb, kill, argsH, args0, closedL, Ob.refs, wrapg, opnds, outside, headOut, frL, aev, allB, vop, binv, binA, eqL, eqAnd, vload, cut, fits, vindexAddr, vindex, vslice, bnd, vlen, vmin, vbuiltin, nilR, sstore, vstore, stcells, putl, put1, salloc, aop, fillE, vbuild, fillS, setl, spick, sappend, vappend, srcE, badOf, orcGet, List.zip_cons_cons, List.zip_nil_left, List.isEmpty_nil, List.isEmpty_cons, List.reverse_cons, List.reverse_nil, List.append_assoc, List.filter_cons, List.filter_nil, Option.getD_some, Option.getD_none, Option.isSome_some, Option.isSome_none, eq_self, Nat.reduceEqDiff, Nat.reduceLT, Nat.reduceLeDiff, Nat.reduceAdd, Nat.reduceMul, Nat.reduceSub, Nat.reduceBEq, Int.reduceEq, Int.reduceLT, Int.reduceLE, Int.reduceNeg, Int.reduceToNat, Int.reduceBEq, Int.reduceBNe, Nat.reduceBNe, bne_self_eq_false, Int.reduceAdd, Int.reduceSub, Int.reduceMul, Int.reduceTMod, Int.reduceTDiv, Int.reduceMod, Int.reduceDiv, Int.reducePow, Nat.reducePow, Nat.reduceMod, Nat.reduceDiv, reduceCtorEq, ↓reduceIte, if_true, if_false, ne_eq, gt_iff_lt, ge_iff_le, Int.natCast_add, Int.cast_ofNat_Int, List.append_eq, implies_true, beq_self_eq_true, tyb, e3, e4, e5, e6, e7, e8, e9, e10, e11, e12, e13, e14, e15, e16, e17, e19, e20, e21, e22, e23, e24, e25, e26, e27, e28, e29, e30, e31, e32, e33, e34, e35, e36, e37, e38, e39, e40, e41, e42, e43, e44, e45, e46, e47, enO, g]
theorem take_bad {m : Int} {e : En} {f : Fr} (g : ¬ e.st = 0) (g1 : formedM f = false) : E.F 18 [.ptr 100000 0 0, .agg [.int .i64 f.k, .int .i64 f.n, .str f.t]] (enO 100000 100001 m e) = takeR m ({ e with st := 0 }, [], [], 400) := by
  have g' : (e.st == 0) = false := by simp [g]
  rw [e18]
  unfold takeR
  simp (maxSteps := 100000000) only [ivb, anf, Aw.orN, stCall_fn, stNo, noV, noA, avOf, xF_P, xF_G, xF_S, xF_A, xF_f, xF_ps, xF_cx, xF_ret, xF_normal, xF_exit, xL_P, xL_G, xL_S, xL_A, xL_f, xL_ps, xL_cx, xL_ret, xL_normal, xL_exit, canR_some, cxE_P, cxE_G, cxE_n, frzM, frzM.frzO, frzM.frzP, frzW, rowsN, kidsN, frzL, frzL.frzO, frzL.frzP, frzA, frzH, fixV.fixG, fixV.fixQ, fixV.fixR, fixA, fixA.fixS, fixA.fixI, fixV.fixU, fixV.fixT, ltPs, nmS, obsOf, obs0, reach, nums, swp, tau, frN, surv, freE, mkHO, dom, stayA, stay, isArg, inOk, psL, modeF, modeL, resAs, resA, pinsC, HO.lost, HO.bad, dropAll, hp_cons, hp_nil, newH_app, rls_nil, rls_cons, ob_rl, immB_eq, ren, ren.rens, renOb, sub, sub.subs, subOb, kill, argsH, args0, closedL, Ob.refs, wrapg, opnds, outside, headOut, frL, aev, allB, vop, binv, binA, eqL, eqAnd, vload, cut, fits, vindexAddr, vindex, vslice, bnd, vlen, vmin, vbuiltin, nilR, sstore, vstore, stcells, putl, put1, salloc, aop, fillE, vbuild, fillS, setl, spick, sappend, vappend, srcE, badOf, orcGet, List.zip_cons_cons, List.zip_nil_left, List.isEmpty_nil, List.isEmpty_cons, List.reverse_cons, List.reverse_nil, List.append_assoc, List.filter_cons, List.filter_nil, Option.getD_some, Option.getD_none, Option.isSome_some, Option.isSome_none, eq_self, Nat.reduceEqDiff, Nat.reduceLT, Nat.reduceLeDiff, Nat.reduceAdd, Nat.reduceMul, Nat.reduceSub, Nat.reduceBEq, Int.reduceEq, Int.reduceLT, Int.reduceLE, Int.reduceNeg, Int.reduceToNat, Int.reduceBEq, Int.reduceBNe, Nat.reduceBNe, bne_self_eq_false, Int.reduceAdd, Int.reduceSub, Int.reduceMul, Int.reduceTMod, Int.reduceTDiv, Int.reduceMod, Int.reduceDiv, Int.reducePow, Nat.reducePow, Nat.reduceMod, Nat.reduceDiv, reduceCtorEq, ↓reduceIte, if_true, if_false, ne_eq, gt_iff_lt, ge_iff_le, Int.natCast_add, Int.cast_ofNat_Int, List.append_eq, implies_true, beq_self_eq_true, tyb, e3, e4, e5, e6, e7, e8, e9, e10, e11, e12, e13, e14, e15, e16, e17, e19, e20, e21, e22, e23, e24, e25, e26, e27, e28, e29, e30, e32, e33, e34, e35, e36, e37, e38, e39, e40, e41, e42, e43, e44, e45, e46, e47, enO, g, g', formed_ev, g1]
end Go.Proofs.Ytmjfccnmeiagbaa
