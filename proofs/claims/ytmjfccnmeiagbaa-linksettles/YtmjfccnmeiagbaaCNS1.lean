/- LinkSettles: what is done, and what was sent. -/
import Derived.Test.YtmjfccnmeiagbaaCNY1
import Derived.Test.YtmjfccnmeiagbaaCNP3
namespace Go.Proofs.Ytmjfccnmeiagbaa
open Go Go.Aw
set_option linter.unusedSimpArgs false
set_option linter.unusedVariables false
set_option maxRecDepth 100000
set_option maxHeartbeats 40000000
structure Ac where
  k : Int
  n : Int
  t : ByteArray
def acV (a : Ac) : AV := .agg [.int .i64 a.k, .int .i64 a.n, .str a.t]
instance rf_ac : RowF acV := ⟨fun _ => rfl, fun _ => rfl⟩
def tO (p0 p1 : List Fr) (m : Int) (l : Ln) (A0 A1 : List ByteArray) : HL :=
  [(60000, ⟨true, 7, [.agg [.ptr 60002 0 0, .ptr 60003 0 0, .sl 60004 p0.length l.u0.length, .sl 60005 p1.length l.u1.length, .sl 60006 0 l.d0.length, .sl 60007 0 l.d1.length, .bool l.up]]⟩),
   (60001, ⟨true, 2, [.agg [.sl 60008 0 A0.length, .sl 60009 0 A1.length]]⟩),
   (60002, ⟨true, 6, [.agg [.int .i64 l.e0.st, .int .i64 l.e0.sent, .int .i64 l.e0.conf, .int .i64 l.e0.has, .sl 60010 0 l.e0.held.length, .int .i64 m]]⟩),
   (60003, ⟨true, 6, [.agg [.int .i64 l.e1.st, .int .i64 l.e1.sent, .int .i64 l.e1.conf, .int .i64 l.e1.has, .sl 60011 0 l.e1.held.length, .int .i64 m]]⟩),
   (60004, ⟨false, 3, (p0 ++ l.u0).map frV⟩), (60005, ⟨false, 3, (p1 ++ l.u1).map frV⟩), (60006, ⟨false, 1, l.d0.map .str⟩), (60007, ⟨false, 1, l.d1.map .str⟩),
   (60008, ⟨false, 1, A0.map .str⟩), (60009, ⟨false, 1, A1.map .str⟩), (60010, ⟨false, 1, l.e0.held.map .str⟩), (60011, ⟨false, 1, l.e1.held.map .str⟩)]
def tV (a : List Ac) (i : Int) : List AV := [.ptr 60000 0 0, .ptr 60001 0 0, .ro 3 (a.map acV), .int .i64 a.length, .int .i64 i]
section
variable {m c : Int} {l l' : Ln} {p0 p1 q0 q1 : List Fr} {A0 A1 : List ByteArray} {a : List Ac} {i : Nat} {x : Ac}
theorem set_no (hx : a[i]? = some x) (hl : a.length ≤ 200)
    (d1 : E.F 28 [.ptr 100000 0 0, actA x.k x.n x.t] (lnI p0 p1 m l) = some ((.int .i64 c, lnX q0 q1 m l'), True))
    (hb : (c == 0 && x.k == 1) = false) :
    E.L 6 9 (tV a i) (tO p0 p1 m l A0 A1) = E.L 6 9 (tV a (i + 1)) (tO q0 q1 m l' A0 A1) := by
  have hil : i < a.length := by
    obtain ⟨h, _⟩ := List.getElem?_eq_some_iff.1 hx
    exact h
  have hi' : (i : Int) < a.length := by omega
  have hg := getD_map (f := acV) hx
  have hw : IntKind.i64.wrap ((i : Int) + 1) = i + 1 := wrap_id (by omega) (by omega)
  have hq : (0 ≤ (i : Int)) = True := eq_true (by omega)
  simp only [lnI, lnX, lnB, lnT, actA, List.map_append, List.cons_append, List.nil_append] at d1
  rw [l6_9]
  simp (maxSteps := 100000000) only [ivb, anf, Aw.orN, stCall_fn, stNo, noV, noA, avOf, xF_P, xF_G, xF_S, xF_A, xF_f, xF_ps, xF_cx, xF_ret, xF_normal, xF_exit, xL_P, xL_G, xL_S, xL_A, xL_f, xL_ps, xL_cx, xL_ret, xL_normal, xL_exit, canR_some, cxE_P, cxE_G, cxE_n, frzM, frzM.frzO, frzM.frzP, frzW, rowsN, kidsN, frzL, frzL.frzO, frzL.frzP, frzA, frzH, fixV.fixG, fixV.fixQ, fixV.fixR, fixA, fixA.fixS, fixA.fixI, fixV.fixU, fixV.fixT, ltPs, nmS, obsOf, obs0, reach, nums, swp, tau, frN, surv, freE, mkHO, dom, stayA, stay, isArg, inOk, psL, modeF, modeL, resAs, resA, pinsC, HO.lost, HO.bad, dropAll, hp_cons, hp_nil, newH_app, rls_nil, rls_cons, ob_rl, immB_eq, ren, ren.rens, renOb, sub, sub.subs, subOb, kill, argsH, args0, closedL, Ob.refs, wrapg, opnds, outside, headOut, frL, aev, allB, vop, binv, binA, eqL, eqAnd, vload, cut, fits, vindexAddr, vindex, vslice, bnd, vlen, vmin, vbuiltin, nilR, sstore, vstore, stcells, putl, put1, salloc, aop, fillE, vbuild, fillS, setl, spick, sappend, vappend, srcE, badOf, orcGet, List.zip_cons_cons, List.zip_nil_left, List.isEmpty_nil, List.isEmpty_cons, List.reverse_cons, List.reverse_nil, List.append_assoc, List.filter_cons, List.filter_nil, Option.getD_some, Option.getD_none, Option.isSome_some, Option.isSome_none, eq_self, Nat.reduceEqDiff, Nat.reduceLT, Nat.reduceLeDiff, Nat.reduceAdd, Nat.reduceMul, Nat.reduceSub, Nat.reduceBEq, Int.reduceEq, Int.reduceLT, Int.reduceLE, Int.reduceNeg, Int.reduceToNat, Int.reduceBEq, Int.reduceBNe, Nat.reduceBNe, bne_self_eq_false, Int.reduceAdd, Int.reduceSub, Int.reduceMul, Int.reduceTMod, Int.reduceTDiv, Int.reduceMod, Int.reduceDiv, Int.reducePow, Nat.reducePow, Nat.reduceMod, Nat.reduceDiv, reduceCtorEq, ↓reduceIte, if_true, if_false, ne_eq, gt_iff_lt, ge_iff_le, Int.natCast_add, Int.cast_ofNat_Int, List.append_eq, implies_true, beq_self_eq_true, tyb, tO, tV, hi', hg, hw, hq, acV, d1, hb, List.map_append, List.cons_append, List.nil_append]
theorem set_yes0 (hx : a[i]? = some x) (hl : a.length ≤ 200) (hA : A0.length ≤ 1000000)
    (d1 : E.F 28 [.ptr 100000 0 0, actA x.k x.n x.t] (lnI p0 p1 m l) = some ((.int .i64 0, lnX q0 q1 m l'), True))
    (hk : x.k = 1) (hn : x.n.tmod 2 = 0) :
    E.L 6 9 (tV a i) (tO p0 p1 m l A0 A1) = E.L 6 9 (tV a (i + 1)) (tO q0 q1 m l' (A0 ++ [x.t]) A1) := by
  have hil : i < a.length := by
    obtain ⟨h, _⟩ := List.getElem?_eq_some_iff.1 hx
    exact h
  have hi' : (i : Int) < a.length := by omega
  have hg := getD_map (f := acV) hx
  have hw : IntKind.i64.wrap ((i : Int) + 1) = i + 1 := wrap_id (by omega) (by omega)
  have hq : (0 ≤ (i : Int)) = True := eq_true (by omega)
  have hq2 : ((A0.length + 1) * 16 ≤ 140737488355328 ∧ A0.length ≤ 9223372036854775806) = True := eq_true (by omega)
  have hq3 : (0 ≤ (i : Int) ∧ (A0.length + 1) * 16 ≤ 140737488355328 ∧ A0.length ≤ 9223372036854775806) = True := eq_true (by omega)
  simp only [lnI, lnX, lnB, lnT, actA, hk, List.map_append, List.cons_append, List.nil_append] at d1
  rw [l6_9]
  simp (maxSteps := 100000000) only [ivb, anf, Aw.orN, stCall_fn, stNo, noV, noA, avOf, xF_P, xF_G, xF_S, xF_A, xF_f, xF_ps, xF_cx, xF_ret, xF_normal, xF_exit, xL_P, xL_G, xL_S, xL_A, xL_f, xL_ps, xL_cx, xL_ret, xL_normal, xL_exit, canR_some, cxE_P, cxE_G, cxE_n, frzM, frzM.frzO, frzM.frzP, frzW, rowsN, kidsN, frzL, frzL.frzO, frzL.frzP, frzA, frzH, fixV.fixG, fixV.fixQ, fixV.fixR, fixA, fixA.fixS, fixA.fixI, fixV.fixU, fixV.fixT, ltPs, nmS, obsOf, obs0, reach, nums, swp, tau, frN, surv, freE, mkHO, dom, stayA, stay, isArg, inOk, psL, modeF, modeL, resAs, resA, pinsC, HO.lost, HO.bad, dropAll, hp_cons, hp_nil, newH_app, rls_nil, rls_cons, ob_rl, immB_eq, ren, ren.rens, renOb, sub, sub.subs, subOb, kill, argsH, args0, closedL, Ob.refs, wrapg, opnds, outside, headOut, frL, aev, allB, vop, binv, binA, eqL, eqAnd, vload, cut, fits, vindexAddr, vindex, vslice, bnd, vlen, vmin, vbuiltin, nilR, sstore, vstore, stcells, putl, put1, salloc, aop, fillE, vbuild, fillS, setl, spick, sappend, vappend, srcE, badOf, orcGet, List.zip_cons_cons, List.zip_nil_left, List.isEmpty_nil, List.isEmpty_cons, List.reverse_cons, List.reverse_nil, List.append_assoc, List.filter_cons, List.filter_nil, Option.getD_some, Option.getD_none, Option.isSome_some, Option.isSome_none, eq_self, Nat.reduceEqDiff, Nat.reduceLT, Nat.reduceLeDiff, Nat.reduceAdd, Nat.reduceMul, Nat.reduceSub, Nat.reduceBEq, Int.reduceEq, Int.reduceLT, Int.reduceLE, Int.reduceNeg, Int.reduceToNat, Int.reduceBEq, Int.reduceBNe, Nat.reduceBNe, bne_self_eq_false, Int.reduceAdd, Int.reduceSub, Int.reduceMul, Int.reduceTMod, Int.reduceTDiv, Int.reduceMod, Int.reduceDiv, Int.reducePow, Nat.reducePow, Nat.reduceMod, Nat.reduceDiv, reduceCtorEq, ↓reduceIte, if_true, if_false, ne_eq, gt_iff_lt, ge_iff_le, Int.natCast_add, Int.cast_ofNat_Int, List.append_eq, implies_true, beq_self_eq_true, tyb, tO, tV, hi', hg, hw, hq, hq2, hq3, acV, hk, hn, d1, List.map_append, List.cons_append, List.nil_append, List.length_append, List.length_cons, List.length_nil, Nat.zero_add, List.map_cons, List.map_nil]
theorem set_yes1 (hx : a[i]? = some x) (hl : a.length ≤ 200) (hA : A1.length ≤ 1000000)
    (d1 : E.F 28 [.ptr 100000 0 0, actA x.k x.n x.t] (lnI p0 p1 m l) = some ((.int .i64 0, lnX q0 q1 m l'), True))
    (hk : x.k = 1) (hn : ¬ x.n.tmod 2 = 0) :
    E.L 6 9 (tV a i) (tO p0 p1 m l A0 A1) = E.L 6 9 (tV a (i + 1)) (tO q0 q1 m l' A0 (A1 ++ [x.t])) := by
  have hil : i < a.length := by
    obtain ⟨h, _⟩ := List.getElem?_eq_some_iff.1 hx
    exact h
  have hi' : (i : Int) < a.length := by omega
  have hg := getD_map (f := acV) hx
  have hw : IntKind.i64.wrap ((i : Int) + 1) = i + 1 := wrap_id (by omega) (by omega)
  have hq : (0 ≤ (i : Int)) = True := eq_true (by omega)
  have hn' : (x.n.tmod 2 != 0) = true := by simp [hn]
  have hq2 : ((A1.length + 1) * 16 ≤ 140737488355328 ∧ A1.length ≤ 9223372036854775806) = True := eq_true (by omega)
  have hq3 : (0 ≤ (i : Int) ∧ (A1.length + 1) * 16 ≤ 140737488355328 ∧ A1.length ≤ 9223372036854775806) = True := eq_true (by omega)
  simp only [lnI, lnX, lnB, lnT, actA, hk, List.map_append, List.cons_append, List.nil_append] at d1
  rw [l6_9]
  simp (maxSteps := 100000000) only [ivb, anf, Aw.orN, stCall_fn, stNo, noV, noA, avOf, xF_P, xF_G, xF_S, xF_A, xF_f, xF_ps, xF_cx, xF_ret, xF_normal, xF_exit, xL_P, xL_G, xL_S, xL_A, xL_f, xL_ps, xL_cx, xL_ret, xL_normal, xL_exit, canR_some, cxE_P, cxE_G, cxE_n, frzM, frzM.frzO, frzM.frzP, frzW, rowsN, kidsN, frzL, frzL.frzO, frzL.frzP, frzA, frzH, fixV.fixG, fixV.fixQ, fixV.fixR, fixA, fixA.fixS, fixA.fixI, fixV.fixU, fixV.fixT, ltPs, nmS, obsOf, obs0, reach, nums, swp, tau, frN, surv, freE, mkHO, dom, stayA, stay, isArg, inOk, psL, modeF, modeL, resAs, resA, pinsC, HO.lost, HO.bad, dropAll, hp_cons, hp_nil, newH_app, rls_nil, rls_cons, ob_rl, immB_eq, ren, ren.rens, renOb, sub, sub.subs, subOb, kill, argsH, args0, closedL, Ob.refs, wrapg, opnds, outside, headOut, frL, aev, allB, vop, binv, binA, eqL, eqAnd, vload, cut, fits, vindexAddr, vindex, vslice, bnd, vlen, vmin, vbuiltin, nilR, sstore, vstore, stcells, putl, put1, salloc, aop, fillE, vbuild, fillS, setl, spick, sappend, vappend, srcE, badOf, orcGet, List.zip_cons_cons, List.zip_nil_left, List.isEmpty_nil, List.isEmpty_cons, List.reverse_cons, List.reverse_nil, List.append_assoc, List.filter_cons, List.filter_nil, Option.getD_some, Option.getD_none, Option.isSome_some, Option.isSome_none, eq_self, Nat.reduceEqDiff, Nat.reduceLT, Nat.reduceLeDiff, Nat.reduceAdd, Nat.reduceMul, Nat.reduceSub, Nat.reduceBEq, Int.reduceEq, Int.reduceLT, Int.reduceLE, Int.reduceNeg, Int.reduceToNat, Int.reduceBEq, Int.reduceBNe, Nat.reduceBNe, bne_self_eq_false, Int.reduceAdd, Int.reduceSub, Int.reduceMul, Int.reduceTMod, Int.reduceTDiv, Int.reduceMod, Int.reduceDiv, Int.reducePow, Nat.reducePow, Nat.reduceMod, Nat.reduceDiv, reduceCtorEq, ↓reduceIte, if_true, if_false, ne_eq, gt_iff_lt, ge_iff_le, Int.natCast_add, Int.cast_ofNat_Int, List.append_eq, implies_true, beq_self_eq_true, tyb, tO, tV, hi', hg, hw, hq, hq2, hq3, acV, hk, hn', d1, List.map_append, List.cons_append, List.nil_append, List.length_append, List.length_cons, List.length_nil, Nat.zero_add, List.map_cons, List.map_nil]
end
end Go.Proofs.Ytmjfccnmeiagbaa
