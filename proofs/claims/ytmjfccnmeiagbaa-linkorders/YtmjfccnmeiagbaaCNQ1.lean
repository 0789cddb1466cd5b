/- LinkOrders: what was sent. -/
import Derived.Test.YtmjfccnmeiagbaaCNY2
import Derived.Test.YtmjfccnmeiagbaaCNP3
namespace Go.Proofs.Ytmjfccnmeiagbaa
open Go Go.Aw
set_option linter.unusedSimpArgs false
set_option linter.unusedVariables false
set_option maxRecDepth 100000
set_option maxHeartbeats 40000000
def sO (p0 p1 : List Fr) (m : Int) (l : Ln) (A : List ByteArray) : HL := [lnB 100001 100002 60002 60003 60004 60005 p0 p1 l, (60000, ⟨false, 1, []⟩), (60001, ⟨false, 1, A.map .str⟩)] ++ lnT 100001 100002 60002 60003 60004 60005 60006 60007 p0 p1 m l
def sV (a : List Ac) (i e : Int) (A : List ByteArray) : List AV := [.ptr 100000 0 0, .int .i64 e, .sl 60000 0 0, .bool false, .sl 60001 0 A.length, .ro 3 (a.map acV), .int .i64 a.length, .int .i64 i]
theorem sent_no {m c : Int} {e : Int} {l l' : Ln} {p0 p1 q0 q1 : List Fr} {A : List ByteArray} {a : List Ac} {i : Nat} {x : Ac} (hx : a[i]? = some x) (hl : a.length ≤ 200) (hc : ¬ c = 400)
    (d1 : E.F 28 [.ptr 100000 0 0, actA x.k x.n x.t] (lnI p0 p1 m l) = some ((.int .i64 c, lnX q0 q1 m l'), True))
    (hb : (c == 0 && x.k == 1 && ((x.n.tmod 2 != 0) == (e == 1))) = false) :
    E.L 24 4 (sV a i e A) (sO p0 p1 m l A) = E.L 24 4 (sV a (i + 1) e A) (sO q0 q1 m l' A) := by
  have hil : i < a.length := by
    obtain ⟨h, _⟩ := List.getElem?_eq_some_iff.1 hx
    exact h
  have hi' : (i : Int) < a.length := by omega
  have hg := getD_map (f := acV) hx
  have hw : IntKind.i64.wrap ((i : Int) + 1) = i + 1 := wrap_id (by omega) (by omega)
  have hq : (0 ≤ (i : Int)) = True := eq_true (by omega)
  have hc' : (c == 400) = false := by simp [hc]
  simp only [lnI, lnX, lnB, lnT, actA, List.map_append, List.cons_append, List.nil_append] at d1
  rw [l24_4]
  simp (maxSteps := 100000000) only [ivb, anf, Aw.orN, stCall_fn, stNo, avOf, xF_P, xF_G, xF_S, xF_A, xF_f, xF_ps, xF_cx, xF_ret, xF_normal, xF_exit, xL_P, xL_G, xL_S, xL_A, xL_f, xL_ps, xL_cx, xL_ret, xL_normal, xL_exit, canR_some, cxE_P, cxE_G, cxE_n, frzM, frzM.frzO, frzM.frzP, frzW, rowsN, kidsN, frzL, frzL.frzO, frzL.frzP, frzA, frzH, fixV.fixG, fixV.fixQ, fixV.fixR, fixA, fixA.fixS, fixA.fixI, fixV.fixU, fixV.fixT, ltPs, nmS, obsOf, obs0, reach, nums, swp, tau, frN, surv, freE, mkHO, dom, stayA, stay, isArg, inOk, psL, modeF, modeL, resAs, resA, pinsC, HO.lost, HO.bad, dropAll, hp_cons, hp_nil, newH_app, rls_nil, rls_cons, ob_rl, immB_eq, ren, ren.rens, renOb, sub, sub.subs, subOb, kill, argsH, args0, closedL, Ob.refs, wrapg, opnds, outside, headOut, frL, aev, allB, vop, binv, binA, eqL, eqAnd, vload, cut, fits, vindexAddr, vindex, vslice, bnd, vlen, vmin, vbuiltin, nilR, sstore, vstore, stcells, putl, put1, salloc, aop, fillE, vbuild, fillS, setl, spick, sappend, vappend, srcE, badOf, orcGet, List.zip_cons_cons, List.zip_nil_left, List.isEmpty_nil, List.isEmpty_cons, List.reverse_cons, List.reverse_nil, List.append_assoc, List.filter_cons, List.filter_nil, Option.getD_some, Option.getD_none, Option.isSome_some, Option.isSome_none, eq_self, Nat.reduceEqDiff, Nat.reduceLT, Nat.reduceLeDiff, Nat.reduceAdd, Nat.reduceMul, Nat.reduceSub, Nat.reduceBEq, Int.reduceEq, Int.reduceLT, Int.reduceLE, Int.reduceNeg, Int.reduceToNat, Int.reduceBEq, Int.reduceBNe, Nat.reduceBNe, bne_self_eq_false, Int.reduceAdd, Int.reduceSub, Int.reduceMul, Int.reduceTMod, Int.reduceTDiv, Int.reduceMod, Int.reduceDiv, Int.reducePow, Nat.reducePow, Nat.reduceMod, Nat.reduceDiv, reduceCtorEq, ↓reduceIte, if_true, if_false, ne_eq, gt_iff_lt, ge_iff_le, Int.natCast_add, Int.cast_ofNat_Int, List.append_eq, implies_true, beq_self_eq_true, tyb, sO, sV, lnB, lnT, hi', hg, hw, hq, acV, d1, hb, hc', List.map_append, List.cons_append, List.nil_append]
end Go.Proofs.Ytmjfccnmeiagbaa
