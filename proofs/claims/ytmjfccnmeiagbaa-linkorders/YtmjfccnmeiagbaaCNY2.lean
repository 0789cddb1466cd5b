/- LinkRuns: the inner loop. -/
import Derived.Test.YtmjfccnmeiagbaaCNY1
namespace Go.Proofs.Ytmjfccnmeiagbaa
open Go Go.Aw
set_option linter.unusedSimpArgs false
set_option linter.unusedVariables false
set_option maxRecDepth 100000
set_option maxHeartbeats 40000000
structure Ac where
  k : Int
  n : Int
  t : ByteArray
def acV (a : Ac) : AV := .agg [.int .i64 a.k, .int .i64 a.n, .str a.t]
instance rf_ac : RowF acV := ⟨fun _ => rfl, fun _ => rfl⟩
def pO (p0 p1 : List Fr) (m : Int) (l : Ln) : HL := [(60000, ⟨true, 4, [.agg [.nilsl, .nilsl, .nilsl, .bool false]]⟩),
  (60001, ⟨true, 7, [.agg [.ptr 60003 0 0, .ptr 60004 0 0, .sl 60005 p0.length l.u0.length, .sl 60006 p1.length l.u1.length, .sl 60007 0 l.d0.length, .sl 60008 0 l.d1.length, .bool l.up]]⟩),
  (60002, ⟨true, 4, [lnR m l]⟩)] ++ lnT 60003 60004 60005 60006 60007 60008 60009 60010 p0 p1 m l
def pV (a : List Ac) (i : Int) : List AV := [.nilp, .ptr 60000 0 0, .bool false, .ptr 60001 0 0, .ptr 60002 0 0, .ro 3 (a.map acV), .int .i64 a.length, .int .i64 i]
theorem inner_ev {m : Int} {l : Ln} {p0 p1 : List Fr} {a : List Ac} {i : Int} (h0 : l.e0.held.length ≤ 1000000) (h1 : l.e1.held.length ≤ 1000000) (h2 : l.d0.length ≤ 1000000) (h3 : l.d1.length ≤ 1000000) (h4 : l.u0.length ≤ 1000000) (h5 : l.u1.length ≤ 1000000) :
    E.L 27 15 (pV a i ++ [.int .i64 0]) (pO p0 p1 m l) = some ((.exit 2, pV a i ++ [.int .i64 2], pO p0 p1 m l), True) := by
  have s0 := lstat0_ev (m := m) (p0 := p0) (p1 := p1) h0
  have s1 := lstat1_ev (m := m) (p0 := p0) (p1 := p1) h1
  have d0 := deliv0_ev (m := m) (p0 := p0) (p1 := p1) h2
  have d1 := deliv1_ev (m := m) (p0 := p0) (p1 := p1) h3
  have u0 := under0_ev (m := m) (p0 := p0) (p1 := p1) h4
  have u1 := under1_ev (m := m) (p0 := p0) (p1 := p1) h5
  have k0 := like_ev (m := m) h0
  have k1 := like_ev (m := m) h1
  have q0 := eqs_ev h2 h2
  have q1 := eqs_ev h3 h3
  have f0 := frames_ev h4
  have f1 := frames_ev h5
  have g0 := eqf_ev h4 h4
  have g1 := eqf_ev h5 h5
  simp only [lnI, lnB, lnT, enR, List.map_append, decide_true] at s0 s1 d0 d1 u0 u1 k0 k1 q0 q1 g0 g1
  rw [l27_15]
  simp (maxSteps := 100000000) only [ivb, anf, Aw.orN, stCall_fn, stNo, avOf, xF_P, xF_G, xF_S, xF_A, xF_f, xF_ps, xF_cx, xF_ret, xF_normal, xF_exit, xL_P, xL_G, xL_S, xL_A, xL_f, xL_ps, xL_cx, xL_ret, xL_normal, xL_exit, canR_some, cxE_P, cxE_G, cxE_n, frzM, frzM.frzO, frzM.frzP, frzW, rowsN, kidsN, frzL, frzL.frzO, frzL.frzP, frzA, frzH, fixV.fixG, fixV.fixQ, fixV.fixR, fixA, fixA.fixS, fixA.fixI, fixV.fixU, fixV.fixT, ltPs, nmS, obsOf, obs0, reach, nums, swp, tau, frN, surv, freE, mkHO, dom, stayA, stay, isArg, inOk, psL, modeF, modeL, resAs, resA, pinsC, HO.lost, HO.bad, dropAll, hp_cons, hp_nil, newH_app, rls_nil, rls_cons, ob_rl, immB_eq, ren, ren.rens, renOb, sub, sub.subs, subOb, kill, argsH, args0, closedL, Ob.refs, wrapg, opnds, outside, headOut, frL, aev, allB, vop, binv, binA, eqL, eqAnd, vload, cut, fits, vindexAddr, vindex, vslice, bnd, vlen, vmin, vbuiltin, nilR, sstore, vstore, stcells, putl, put1, salloc, aop, fillE, vbuild, fillS, setl, spick, sappend, vappend, srcE, badOf, orcGet, List.zip_cons_cons, List.zip_nil_left, List.isEmpty_nil, List.isEmpty_cons, List.reverse_cons, List.reverse_nil, List.append_assoc, List.filter_cons, List.filter_nil, Option.getD_some, Option.getD_none, Option.isSome_some, Option.isSome_none, eq_self, Nat.reduceEqDiff, Nat.reduceLT, Nat.reduceLeDiff, Nat.reduceAdd, Nat.reduceMul, Nat.reduceSub, Nat.reduceBEq, Int.reduceEq, Int.reduceLT, Int.reduceLE, Int.reduceNeg, Int.reduceToNat, Int.reduceBEq, Int.reduceBNe, Nat.reduceBNe, bne_self_eq_false, Int.reduceAdd, Int.reduceSub, Int.reduceMul, Int.reduceTMod, Int.reduceTDiv, Int.reduceMod, Int.reduceDiv, Int.reducePow, Nat.reducePow, Nat.reduceMod, Nat.reduceDiv, reduceCtorEq, ↓reduceIte, if_true, if_false, ne_eq, gt_iff_lt, ge_iff_le, Int.natCast_add, Int.cast_ofNat_Int, List.append_eq, implies_true, beq_self_eq_true, tyb, l27_15, pO, pV, lnR, enR, lnB, lnT, s0, s1, d0, d1, u0, u1, k0, k1, q0, q1, f0, f1, g0, g1, List.map_append, List.cons_append, List.nil_append]
end Go.Proofs.Ytmjfccnmeiagbaa
