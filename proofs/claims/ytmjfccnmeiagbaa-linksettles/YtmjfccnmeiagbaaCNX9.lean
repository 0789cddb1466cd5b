/- A line: all acts, both roads. -/
import Derived.Test.YtmjfccnmeiagbaaCNX8
namespace Go.Proofs.Ytmjfccnmeiagbaa
open Go Go.Aw
set_option linter.unusedSimpArgs false
set_option linter.unusedVariables false
set_option maxRecDepth 100000
set_option maxHeartbeats 40000000
def actA (k n : Int) (t : ByteArray) : AV := .agg [.int .i64 k, .int .i64 n, .str t]
theorem do_conn_up {m n : Int} {l : Ln} {p0 p1 : List Fr} {t : ByteArray} (h : l.up = true) : E.F 28 [.ptr 100000 0 0, actA 4 n t] (lnI p0 p1 m l) = some ((.int .i64 0, lnX p0 p1 m l), True) := by
  have hs := index_ev (n := n)
  have hb := conn_up (m := m) (l := l) (p0 := p0) (p1 := p1) h
  simp only [lnI, lnX, lnB, lnT, List.map_append] at hb
  rw [e28]
  simp (maxSteps := 100000000) only [ivb, anf, Aw.orN, stCall_fn, stNo, noV, noA, avOf, xF_P, xF_G, xF_S, xF_A, xF_f, xF_ps, xF_cx, xF_ret, xF_normal, xF_exit, xL_P, xL_G, xL_S, xL_A, xL_f, xL_ps, xL_cx, xL_ret, xL_normal, xL_exit, canR_some, cxE_P, cxE_G, cxE_n, frzM, frzM.frzO, frzM.frzP, frzW, rowsN, kidsN, frzL, frzL.frzO, frzL.frzP, frzA, frzH, fixV.fixG, fixV.fixQ, fixV.fixR, fixA, fixA.fixS, fixA.fixI, fixV.fixU, fixV.fixT, ltPs, nmS, obsOf, obs0, reach, nums, swp, tau, frN, surv, freE, mkHO, dom, stayA, stay, isArg, inOk, psL, modeF, modeL, resAs, resA, pinsC, HO.lost, HO.bad, dropAll, hp_cons, hp_nil, newH_app, rls_nil, rls_cons, ob_rl, immB_eq, ren, ren.rens, renOb, sub, sub.subs, subOb, kill, argsH, args0, closedL, Ob.refs, wrapg, opnds, outside, headOut, frL, aev, allB, vop, binv, binA, eqL, eqAnd, vload, cut, fits, vindexAddr, vindex, vslice, bnd, vlen, vmin, vbuiltin, nilR, sstore, vstore, stcells, putl, put1, salloc, aop, fillE, vbuild, fillS, setl, spick, sappend, vappend, srcE, badOf, orcGet, List.zip_cons_cons, List.zip_nil_left, List.isEmpty_nil, List.isEmpty_cons, List.reverse_cons, List.reverse_nil, List.append_assoc, List.filter_cons, List.filter_nil, Option.getD_some, Option.getD_none, Option.isSome_some, Option.isSome_none, eq_self, Nat.reduceEqDiff, Nat.reduceLT, Nat.reduceLeDiff, Nat.reduceAdd, Nat.reduceMul, Nat.reduceSub, Nat.reduceBEq, Int.reduceEq, Int.reduceLT, Int.reduceLE, Int.reduceNeg, Int.reduceToNat, Int.reduceBEq, Int.reduceBNe, Nat.reduceBNe, bne_self_eq_false, Int.reduceAdd, Int.reduceSub, Int.reduceMul, Int.reduceTMod, Int.reduceTDiv, Int.reduceMod, Int.reduceDiv, Int.reducePow, Nat.reducePow, Nat.reduceMod, Nat.reduceDiv, reduceCtorEq, ↓reduceIte, if_true, if_false, ne_eq, gt_iff_lt, ge_iff_le, Int.natCast_add, Int.cast_ofNat_Int, List.append_eq, implies_true, beq_self_eq_true, tyb, e3, e4, e5, e6, e7, e8, e9, e10, e11, e12, e13, e14, e15, e16, e17, e18, e19, e20, e21, e22, e23, e24, e25, e26, e27, e29, e30, e31, e32, e33, e34, e35, e37, e38, e39, e40, e41, e43, e44, e45, e46, e47, actA, lnI, lnX, lnB, lnT, hs, hb, List.map_append]
theorem do_conn_go {m N n : Int} {l : Ln} {p0 p1 : List Fr} {e0' e1' : En} {f0 f1 : List Fr} {t : ByteArray} (hi0 : Inv m N l.e0) (hi1 : Inv m N l.e1) (h : l.up = false) (h0 : connM l.e0 = (e0', f0, 0)) (h1 : connM l.e1 = (e1', f1, 0)) (hu0 : l.u0.length ≤ 1000000) (hu1 : l.u1.length ≤ 1000000) :
    E.F 28 [.ptr 100000 0 0, actA 4 n t] (lnI p0 p1 m l) = some ((.int .i64 0, lnX [] [] m { l with e0 := e0', e1 := e1', u1 := l.u1 ++ f0, u0 := l.u0 ++ f1, up := true }), True) := by
  have hs := index_ev (n := n)
  have hb := conn_go (p0 := p0) (p1 := p1) hi0 hi1 h h0 h1 hu0 hu1
  simp only [lnI, lnX, lnB, lnT, List.map_append, List.length_append, List.nil_append, List.length_nil] at hb
  rw [e28]
  simp (maxSteps := 100000000) only [ivb, anf, Aw.orN, stCall_fn, stNo, noV, noA, avOf, xF_P, xF_G, xF_S, xF_A, xF_f, xF_ps, xF_cx, xF_ret, xF_normal, xF_exit, xL_P, xL_G, xL_S, xL_A, xL_f, xL_ps, xL_cx, xL_ret, xL_normal, xL_exit, canR_some, cxE_P, cxE_G, cxE_n, frzM, frzM.frzO, frzM.frzP, frzW, rowsN, kidsN, frzL, frzL.frzO, frzL.frzP, frzA, frzH, fixV.fixG, fixV.fixQ, fixV.fixR, fixA, fixA.fixS, fixA.fixI, fixV.fixU, fixV.fixT, ltPs, nmS, obsOf, obs0, reach, nums, swp, tau, frN, surv, freE, mkHO, dom, stayA, stay, isArg, inOk, psL, modeF, modeL, resAs, resA, pinsC, HO.lost, HO.bad, dropAll, hp_cons, hp_nil, newH_app, rls_nil, rls_cons, ob_rl, immB_eq, ren, ren.rens, renOb, sub, sub.subs, subOb, kill, argsH, args0, closedL, Ob.refs, wrapg, opnds, outside, headOut, frL, aev, allB, vop, binv, binA, eqL, eqAnd, vload, cut, fits, vindexAddr, vindex, vslice, bnd, vlen, vmin, vbuiltin, nilR, sstore, vstore, stcells, putl, put1, salloc, aop, fillE, vbuild, fillS, setl, spick, sappend, vappend, srcE, badOf, orcGet, List.zip_cons_cons, List.zip_nil_left, List.isEmpty_nil, List.isEmpty_cons, List.reverse_cons, List.reverse_nil, List.append_assoc, List.filter_cons, List.filter_nil, Option.getD_some, Option.getD_none, Option.isSome_some, Option.isSome_none, eq_self, Nat.reduceEqDiff, Nat.reduceLT, Nat.reduceLeDiff, Nat.reduceAdd, Nat.reduceMul, Nat.reduceSub, Nat.reduceBEq, Int.reduceEq, Int.reduceLT, Int.reduceLE, Int.reduceNeg, Int.reduceToNat, Int.reduceBEq, Int.reduceBNe, Nat.reduceBNe, bne_self_eq_false, Int.reduceAdd, Int.reduceSub, Int.reduceMul, Int.reduceTMod, Int.reduceTDiv, Int.reduceMod, Int.reduceDiv, Int.reducePow, Nat.reducePow, Nat.reduceMod, Nat.reduceDiv, reduceCtorEq, ↓reduceIte, if_true, if_false, ne_eq, gt_iff_lt, ge_iff_le, Int.natCast_add, Int.cast_ofNat_Int, List.append_eq, implies_true, beq_self_eq_true, tyb, e3, e4, e5, e6, e7, e8, e9, e10, e11, e12, e13, e14, e15, e16, e17, e18, e19, e20, e21, e22, e23, e24, e25, e26, e27, e29, e30, e31, e32, e33, e34, e35, e37, e38, e39, e40, e41, e43, e44, e45, e46, e47, actA, lnI, lnX, lnB, lnT, hs, hb, List.map_append, List.length_append, List.nil_append, List.length_nil]
theorem do_carry0 {m n c : Int} {l l' : Ln} {p0 p1 q0 q1 : List Fr} {t : ByteArray} (hn : n.tmod 2 = 0) (hb : E.F 40 [.ptr 100000 0 0, .int .i64 0] (lnI p0 p1 m l) = some ((.int .i64 c, lnX q0 q1 m l'), True)) :
    E.F 28 [.ptr 100000 0 0, actA 2 n t] (lnI p0 p1 m l) = some ((.int .i64 c, lnX q0 q1 m l'), True) := by
  have hs := index_ev (n := n)
  rw [if_pos hn] at hs
  simp only [lnI, lnX, lnB, lnT, List.map_append] at hb
  rw [e28]
  simp (maxSteps := 100000000) only [ivb, anf, Aw.orN, stCall_fn, stNo, noV, noA, avOf, xF_P, xF_G, xF_S, xF_A, xF_f, xF_ps, xF_cx, xF_ret, xF_normal, xF_exit, xL_P, xL_G, xL_S, xL_A, xL_f, xL_ps, xL_cx, xL_ret, xL_normal, xL_exit, canR_some, cxE_P, cxE_G, cxE_n, frzM, frzM.frzO, frzM.frzP, frzW, rowsN, kidsN, frzL, frzL.frzO, frzL.frzP, frzA, frzH, fixV.fixG, fixV.fixQ, fixV.fixR, fixA, fixA.fixS, fixA.fixI, fixV.fixU, fixV.fixT, ltPs, nmS, obsOf, obs0, reach, nums, swp, tau, frN, surv, freE, mkHO, dom, stayA, stay, isArg, inOk, psL, modeF, modeL, resAs, resA, pinsC, HO.lost, HO.bad, dropAll, hp_cons, hp_nil, newH_app, rls_nil, rls_cons, ob_rl, immB_eq, ren, ren.rens, renOb, sub, sub.subs, subOb, kill, argsH, args0, closedL, Ob.refs, wrapg, opnds, outside, headOut, frL, aev, allB, vop, binv, binA, eqL, eqAnd, vload, cut, fits, vindexAddr, vindex, vslice, bnd, vlen, vmin, vbuiltin, nilR, sstore, vstore, stcells, putl, put1, salloc, aop, fillE, vbuild, fillS, setl, spick, sappend, vappend, srcE, badOf, orcGet, List.zip_cons_cons, List.zip_nil_left, List.isEmpty_nil, List.isEmpty_cons, List.reverse_cons, List.reverse_nil, List.append_assoc, List.filter_cons, List.filter_nil, Option.getD_some, Option.getD_none, Option.isSome_some, Option.isSome_none, eq_self, Nat.reduceEqDiff, Nat.reduceLT, Nat.reduceLeDiff, Nat.reduceAdd, Nat.reduceMul, Nat.reduceSub, Nat.reduceBEq, Int.reduceEq, Int.reduceLT, Int.reduceLE, Int.reduceNeg, Int.reduceToNat, Int.reduceBEq, Int.reduceBNe, Nat.reduceBNe, bne_self_eq_false, Int.reduceAdd, Int.reduceSub, Int.reduceMul, Int.reduceTMod, Int.reduceTDiv, Int.reduceMod, Int.reduceDiv, Int.reducePow, Nat.reducePow, Nat.reduceMod, Nat.reduceDiv, reduceCtorEq, ↓reduceIte, if_true, if_false, ne_eq, gt_iff_lt, ge_iff_le, Int.natCast_add, Int.cast_ofNat_Int, List.append_eq, implies_true, beq_self_eq_true, tyb, e3, e4, e5, e6, e7, e8, e9, e10, e11, e12, e13, e14, e15, e16, e17, e18, e19, e20, e21, e22, e23, e24, e25, e26, e27, e29, e30, e31, e32, e33, e34, e35, e37, e38, e39, e41, e42, e43, e44, e45, e46, e47, actA, lnI, lnX, lnB, lnT, hs, hb, List.map_append]
theorem do_carry1 {m n c : Int} {l l' : Ln} {p0 p1 q0 q1 : List Fr} {t : ByteArray} (hn : ¬ n.tmod 2 = 0) (hb : E.F 40 [.ptr 100000 0 0, .int .i64 1] (lnI p0 p1 m l) = some ((.int .i64 c, lnX q0 q1 m l'), True)) :
    E.F 28 [.ptr 100000 0 0, actA 2 n t] (lnI p0 p1 m l) = some ((.int .i64 c, lnX q0 q1 m l'), True) := by
  have hs := index_ev (n := n)
  rw [if_neg hn] at hs
  simp only [lnI, lnX, lnB, lnT, List.map_append] at hb
  rw [e28]
  simp (maxSteps := 100000000) only [ivb, anf, Aw.orN, stCall_fn, stNo, noV, noA, avOf, xF_P, xF_G, xF_S, xF_A, xF_f, xF_ps, xF_cx, xF_ret, xF_normal, xF_exit, xL_P, xL_G, xL_S, xL_A, xL_f, xL_ps, xL_cx, xL_ret, xL_normal, xL_exit, canR_some, cxE_P, cxE_G, cxE_n, frzM, frzM.frzO, frzM.frzP, frzW, rowsN, kidsN, frzL, frzL.frzO, frzL.frzP, frzA, frzH, fixV.fixG, fixV.fixQ, fixV.fixR, fixA, fixA.fixS, fixA.fixI, fixV.fixU, fixV.fixT, ltPs, nmS, obsOf, obs0, reach, nums, swp, tau, frN, surv, freE, mkHO, dom, stayA, stay, isArg, inOk, psL, modeF, modeL, resAs, resA, pinsC, HO.lost, HO.bad, dropAll, hp_cons, hp_nil, newH_app, rls_nil, rls_cons, ob_rl, immB_eq, ren, ren.rens, renOb, sub, sub.subs, subOb, kill, argsH, args0, closedL, Ob.refs, wrapg, opnds, outside, headOut, frL, aev, allB, vop, binv, binA, eqL, eqAnd, vload, cut, fits, vindexAddr, vindex, vslice, bnd, vlen, vmin, vbuiltin, nilR, sstore, vstore, stcells, putl, put1, salloc, aop, fillE, vbuild, fillS, setl, spick, sappend, vappend, srcE, badOf, orcGet, List.zip_cons_cons, List.zip_nil_left, List.isEmpty_nil, List.isEmpty_cons, List.reverse_cons, List.reverse_nil, List.append_assoc, List.filter_cons, List.filter_nil, Option.getD_some, Option.getD_none, Option.isSome_some, Option.isSome_none, eq_self, Nat.reduceEqDiff, Nat.reduceLT, Nat.reduceLeDiff, Nat.reduceAdd, Nat.reduceMul, Nat.reduceSub, Nat.reduceBEq, Int.reduceEq, Int.reduceLT, Int.reduceLE, Int.reduceNeg, Int.reduceToNat, Int.reduceBEq, Int.reduceBNe, Nat.reduceBNe, bne_self_eq_false, Int.reduceAdd, Int.reduceSub, Int.reduceMul, Int.reduceTMod, Int.reduceTDiv, Int.reduceMod, Int.reduceDiv, Int.reducePow, Nat.reducePow, Nat.reduceMod, Nat.reduceDiv, reduceCtorEq, ↓reduceIte, if_true, if_false, ne_eq, gt_iff_lt, ge_iff_le, Int.natCast_add, Int.cast_ofNat_Int, List.append_eq, implies_true, beq_self_eq_true, tyb, e3, e4, e5, e6, e7, e8, e9, e10, e11, e12, e13, e14, e15, e16, e17, e18, e19, e20, e21, e22, e23, e24, e25, e26, e27, e29, e30, e31, e32, e33, e34, e35, e37, e38, e39, e41, e42, e43, e44, e45, e46, e47, actA, lnI, lnX, lnB, lnT, hs, hb, List.map_append]
theorem connM_up {e : En} (h : e.st = 0) : connM e = ((connM e).1, (connM e).2.1, 0) := by simp [connM, h]
theorem do_ev {m N : Int} {l : Ln} {p0 p1 : List Fr} {k n : Int} {t : ByteArray} (h0 : 0 ≤ N) (hN : N ≤ 5000) (h : LInv m N l) (hp0 : (p0.length : Int) ≤ N) (hp1 : (p1.length : Int) ≤ N) :
    ∃ q0 q1 : List Fr, (q0.length : Int) ≤ N + 1 ∧ (q1.length : Int) ≤ N + 1 ∧
    E.F 28 [.ptr 100000 0 0, actA k n t] (lnI p0 p1 m l) = some ((.int .i64 (doM m l k n t).2, lnX q0 q1 m (doM m l k n t).1), True) ∧
    E.F 38 [lnR m l, actA k n t] [] = some ((.tup [lnR m (doM m l k n t).1, .int .i64 (doM m l k n t).2], []), True) := by
  obtain ⟨i0, i1, a0, a1, b0, b1, dn, un⟩ := h
  unfold doM
  split
  · rename_i hk
    subst hk
    unfold sendL
    by_cases hn : n.tmod 2 = 0
    · simp only [hn, decide_true, if_true]
      exact ⟨p0, [], by omega, by simp; omega, do_send0 i0 (by omega) hn rfl (by omega), rdo_send0 i0 (by omega) hn rfl (by omega)⟩
    · simp only [hn, decide_false, Bool.false_eq_true, if_false]
      exact ⟨[], p1, by simp; omega, by omega, do_send1 i1 (by omega) hn rfl (by omega), rdo_send1 i1 (by omega) hn rfl (by omega)⟩
  split
  · rename_i hk
    subst hk
    split
    · rename_i hn
      unfold carry0
      split
      · rename_i hu
        exact ⟨p0, p1, by omega, by omega, do_carry0 hn (carry_none0 hu), rdo_none0 hn hu⟩
      · rename_i f u hu
        have hul : u.length ≤ 1000000 := by rw [hu] at a0; simp at a0; omega
        split
        · rename_i hc
          refine ⟨[], [], by simp; omega, by simp; omega, do_carry0 hn ?_, ?_⟩
          · exact carry_gap0 (ds := (takeM l.e0 f).2.1) (fr := (takeM l.e0 f).2.2.1) (c := 400) i0 (by omega) hu (by rw [← hc]) hul (by omega) rfl (by omega)
          · exact rdo_gap0 (ds := (takeM l.e0 f).2.1) (fr := (takeM l.e0 f).2.2.1) (c := 400) i0 (by omega) hn hu (by rw [← hc]) (by omega)
        · rename_i hc
          have hup : l.up = true := by
            cases hh : l.up with
            | true => rfl
            | false => have := (dn hh).2.2.1; rw [hu] at this; cases this
          rcases take_code (f := f) (un hup).1 with z | z
          · refine ⟨p0 ++ [f], [], by simp; omega, by simp; omega, do_carry0 hn ?_, ?_⟩
            · exact carry_go0 i0 (by omega) hu rfl (by omega) hul (by omega) hc (by omega)
            · rw [z.1]
              exact rdo_carry0 i0 (by omega) hn hu rfl (by omega) z.1 (by omega)
          · exact absurd z hc
    · rename_i hn
      unfold carry1
      split
      · rename_i hu
        exact ⟨p0, p1, by omega, by omega, do_carry1 hn (carry_none1 hu), rdo_none1 hn hu⟩
      · rename_i f u hu
        have hul : u.length ≤ 1000000 := by rw [hu] at a1; simp at a1; omega
        split
        · rename_i hc
          refine ⟨[], [], by simp; omega, by simp; omega, do_carry1 hn ?_, ?_⟩
          · exact carry_gap1 (ds := (takeM l.e1 f).2.1) (fr := (takeM l.e1 f).2.2.1) (c := 400) i1 (by omega) hu (by rw [← hc]) hul (by omega) rfl (by omega)
          · exact rdo_gap1 (ds := (takeM l.e1 f).2.1) (fr := (takeM l.e1 f).2.2.1) (c := 400) i1 (by omega) hn hu (by rw [← hc]) (by omega)
        · rename_i hc
          have hup : l.up = true := by
            cases hh : l.up with
            | true => rfl
            | false => have := (dn hh).2.2.2; rw [hu] at this; cases this
          rcases take_code (f := f) (un hup).2 with z | z
          · refine ⟨[], p1 ++ [f], by simp; omega, by simp; omega, do_carry1 hn ?_, ?_⟩
            · exact carry_go1 i1 (by omega) hu rfl (by omega) hul (by omega) hc (by omega)
            · rw [z.1]
              exact rdo_carry1 i1 (by omega) hn hu rfl (by omega) z.1 (by omega)
          · exact absurd z hc
  split
  · rename_i hk
    subst hk
    exact ⟨[], [], by simp; omega, by simp; omega, do_cut, rdo_cut⟩
  split
  · rename_i hk
    subst hk
    unfold connL
    by_cases hup : l.up = true
    · simp only [hup, if_true]
      exact ⟨p0, p1, by omega, by omega, do_conn_up hup, rdo_up hup⟩
    · simp only [hup, Bool.false_eq_true, if_false]
      have hup : l.up = false := by simpa using hup
      obtain ⟨x1, x2, x3, x4⟩ := dn hup
      exact ⟨[], [], by simp; omega, by simp; omega, do_conn_go i0 i1 hup (connM_up x1) (connM_up x2) (by omega) (by omega), rdo_conn i0 i1 hup (connM_up x1) (connM_up x2) (by omega) (by omega)⟩
  · rename_i k1 k2 k3 k4
    exact ⟨p0, p1, by omega, by omega, do_bad k1 k2 k3 k4, rdo_bad k1 k2 k3 k4⟩
end Go.Proofs.Ytmjfccnmeiagbaa
