/- LinkEnds: the law's own walk. -/
import Derived.Test.YtmjfccnmeiagbaaCNV5
import Derived.Test.YtmjfccnmeiagbaaCNU6
namespace Go.Proofs.Ytmjfccnmeiagbaa
open Go Go.Aw
set_option linter.unusedSimpArgs false
set_option linter.unusedVariables false
set_option maxRecDepth 100000
set_option maxHeartbeats 40000000
structure Mv where
  k : Int
  f : Fr
def mvV (x : Mv) : AV := .agg [.int .u8 x.k, .int .i64 x.f.k, .int .i64 x.f.n, .str x.f.t]
instance rf_mv : RowF mvV := ⟨fun _ => rfl, fun _ => rfl⟩
theorem send_var {m N : Int} {e e' : En} {t : ByteArray} {fr : List Fr} {c : Int} (hi : Inv m N e) (hN : N ≤ 1000000) (h : sendM m e t = (e', fr, c)) :
    E.F 11 [.ptr 100000 0 0, .str t] (enO 100000 100001 m e) = some ((.tup [.sl 200000 0 fr.length, .int .i64 c], (200000, ⟨false, 3, fr.map frV⟩) :: enO 100000 200001 m e'), True) ∧
    E.F 12 [enR m e, .str t] [] = some ((.tup [enR m e', .ro 3 (fr.map frV), .int .i64 c], []), True) ∧ Inv m (N + 1) e' ∧ fr.length ≤ 1 := by
  have h1 := send_ev (t := t) hi hN
  have h2 := rsend_ev (t := t) hi hN
  have h3 := inv_send (t := t) hi
  rw [h] at h1 h2 h3
  exact ⟨h1, h2, h3.1, h3.2⟩
theorem conn_var {m N : Int} {e e' : En} {fr : List Fr} {c : Int} (hi : Inv m N e) (h : connM e = (e', fr, c)) :
    E.F 15 [.ptr 100000 0 0] (enO 100000 100001 m e) = some ((.tup [.sl 200000 0 fr.length, .int .i64 c], (200000, ⟨false, 3, fr.map frV⟩) :: enO 100000 200001 m e'), True) ∧
    E.F 16 [enR m e] [] = some ((.tup [enR m e', .ro 3 (fr.map frV), .int .i64 c], []), True) ∧ Inv m (N + 1) e' ∧ fr.length ≤ 1 := by
  have h1 := conn_ev (m := m) (e := e)
  have h2 := rconn_ev (m := m) (e := e)
  have h3 := inv_conn hi
  rw [h] at h1 h2 h3
  exact ⟨h1, h2, h3.1, h3.2⟩
theorem take_var {m N : Int} {e e' : En} {k n : Int} {t : ByteArray} {ds : List ByteArray} {fr : List Fr} {c : Int} (hi : Inv m N e) (hN : N ≤ 1000000) (h : takeM e ⟨k, n, t⟩ = (e', ds, fr, c)) :
    E.F 18 [.ptr 100000 0 0, .agg [.int .i64 k, .int .i64 n, .str t]] (enO 100000 100001 m e) = some ((.tup [.sl 200000 0 ds.length, .sl 200001 0 fr.length, .int .i64 c], (200000, ⟨false, 1, ds.map .str⟩) :: (200001, ⟨false, 3, fr.map frV⟩) :: enO 100000 200002 m e'), True) ∧
    E.F 19 [enR m e, .agg [.int .i64 k, .int .i64 n, .str t]] [] = some ((.tup [enR m e', .ro 1 (ds.map .str), .ro 3 (fr.map frV), .int .i64 c], []), True) ∧ Inv m (N + 1) e' ∧ ds.length ≤ 1 ∧ fr.length ≤ 64 := by
  have h1 := take_ev (f := ⟨k, n, t⟩) hi hN
  have h2 := rtake_ev (f := ⟨k, n, t⟩) hi hN
  have h3 := inv_take (f := ⟨k, n, t⟩) hi
  rw [h] at h1 h2 h3
  exact ⟨h1, h2, h3.1, h3.2⟩
def lo (m : Int) (e : En) : HL := [(60000, ⟨true, 6, [.agg [.int .i64 e.st, .int .i64 e.sent, .int .i64 e.conf, .int .i64 e.has, .sl 60002 0 e.held.length, .int .i64 m]]⟩), (60001, ⟨true, 6, [enR m e]⟩), (60002, ⟨false, 1, e.held.map .str⟩)]
def lv (l : List Mv) (i : Int) : List AV := [.bool false, .ptr 60000 0 0, .ptr 60001 0 0, .ro 4 (l.map mvV), .int .i64 l.length, .int .i64 i]
theorem step0 {m N : Int} {e : En} {l : List Mv} {i : Nat} {x : Mv} (hi : Inv m N e) (hN : N ≤ 100000) (hx : l[i]? = some x) (hl : l.length ≤ 200) (hk : x.k.tmod 4 = 0) :
    ∃ e', Inv m (N + 1) e' ∧ E.L 3 9 (lv l i) (lo m e) = E.L 3 9 (lv l (i + 1)) (lo m e') := by
  obtain ⟨⟨e', fr, c⟩, hr⟩ : ∃ r, sendM m e x.f.t = r := ⟨_, rfl⟩
  obtain ⟨h1, h2, h3, h4⟩ := send_var hi (by omega) hr
  refine ⟨e', h3, ?_⟩
  have hil : i < l.length := by
    obtain ⟨h, _⟩ := List.getElem?_eq_some_iff.1 hx
    exact h
  have hi' : (i : Int) < l.length := by omega
  have hg := getD_map (f := mvV) hx
  have hw : IntKind.i64.wrap ((i : Int) + 1) = i + 1 := wrap_id (by omega) (by omega)
  have hc : (0 ≤ (i : Int)) = True := eq_true (by omega)
  have hh : e'.held.length ≤ 1000000 := by have := h3.hm; have := h3.m2; omega
  have f1 := framesl_ev (l := fr) (by omega)
  have f2 := eqf_ev (l := fr) (l' := fr) (by omega) (by omega)
  have f3 := status_ev (m := m) (e := e') hh
  have f4 := like_ev (m := m) (e := e') hh
  simp only [enO, enR, decide_true] at h1 h2 f2 f3 f4
  rw [l3_9]
  simp (maxSteps := 100000000) only [ivb, anf, Aw.orN, stCall_fn, stNo, noV, noA, avOf, xF_P, xF_G, xF_S, xF_A, xF_f, xF_ps, xF_cx, xF_ret, xF_normal, xF_exit, xL_P, xL_G, xL_S, xL_A, xL_f, xL_ps, xL_cx, xL_ret, xL_normal, xL_exit, canR_some, cxE_P, cxE_G, cxE_n, frzM, frzM.frzO, frzM.frzP, frzW, rowsN, kidsN, frzL, frzL.frzO, frzL.frzP, frzA, frzH, fixV.fixG, fixV.fixQ, fixV.fixR, fixA, fixA.fixS, fixA.fixI, fixV.fixU, fixV.fixT, ltPs, nmS, obsOf, obs0, reach, nums, swp, tau, frN, surv, freE, mkHO, dom, stayA, stay, isArg, inOk, psL, modeF, modeL, resAs, resA, pinsC, HO.lost, HO.bad, dropAll, hp_cons, hp_nil, newH_app, rls_nil, rls_cons, ob_rl, immB_eq, ren, ren.rens, renOb, sub, sub.subs, subOb, kill, argsH, args0, closedL, Ob.refs, wrapg, opnds, outside, headOut, frL, aev, allB, vop, binv, binA, eqL, eqAnd, vload, cut, fits, vindexAddr, vindex, vslice, bnd, vlen, vmin, vbuiltin, nilR, sstore, vstore, stcells, putl, put1, salloc, aop, fillE, vbuild, fillS, setl, spick, sappend, vappend, srcE, badOf, orcGet, List.zip_cons_cons, List.zip_nil_left, List.isEmpty_nil, List.isEmpty_cons, List.reverse_cons, List.reverse_nil, List.append_assoc, List.filter_cons, List.filter_nil, Option.getD_some, Option.getD_none, Option.isSome_some, Option.isSome_none, eq_self, Nat.reduceEqDiff, Nat.reduceLT, Nat.reduceLeDiff, Nat.reduceAdd, Nat.reduceMul, Nat.reduceSub, Nat.reduceBEq, Int.reduceEq, Int.reduceLT, Int.reduceLE, Int.reduceNeg, Int.reduceToNat, Int.reduceBEq, Int.reduceBNe, Nat.reduceBNe, bne_self_eq_false, Int.reduceAdd, Int.reduceSub, Int.reduceMul, Int.reduceTMod, Int.reduceTDiv, Int.reduceMod, Int.reduceDiv, Int.reducePow, Nat.reducePow, Nat.reduceMod, Nat.reduceDiv, reduceCtorEq, ↓reduceIte, if_true, if_false, ne_eq, gt_iff_lt, ge_iff_le, Int.natCast_add, Int.cast_ofNat_Int, List.append_eq, implies_true, beq_self_eq_true, tyb, lo, lv, enR, hi', hg, hw, hc, mvV, hk, h1, h2, f1, f2, f3, f4]
theorem step1 {m N : Int} {e : En} {l : List Mv} {i : Nat} {x : Mv} (hi : Inv m N e) (hN : N ≤ 100000) (hx : l[i]? = some x) (hl : l.length ≤ 200) (hk : x.k.tmod 4 = 1) :
    ∃ e', Inv m (N + 1) e' ∧ E.L 3 9 (lv l i) (lo m e) = E.L 3 9 (lv l (i + 1)) (lo m e') := by
  obtain ⟨⟨e', fr, c⟩, hr⟩ : ∃ r, connM e = r := ⟨_, rfl⟩
  obtain ⟨h1, h2, h3, h4⟩ := conn_var hi hr
  refine ⟨e', h3, ?_⟩
  have hil : i < l.length := by
    obtain ⟨h, _⟩ := List.getElem?_eq_some_iff.1 hx
    exact h
  have hi' : (i : Int) < l.length := by omega
  have hg := getD_map (f := mvV) hx
  have hw : IntKind.i64.wrap ((i : Int) + 1) = i + 1 := wrap_id (by omega) (by omega)
  have hc : (0 ≤ (i : Int)) = True := eq_true (by omega)
  have hh : e'.held.length ≤ 1000000 := by have := h3.hm; have := h3.m2; omega
  have f1 := framesl_ev (l := fr) (by omega)
  have f2 := eqf_ev (l := fr) (l' := fr) (by omega) (by omega)
  have f3 := status_ev (m := m) (e := e') hh
  have f4 := like_ev (m := m) (e := e') hh
  simp only [enO, enR, decide_true] at h1 h2 f2 f3 f4
  rw [l3_9]
  simp (maxSteps := 100000000) only [ivb, anf, Aw.orN, stCall_fn, stNo, noV, noA, avOf, xF_P, xF_G, xF_S, xF_A, xF_f, xF_ps, xF_cx, xF_ret, xF_normal, xF_exit, xL_P, xL_G, xL_S, xL_A, xL_f, xL_ps, xL_cx, xL_ret, xL_normal, xL_exit, canR_some, cxE_P, cxE_G, cxE_n, frzM, frzM.frzO, frzM.frzP, frzW, rowsN, kidsN, frzL, frzL.frzO, frzL.frzP, frzA, frzH, fixV.fixG, fixV.fixQ, fixV.fixR, fixA, fixA.fixS, fixA.fixI, fixV.fixU, fixV.fixT, ltPs, nmS, obsOf, obs0, reach, nums, swp, tau, frN, surv, freE, mkHO, dom, stayA, stay, isArg, inOk, psL, modeF, modeL, resAs, resA, pinsC, HO.lost, HO.bad, dropAll, hp_cons, hp_nil, newH_app, rls_nil, rls_cons, ob_rl, immB_eq, ren, ren.rens, renOb, sub, sub.subs, subOb, kill, argsH, args0, closedL, Ob.refs, wrapg, opnds, outside, headOut, frL, aev, allB, vop, binv, binA, eqL, eqAnd, vload, cut, fits, vindexAddr, vindex, vslice, bnd, vlen, vmin, vbuiltin, nilR, sstore, vstore, stcells, putl, put1, salloc, aop, fillE, vbuild, fillS, setl, spick, sappend, vappend, srcE, badOf, orcGet, List.zip_cons_cons, List.zip_nil_left, List.isEmpty_nil, List.isEmpty_cons, List.reverse_cons, List.reverse_nil, List.append_assoc, List.filter_cons, List.filter_nil, Option.getD_some, Option.getD_none, Option.isSome_some, Option.isSome_none, eq_self, Nat.reduceEqDiff, Nat.reduceLT, Nat.reduceLeDiff, Nat.reduceAdd, Nat.reduceMul, Nat.reduceSub, Nat.reduceBEq, Int.reduceEq, Int.reduceLT, Int.reduceLE, Int.reduceNeg, Int.reduceToNat, Int.reduceBEq, Int.reduceBNe, Nat.reduceBNe, bne_self_eq_false, Int.reduceAdd, Int.reduceSub, Int.reduceMul, Int.reduceTMod, Int.reduceTDiv, Int.reduceMod, Int.reduceDiv, Int.reducePow, Nat.reducePow, Nat.reduceMod, Nat.reduceDiv, reduceCtorEq, ↓reduceIte, if_true, if_false, ne_eq, gt_iff_lt, ge_iff_le, Int.natCast_add, Int.cast_ofNat_Int, List.append_eq, implies_true, beq_self_eq_true, tyb, lo, lv, enR, hi', hg, hw, hc, mvV, hk, h1, h2, f1, f2, f3, f4]
theorem step2 {m N : Int} {e : En} {l : List Mv} {i : Nat} {x : Mv} (hi : Inv m N e) (hN : N ≤ 100000) (hx : l[i]? = some x) (hl : l.length ≤ 200) (hk : x.k.tmod 4 = 2) :
    ∃ e', Inv m (N + 1) e' ∧ E.L 3 9 (lv l i) (lo m e) = E.L 3 9 (lv l (i + 1)) (lo m e') := by
  have h1 := break_ev (m := m) (e := e)
  have h3 := inv_break hi
  refine ⟨breakM e, h3, ?_⟩
  have hil : i < l.length := by
    obtain ⟨h, _⟩ := List.getElem?_eq_some_iff.1 hx
    exact h
  have hi' : (i : Int) < l.length := by omega
  have hg := getD_map (f := mvV) hx
  have hw : IntKind.i64.wrap ((i : Int) + 1) = i + 1 := wrap_id (by omega) (by omega)
  have hc : (0 ≤ (i : Int)) = True := eq_true (by omega)
  have hh : (breakM e).held.length ≤ 1000000 := by have := h3.hm; have := h3.m2; omega
  have f3 := status_ev (m := m) (e := breakM e) hh
  have f4 := like_ev (m := m) (e := breakM e) hh
  simp only [enO, enR, breakM] at h1 f3 f4
  rw [l3_9]
  simp (maxSteps := 100000000) only [ivb, anf, Aw.orN, stCall_fn, stNo, noV, noA, avOf, xF_P, xF_G, xF_S, xF_A, xF_f, xF_ps, xF_cx, xF_ret, xF_normal, xF_exit, xL_P, xL_G, xL_S, xL_A, xL_f, xL_ps, xL_cx, xL_ret, xL_normal, xL_exit, canR_some, cxE_P, cxE_G, cxE_n, frzM, frzM.frzO, frzM.frzP, frzW, rowsN, kidsN, frzL, frzL.frzO, frzL.frzP, frzA, frzH, fixV.fixG, fixV.fixQ, fixV.fixR, fixA, fixA.fixS, fixA.fixI, fixV.fixU, fixV.fixT, ltPs, nmS, obsOf, obs0, reach, nums, swp, tau, frN, surv, freE, mkHO, dom, stayA, stay, isArg, inOk, psL, modeF, modeL, resAs, resA, pinsC, HO.lost, HO.bad, dropAll, hp_cons, hp_nil, newH_app, rls_nil, rls_cons, ob_rl, immB_eq, ren, ren.rens, renOb, sub, sub.subs, subOb, kill, argsH, args0, closedL, Ob.refs, wrapg, opnds, outside, headOut, frL, aev, allB, vop, binv, binA, eqL, eqAnd, vload, cut, fits, vindexAddr, vindex, vslice, bnd, vlen, vmin, vbuiltin, nilR, sstore, vstore, stcells, putl, put1, salloc, aop, fillE, vbuild, fillS, setl, spick, sappend, vappend, srcE, badOf, orcGet, List.zip_cons_cons, List.zip_nil_left, List.isEmpty_nil, List.isEmpty_cons, List.reverse_cons, List.reverse_nil, List.append_assoc, List.filter_cons, List.filter_nil, Option.getD_some, Option.getD_none, Option.isSome_some, Option.isSome_none, eq_self, Nat.reduceEqDiff, Nat.reduceLT, Nat.reduceLeDiff, Nat.reduceAdd, Nat.reduceMul, Nat.reduceSub, Nat.reduceBEq, Int.reduceEq, Int.reduceLT, Int.reduceLE, Int.reduceNeg, Int.reduceToNat, Int.reduceBEq, Int.reduceBNe, Nat.reduceBNe, bne_self_eq_false, Int.reduceAdd, Int.reduceSub, Int.reduceMul, Int.reduceTMod, Int.reduceTDiv, Int.reduceMod, Int.reduceDiv, Int.reducePow, Nat.reducePow, Nat.reduceMod, Nat.reduceDiv, reduceCtorEq, ↓reduceIte, if_true, if_false, ne_eq, gt_iff_lt, ge_iff_le, Int.natCast_add, Int.cast_ofNat_Int, List.append_eq, implies_true, beq_self_eq_true, tyb, lo, lv, enR, hi', hg, hw, hc, mvV, hk, breakM, h1, f3, f4]
theorem step3 {m N : Int} {e : En} {l : List Mv} {i : Nat} {x : Mv} (hi : Inv m N e) (hN : N ≤ 100000) (hx : l[i]? = some x) (hl : l.length ≤ 200) (hk : x.k.tmod 4 = 3) :
    ∃ e', Inv m (N + 1) e' ∧ E.L 3 9 (lv l i) (lo m e) = E.L 3 9 (lv l (i + 1)) (lo m e') := by
  obtain ⟨⟨e', ds, fr, c⟩, hr⟩ : ∃ r, takeM e ⟨x.f.k, x.f.n, x.f.t⟩ = r := ⟨_, rfl⟩
  obtain ⟨h1, h2, h3, h5, h4⟩ := take_var hi (by omega) hr
  refine ⟨e', h3, ?_⟩
  have hil : i < l.length := by
    obtain ⟨h, _⟩ := List.getElem?_eq_some_iff.1 hx
    exact h
  have hi' : (i : Int) < l.length := by omega
  have hg := getD_map (f := mvV) hx
  have hw : IntKind.i64.wrap ((i : Int) + 1) = i + 1 := wrap_id (by omega) (by omega)
  have hc : (0 ≤ (i : Int)) = True := eq_true (by omega)
  have hh : e'.held.length ≤ 1000000 := by have := h3.hm; have := h3.m2; omega
  have f1 := framesl_ev (l := fr) (by omega)
  have f2 := eqf_ev (l := fr) (l' := fr) (by omega) (by omega)
  have f5 := eqs_ev (l := ds) (l' := ds) (by omega) (by omega)
  have f3 := status_ev (m := m) (e := e') hh
  have f4 := like_ev (m := m) (e := e') hh
  simp only [enO, enR, decide_true] at h1 h2 f2 f3 f4 f5
  rw [l3_9]
  simp (maxSteps := 100000000) only [ivb, anf, Aw.orN, stCall_fn, stNo, noV, noA, avOf, xF_P, xF_G, xF_S, xF_A, xF_f, xF_ps, xF_cx, xF_ret, xF_normal, xF_exit, xL_P, xL_G, xL_S, xL_A, xL_f, xL_ps, xL_cx, xL_ret, xL_normal, xL_exit, canR_some, cxE_P, cxE_G, cxE_n, frzM, frzM.frzO, frzM.frzP, frzW, rowsN, kidsN, frzL, frzL.frzO, frzL.frzP, frzA, frzH, fixV.fixG, fixV.fixQ, fixV.fixR, fixA, fixA.fixS, fixA.fixI, fixV.fixU, fixV.fixT, ltPs, nmS, obsOf, obs0, reach, nums, swp, tau, frN, surv, freE, mkHO, dom, stayA, stay, isArg, inOk, psL, modeF, modeL, resAs, resA, pinsC, HO.lost, HO.bad, dropAll, hp_cons, hp_nil, newH_app, rls_nil, rls_cons, ob_rl, immB_eq, ren, ren.rens, renOb, sub, sub.subs, subOb, kill, argsH, args0, closedL, Ob.refs, wrapg, opnds, outside, headOut, frL, aev, allB, vop, binv, binA, eqL, eqAnd, vload, cut, fits, vindexAddr, vindex, vslice, bnd, vlen, vmin, vbuiltin, nilR, sstore, vstore, stcells, putl, put1, salloc, aop, fillE, vbuild, fillS, setl, spick, sappend, vappend, srcE, badOf, orcGet, List.zip_cons_cons, List.zip_nil_left, List.isEmpty_nil, List.isEmpty_cons, List.reverse_cons, List.reverse_nil, List.append_assoc, List.filter_cons, List.filter_nil, Option.getD_some, Option.getD_none, Option.isSome_some, Option.isSome_none, eq_self, Nat.reduceEqDiff, Nat.reduceLT, Nat.reduceLeDiff, Nat.reduceAdd, Nat.reduceMul, Nat.reduceSub, Nat.reduceBEq, Int.reduceEq, Int.reduceLT, Int.reduceLE, Int.reduceNeg, Int.reduceToNat, Int.reduceBEq, Int.reduceBNe, Nat.reduceBNe, bne_self_eq_false, Int.reduceAdd, Int.reduceSub, Int.reduceMul, Int.reduceTMod, Int.reduceTDiv, Int.reduceMod, Int.reduceDiv, Int.reducePow, Nat.reducePow, Nat.reduceMod, Nat.reduceDiv, reduceCtorEq, ↓reduceIte, if_true, if_false, ne_eq, gt_iff_lt, ge_iff_le, Int.natCast_add, Int.cast_ofNat_Int, List.append_eq, implies_true, beq_self_eq_true, tyb, lo, lv, enR, hi', hg, hw, hc, mvV, hk, h1, h2, f1, f2, f3, f4, f5]
end Go.Proofs.Ytmjfccnmeiagbaa
