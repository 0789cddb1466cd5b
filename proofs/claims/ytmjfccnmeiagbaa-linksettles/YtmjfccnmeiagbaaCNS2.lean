/- LinkSettles: the acts; the rounds. -/
import Derived.Test.YtmjfccnmeiagbaaCNS1
namespace Go.Proofs.Ytmjfccnmeiagbaa
open Go Go.Aw
set_option linter.unusedSimpArgs false
set_option linter.unusedVariables false
set_option maxRecDepth 100000
set_option maxHeartbeats 40000000
theorem acts_loop {m : Int} {a : List Ac} (hl : a.length ≤ 200) : ∀ (r p : List Ac) (l : Ln) (N : Int) (p0 p1 : List Fr) (A0 A1 : List ByteArray), a = p ++ r → 0 ≤ N → N + r.length ≤ 3000 → LInv m N l → PI l A0 A1 → (A0.length : Int) ≤ N → (A1.length : Int) ≤ N → (p0.length : Int) ≤ N → (p1.length : Int) ≤ N →
    ∃ (q0 q1 : List Fr) (l' : Ln) (B0 B1 : List ByteArray), E.L 6 9 (tV a p.length) (tO p0 p1 m l A0 A1) = some ((.exit 0, tV a a.length, tO q0 q1 m l' B0 B1), True) ∧ LInv m (N + r.length) l' ∧ PI l' B0 B1 ∧ (q0.length : Int) ≤ N + r.length ∧ (q1.length : Int) ≤ N + r.length ∧ (B0.length : Int) ≤ N + r.length ∧ (B1.length : Int) ≤ N + r.length := by
  intro r
  induction r with
  | nil =>
    intro p l N p0 p1 A0 A1 h hN hN2 hi hP ha0 ha1 h0 h1
    rw [List.append_nil] at h
    subst h
    refine ⟨p0, p1, l, A0, A1, ?_, by simpa using hi, hP, by simpa using h0, by simpa using h1, by simpa using ha0, by simpa using ha1⟩
    rw [l6_9]
    simp (maxSteps := 100000000) only [ivb, anf, Aw.orN, stCall_fn, stNo, noV, noA, avOf, xF_P, xF_G, xF_S, xF_A, xF_f, xF_ps, xF_cx, xF_ret, xF_normal, xF_exit, xL_P, xL_G, xL_S, xL_A, xL_f, xL_ps, xL_cx, xL_ret, xL_normal, xL_exit, canR_some, cxE_P, cxE_G, cxE_n, frzM, frzM.frzO, frzM.frzP, frzW, rowsN, kidsN, frzL, frzL.frzO, frzL.frzP, frzA, frzH, fixV.fixG, fixV.fixQ, fixV.fixR, fixA, fixA.fixS, fixA.fixI, fixV.fixU, fixV.fixT, ltPs, nmS, obsOf, obs0, reach, nums, swp, tau, frN, surv, freE, mkHO, dom, stayA, stay, isArg, inOk, psL, modeF, modeL, resAs, resA, pinsC, HO.lost, HO.bad, dropAll, hp_cons, hp_nil, newH_app, rls_nil, rls_cons, ob_rl, immB_eq, ren, ren.rens, renOb, sub, sub.subs, subOb, kill, argsH, args0, closedL, Ob.refs, wrapg, opnds, outside, headOut, frL, aev, allB, vop, binv, binA, eqL, eqAnd, vload, cut, fits, vindexAddr, vindex, vslice, bnd, vlen, vmin, vbuiltin, nilR, sstore, vstore, stcells, putl, put1, salloc, aop, fillE, vbuild, fillS, setl, spick, sappend, vappend, srcE, badOf, orcGet, List.zip_cons_cons, List.zip_nil_left, List.isEmpty_nil, List.isEmpty_cons, List.reverse_cons, List.reverse_nil, List.append_assoc, List.filter_cons, List.filter_nil, Option.getD_some, Option.getD_none, Option.isSome_some, Option.isSome_none, eq_self, Nat.reduceEqDiff, Nat.reduceLT, Nat.reduceLeDiff, Nat.reduceAdd, Nat.reduceMul, Nat.reduceSub, Nat.reduceBEq, Int.reduceEq, Int.reduceLT, Int.reduceLE, Int.reduceNeg, Int.reduceToNat, Int.reduceBEq, Int.reduceBNe, Nat.reduceBNe, bne_self_eq_false, Int.reduceAdd, Int.reduceSub, Int.reduceMul, Int.reduceTMod, Int.reduceTDiv, Int.reduceMod, Int.reduceDiv, Int.reducePow, Nat.reducePow, Nat.reduceMod, Nat.reduceDiv, reduceCtorEq, ↓reduceIte, if_true, if_false, ne_eq, gt_iff_lt, ge_iff_le, Int.natCast_add, Int.cast_ofNat_Int, List.append_eq, implies_true, beq_self_eq_true, tyb, tO, tV, Int.lt_irrefl, List.map_append]
  | cons x r ih =>
    intro p l N p0 p1 A0 A1 h hN hN2 hi hP ha0 ha1 h0 h1
    have hx : a[p.length]? = some x := by rw [h]; simp
    simp only [List.length_cons, Int.natCast_add, Int.cast_ofNat_Int] at hN2
    obtain ⟨q0, q1, hq0, hq1, d1, _⟩ := do_ev (k := x.k) (n := x.n) (t := x.t) hN (by omega) hi h0 h1
    have hj := linv_do (k := x.k) (n := x.n) (t := x.t) hN hi
    obtain ⟨hP', hc⟩ := pi_do (m := m) (k := x.k) (n := x.n) (t := x.t) hP
    generalize doM m l x.k x.n x.t = d at d1 hj hP' hc
    obtain ⟨l', c⟩ := d
    simp only at d1 hj hP' hc
    have hA0 : ((nx0 c x.k x.n x.t A0).length : Int) ≤ N + 1 := by
      have : (nx0 c x.k x.n x.t A0).length ≤ A0.length + 1 := by
        unfold nx0
        split
        · simp
        · omega
      omega
    have hA1 : ((nx1 c x.k x.n x.t A1).length : Int) ≤ N + 1 := by
      have : (nx1 c x.k x.n x.t A1).length ≤ A1.length + 1 := by
        unfold nx1
        split
        · simp
        · omega
      omega
    obtain ⟨r0, r1, l'', B0, B1, g1, g2, g3, g4, g5, g6, g7⟩ := ih (p ++ [x]) l' (N + 1) q0 q1 _ _ (by simp [h]) (by omega) (by omega) hj hP' hA0 hA1 hq0 hq1
    have hs : E.L 6 9 (tV a p.length) (tO p0 p1 m l A0 A1) = E.L 6 9 (tV a (p.length + 1)) (tO q0 q1 m l' (nx0 c x.k x.n x.t A0) (nx1 c x.k x.n x.t A1)) := by
      by_cases hb : (c == 0 && x.k == 1) = true
      · simp only [Bool.and_eq_true, beq_iff_eq] at hb
        obtain ⟨b1, b2⟩ := hb
        subst b1
        by_cases hn : x.n.tmod 2 = 0
        · have y0 : nx0 0 x.k x.n x.t A0 = A0 ++ [x.t] := by simp [nx0, b2, hn]
          have y1 : nx1 0 x.k x.n x.t A1 = A1 := by simp [nx1, b2, hn]
          rw [y0, y1]
          exact set_yes0 hx hl (by omega) d1 b2 hn
        · have y0 : nx0 0 x.k x.n x.t A0 = A0 := by simp [nx0, b2, hn]
          have y1 : nx1 0 x.k x.n x.t A1 = A1 ++ [x.t] := by simp [nx1, b2, hn]
          rw [y0, y1]
          exact set_yes1 hx hl (by omega) d1 b2 hn
      · have hb' : (c == 0 && x.k == 1) = false := by simpa using hb
        have y0 : nx0 c x.k x.n x.t A0 = A0 := by
          have : ¬ (c = 0 ∧ x.k = 1 ∧ x.n.tmod 2 = 0) := fun ⟨b1, b2, b3⟩ => hb (by simp [b1, b2])
          simp [nx0, if_neg this]
        have y1 : nx1 c x.k x.n x.t A1 = A1 := by
          have : ¬ (c = 0 ∧ x.k = 1 ∧ ¬ x.n.tmod 2 = 0) := fun ⟨b1, b2, b3⟩ => hb (by simp [b1, b2])
          simp [nx1, if_neg this]
        rw [y0, y1]
        exact set_no hx hl d1 hb'
    have e : N + 1 + (r.length : Int) = N + ((x :: r).length : Int) := by simp; omega
    refine ⟨r0, r1, l'', B0, B1, ?_, ?_, g3, ?_, ?_, ?_, ?_⟩
    · rw [hs, ← g1]
      simp
    · rwa [e] at g2
    · simp only [List.length_cons, Int.natCast_add, Int.cast_ofNat_Int]; omega
    · simp only [List.length_cons, Int.natCast_add, Int.cast_ofNat_Int]; omega
    · simp only [List.length_cons, Int.natCast_add, Int.cast_ofNat_Int]; omega
    · simp only [List.length_cons, Int.natCast_add, Int.cast_ofNat_Int]; omega
def uV (i : Int) : List AV := [.junk, .ptr 60000 0 0, .ptr 60001 0 0, .int .i64 i]
theorem inner6 {m : Int} {l l1 l2 : Ln} {p0 p1 q0 q1 r0 r1 : List Fr} {A0 A1 : List ByteArray} {i : Int}
    (d0 : E.F 28 [.ptr 100000 0 0, actA 2 0 b0] (lnI p0 p1 m l) = some ((.int .i64 0, lnX q0 q1 m l1), True))
    (d1 : E.F 28 [.ptr 100000 0 0, actA 2 1 b0] (lnI q0 q1 m l1) = some ((.int .i64 0, lnX r0 r1 m l2), True)) :
    E.L 6 23 (uV i ++ [.int .i64 0]) (tO p0 p1 m l A0 A1) = some ((.exit 4, uV i ++ [.int .i64 2], tO r0 r1 m l2 A0 A1), True) := by
  simp only [lnI, lnX, lnB, lnT, actA, b0_eq, List.map_append, List.cons_append, List.nil_append] at d0 d1
  rw [l6_23]
  simp (maxSteps := 100000000) only [ivb, anf, Aw.orN, stCall_fn, stNo, noV, noA, avOf, xF_P, xF_G, xF_S, xF_A, xF_f, xF_ps, xF_cx, xF_ret, xF_normal, xF_exit, xL_P, xL_G, xL_S, xL_A, xL_f, xL_ps, xL_cx, xL_ret, xL_normal, xL_exit, canR_some, cxE_P, cxE_G, cxE_n, frzM, frzM.frzO, frzM.frzP, frzW, rowsN, kidsN, frzL, frzL.frzO, frzL.frzP, frzA, frzH, fixV.fixG, fixV.fixQ, fixV.fixR, fixA, fixA.fixS, fixA.fixI, fixV.fixU, fixV.fixT, ltPs, nmS, obsOf, obs0, reach, nums, swp, tau, frN, surv, freE, mkHO, dom, stayA, stay, isArg, inOk, psL, modeF, modeL, resAs, resA, pinsC, HO.lost, HO.bad, dropAll, hp_cons, hp_nil, newH_app, rls_nil, rls_cons, ob_rl, immB_eq, ren, ren.rens, renOb, sub, sub.subs, subOb, kill, argsH, args0, closedL, Ob.refs, wrapg, opnds, outside, headOut, frL, aev, allB, vop, binv, binA, eqL, eqAnd, vload, cut, fits, vindexAddr, vindex, vslice, bnd, vlen, vmin, vbuiltin, nilR, sstore, vstore, stcells, putl, put1, salloc, aop, fillE, vbuild, fillS, setl, spick, sappend, vappend, srcE, badOf, orcGet, List.zip_cons_cons, List.zip_nil_left, List.isEmpty_nil, List.isEmpty_cons, List.reverse_cons, List.reverse_nil, List.append_assoc, List.filter_cons, List.filter_nil, Option.getD_some, Option.getD_none, Option.isSome_some, Option.isSome_none, eq_self, Nat.reduceEqDiff, Nat.reduceLT, Nat.reduceLeDiff, Nat.reduceAdd, Nat.reduceMul, Nat.reduceSub, Nat.reduceBEq, Int.reduceEq, Int.reduceLT, Int.reduceLE, Int.reduceNeg, Int.reduceToNat, Int.reduceBEq, Int.reduceBNe, Nat.reduceBNe, bne_self_eq_false, Int.reduceAdd, Int.reduceSub, Int.reduceMul, Int.reduceTMod, Int.reduceTDiv, Int.reduceMod, Int.reduceDiv, Int.reducePow, Nat.reducePow, Nat.reduceMod, Nat.reduceDiv, reduceCtorEq, ↓reduceIte, if_true, if_false, ne_eq, gt_iff_lt, ge_iff_le, Int.natCast_add, Int.cast_ofNat_Int, List.append_eq, implies_true, beq_self_eq_true, tyb, l6_23, tO, uV, d0, d1, List.map_append, List.cons_append, List.nil_append]
end Go.Proofs.Ytmjfccnmeiagbaa
