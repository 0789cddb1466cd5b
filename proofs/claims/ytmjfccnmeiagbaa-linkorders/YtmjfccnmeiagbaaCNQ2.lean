/- LinkOrders: what was sent; all of it. -/
import Derived.Test.YtmjfccnmeiagbaaCNQ1
namespace Go.Proofs.Ytmjfccnmeiagbaa
open Go Go.Aw
set_option linter.unusedSimpArgs false
set_option linter.unusedVariables false
set_option maxRecDepth 100000
set_option maxHeartbeats 40000000
theorem sent_yes {m : Int} {e : Int} {l l' : Ln} {p0 p1 q0 q1 : List Fr} {A : List ByteArray} {a : List Ac} {i : Nat} {x : Ac} (hx : a[i]? = some x) (hl : a.length ≤ 200) (hA : A.length ≤ 1000000)
    (d1 : E.F 28 [.ptr 100000 0 0, actA x.k x.n x.t] (lnI p0 p1 m l) = some ((.int .i64 0, lnX q0 q1 m l'), True))
    (hk : x.k = 1) (hb : ((x.n.tmod 2 != 0) == (e == 1)) = true) :
    E.L 24 4 (sV a i e A) (sO p0 p1 m l A) = E.L 24 4 (sV a (i + 1) e (A ++ [x.t])) (sO q0 q1 m l' (A ++ [x.t])) := by
  have hil : i < a.length := by
    obtain ⟨h, _⟩ := List.getElem?_eq_some_iff.1 hx
    exact h
  have hi' : (i : Int) < a.length := by omega
  have hg := getD_map (f := acV) hx
  have hw : IntKind.i64.wrap ((i : Int) + 1) = i + 1 := wrap_id (by omega) (by omega)
  have hq : (0 ≤ (i : Int)) = True := eq_true (by omega)
  have hq2 : ((A.length + 1) * 16 ≤ 140737488355328 ∧ A.length ≤ 9223372036854775806) = True := eq_true (by omega)
  simp only [lnI, lnX, lnB, lnT, actA, hk, List.map_append, List.cons_append, List.nil_append] at d1
  rw [l24_4]
  simp (maxSteps := 100000000) only [ivb, anf, Aw.orN, stCall_fn, stNo, avOf, xF_P, xF_G, xF_S, xF_A, xF_f, xF_ps, xF_cx, xF_ret, xF_normal, xF_exit, xL_P, xL_G, xL_S, xL_A, xL_f, xL_ps, xL_cx, xL_ret, xL_normal, xL_exit, canR_some, cxE_P, cxE_G, cxE_n, frzM, frzM.frzO, frzM.frzP, frzW, rowsN, kidsN, frzL, frzL.frzO, frzL.frzP, frzA, frzH, fixV.fixG, fixV.fixQ, fixV.fixR, fixA, fixA.fixS, fixA.fixI, fixV.fixU, fixV.fixT, ltPs, nmS, obsOf, obs0, reach, nums, swp, tau, frN, surv, freE, mkHO, dom, stayA, stay, isArg, inOk, psL, modeF, modeL, resAs, resA, pinsC, HO.lost, HO.bad, dropAll, hp_cons, hp_nil, newH_app, rls_nil, rls_cons, ob_rl, immB_eq, ren, ren.rens, renOb, sub, sub.subs, subOb, kill, argsH, args0, closedL, Ob.refs, wrapg, opnds, outside, headOut, frL, aev, allB, vop, binv, binA, eqL, eqAnd, vload, cut, fits, vindexAddr, vindex, vslice, bnd, vlen, vmin, vbuiltin, nilR, sstore, vstore, stcells, putl, put1, salloc, aop, fillE, vbuild, fillS, setl, spick, sappend, vappend, srcE, badOf, orcGet, List.zip_cons_cons, List.zip_nil_left, List.isEmpty_nil, List.isEmpty_cons, List.reverse_cons, List.reverse_nil, List.append_assoc, List.filter_cons, List.filter_nil, Option.getD_some, Option.getD_none, Option.isSome_some, Option.isSome_none, eq_self, Nat.reduceEqDiff, Nat.reduceLT, Nat.reduceLeDiff, Nat.reduceAdd, Nat.reduceMul, Nat.reduceSub, Nat.reduceBEq, Int.reduceEq, Int.reduceLT, Int.reduceLE, Int.reduceNeg, Int.reduceToNat, Int.reduceBEq, Int.reduceBNe, Nat.reduceBNe, bne_self_eq_false, Int.reduceAdd, Int.reduceSub, Int.reduceMul, Int.reduceTMod, Int.reduceTDiv, Int.reduceMod, Int.reduceDiv, Int.reducePow, Nat.reducePow, Nat.reduceMod, Nat.reduceDiv, reduceCtorEq, ↓reduceIte, if_true, if_false, ne_eq, gt_iff_lt, ge_iff_le, Int.natCast_add, Int.cast_ofNat_Int, List.append_eq, implies_true, beq_self_eq_true, tyb, sO, sV, lnB, lnT, hi', hg, hw, hq, hq2, acV, hk, d1, hb, List.map_append, List.cons_append, List.nil_append, List.length_append, List.length_cons, List.length_nil, Nat.zero_add, List.map_cons, List.map_nil]
/-- The texts that an end was told to send, and took. -/
def pick (e : Int) (A0 A1 : List ByteArray) : List ByteArray := if e = 0 then A0 else A1
theorem sent_loop {m e : Int} (he : e = 0 ∨ e = 1) {a : List Ac} (hl : a.length ≤ 200) : ∀ (r p : List Ac) (l : Ln) (N : Int) (p0 p1 : List Fr) (A0 A1 : List ByteArray), a = p ++ r → 0 ≤ N → N + r.length ≤ 3000 → LInv m N l → PI l A0 A1 → (A0.length : Int) ≤ N → (A1.length : Int) ≤ N → (p0.length : Int) ≤ N → (p1.length : Int) ≤ N →
    ∃ (q0 q1 : List Fr) (l' : Ln) (B0 B1 : List ByteArray), E.L 24 4 (sV a p.length e (pick e A0 A1)) (sO p0 p1 m l (pick e A0 A1)) = some ((.exit 0, sV a a.length e (pick e B0 B1), sO q0 q1 m l' (pick e B0 B1)), True) ∧ LInv m (N + r.length) l' ∧ PI l' B0 B1 ∧ (q0.length : Int) ≤ N + r.length ∧ (q1.length : Int) ≤ N + r.length := by
  intro r
  induction r with
  | nil =>
    intro p l N p0 p1 A0 A1 h hN hN2 hi hP ha0 ha1 h0 h1
    rw [List.append_nil] at h
    subst h
    refine ⟨p0, p1, l, A0, A1, ?_, by simpa using hi, hP, by simpa using h0, by simpa using h1⟩
    rw [l24_4]
    simp (maxSteps := 100000000) only [ivb, anf, Aw.orN, stCall_fn, stNo, avOf, xF_P, xF_G, xF_S, xF_A, xF_f, xF_ps, xF_cx, xF_ret, xF_normal, xF_exit, xL_P, xL_G, xL_S, xL_A, xL_f, xL_ps, xL_cx, xL_ret, xL_normal, xL_exit, canR_some, cxE_P, cxE_G, cxE_n, frzM, frzM.frzO, frzM.frzP, frzW, rowsN, kidsN, frzL, frzL.frzO, frzL.frzP, frzA, frzH, fixV.fixG, fixV.fixQ, fixV.fixR, fixA, fixA.fixS, fixA.fixI, fixV.fixU, fixV.fixT, ltPs, nmS, obsOf, obs0, reach, nums, swp, tau, frN, surv, freE, mkHO, dom, stayA, stay, isArg, inOk, psL, modeF, modeL, resAs, resA, pinsC, HO.lost, HO.bad, dropAll, hp_cons, hp_nil, newH_app, rls_nil, rls_cons, ob_rl, immB_eq, ren, ren.rens, renOb, sub, sub.subs, subOb, kill, argsH, args0, closedL, Ob.refs, wrapg, opnds, outside, headOut, frL, aev, allB, vop, binv, binA, eqL, eqAnd, vload, cut, fits, vindexAddr, vindex, vslice, bnd, vlen, vmin, vbuiltin, nilR, sstore, vstore, stcells, putl, put1, salloc, aop, fillE, vbuild, fillS, setl, spick, sappend, vappend, srcE, badOf, orcGet, List.zip_cons_cons, List.zip_nil_left, List.isEmpty_nil, List.isEmpty_cons, List.reverse_cons, List.reverse_nil, List.append_assoc, List.filter_cons, List.filter_nil, Option.getD_some, Option.getD_none, Option.isSome_some, Option.isSome_none, eq_self, Nat.reduceEqDiff, Nat.reduceLT, Nat.reduceLeDiff, Nat.reduceAdd, Nat.reduceMul, Nat.reduceSub, Nat.reduceBEq, Int.reduceEq, Int.reduceLT, Int.reduceLE, Int.reduceNeg, Int.reduceToNat, Int.reduceBEq, Int.reduceBNe, Nat.reduceBNe, bne_self_eq_false, Int.reduceAdd, Int.reduceSub, Int.reduceMul, Int.reduceTMod, Int.reduceTDiv, Int.reduceMod, Int.reduceDiv, Int.reducePow, Nat.reducePow, Nat.reduceMod, Nat.reduceDiv, reduceCtorEq, ↓reduceIte, if_true, if_false, ne_eq, gt_iff_lt, ge_iff_le, Int.natCast_add, Int.cast_ofNat_Int, List.append_eq, implies_true, beq_self_eq_true, tyb, sO, sV, lnB, lnT, Int.lt_irrefl, List.map_append, List.cons_append, List.nil_append]
  | cons x r ih =>
    intro p l N p0 p1 A0 A1 h hN hN2 hi hP ha0 ha1 h0 h1
    have hx : a[p.length]? = some x := by rw [h]; simp
    simp only [List.length_cons, Int.natCast_add, Int.cast_ofNat_Int] at hN2
    obtain ⟨q0, q1, hq0, hq1, d1, _⟩ := do_ev (k := x.k) (n := x.n) (t := x.t) hN (by omega) hi h0 h1
    have hj := linv_do (k := x.k) (n := x.n) (t := x.t) hN hi
    obtain ⟨hP', hc⟩ := pi_do (m := m) (k := x.k) (n := x.n) (t := x.t) hP
    generalize doM m l x.k x.n x.t = d at d1 hj hP' hc
    obtain ⟨l', c⟩ := d
    simp only at d1 hj hP' hc
    have hA0 : ((nx0 c x.k x.n x.t A0).length : Int) ≤ N + 1 := by
      have : (nx0 c x.k x.n x.t A0).length ≤ A0.length + 1 := by
        unfold nx0
        split
        · simp
        · omega
      omega
    have hA1 : ((nx1 c x.k x.n x.t A1).length : Int) ≤ N + 1 := by
      have : (nx1 c x.k x.n x.t A1).length ≤ A1.length + 1 := by
        unfold nx1
        split
        · simp
        · omega
      omega
    obtain ⟨r0, r1, l'', B0, B1, g1, g2, g3, g4, g5⟩ := ih (p ++ [x]) l' (N + 1) q0 q1 _ _ (by simp [h]) (by omega) (by omega) hj hP' hA0 hA1 hq0 hq1
    have hs : E.L 24 4 (sV a p.length e (pick e A0 A1)) (sO p0 p1 m l (pick e A0 A1)) = E.L 24 4 (sV a (p.length + 1) e (pick e (nx0 c x.k x.n x.t A0) (nx1 c x.k x.n x.t A1))) (sO q0 q1 m l' (pick e (nx0 c x.k x.n x.t A0) (nx1 c x.k x.n x.t A1))) := by
      by_cases hb : (c == 0 && x.k == 1 && ((x.n.tmod 2 != 0) == (e == 1))) = true
      · simp only [Bool.and_eq_true, beq_iff_eq] at hb
        obtain ⟨⟨b1, b2⟩, b3⟩ := hb
        subst b1
        have hy : pick e (nx0 0 x.k x.n x.t A0) (nx1 0 x.k x.n x.t A1) = pick e A0 A1 ++ [x.t] := by
          rcases he with rfl | rfl
          · have : x.n.tmod 2 = 0 := by simpa using b3
            simp [pick, nx0, b2, this]
          · have : ¬ x.n.tmod 2 = 0 := by simpa using b3
            simp [pick, nx1, b2, this]
        rw [hy]
        exact sent_yes hx hl (by unfold pick; split <;> omega) d1 b2 (by simpa using b3)
      · have hb' : (c == 0 && x.k == 1 && ((x.n.tmod 2 != 0) == (e == 1))) = false := by simpa using hb
        have hy : pick e (nx0 c x.k x.n x.t A0) (nx1 c x.k x.n x.t A1) = pick e A0 A1 := by
          rcases he with rfl | rfl
          · have : ¬ (c = 0 ∧ x.k = 1 ∧ x.n.tmod 2 = 0) := fun ⟨b1, b2, b3⟩ => hb (by simp [b1, b2, b3])
            simp [pick, nx0, if_neg this]
          · have : ¬ (c = 0 ∧ x.k = 1 ∧ ¬ x.n.tmod 2 = 0) := fun ⟨b1, b2, b3⟩ => hb (by simp [b1, b2, b3])
            simp [pick, nx1, if_neg this]
        rw [hy]
        exact sent_no hx hl hc d1 hb'
    refine ⟨r0, r1, l'', B0, B1, ?_, ?_, g3, ?_, ?_⟩
    · rw [hs, ← g1]
      simp
    · have e : N + 1 + (r.length : Int) = N + ((x :: r).length : Int) := by simp; omega
      rwa [e] at g2
    · simp only [List.length_cons, Int.natCast_add, Int.cast_ofNat_Int]; omega
    · simp only [List.length_cons, Int.natCast_add, Int.cast_ofNat_Int]; omega
theorem sent_ev {m e : Int} (he : e = 0 ∨ e = 1) {a : List Ac} (hl : a.length ≤ 200) (h1 : 1 ≤ m) (h2 : m ≤ 64) :
    ∃ (q0 q1 : List Fr) (l' : Ln) (B0 B1 : List ByteArray), LInv m 200 l' ∧ PI l' B0 B1 ∧ (q0.length : Int) ≤ 200 ∧ (q1.length : Int) ≤ 200 ∧
    E.F 24 [.ptr 100000 0 0, .ro 3 (a.map acV), .int .i64 e] (lnI [] [] m ln0) = some ((.tup [.sl 200000 0 (pick e B0 B1).length, .bool true], (200000, ⟨false, 1, (pick e B0 B1).map .str⟩) :: lnB 100001 100002 200001 200002 200003 200004 q0 q1 l' :: lnT 100001 100002 200001 200002 200003 200004 200005 200006 q0 q1 m l'), True) := by
  have li : LInv m 0 ln0 := ⟨inv_new h1 h2, inv_new h1 h2, by simp [ln0], by simp [ln0], by simp [ln0], by simp [ln0], fun _ => ⟨rfl, rfl, rfl, rfl⟩, fun h => by cases h⟩
  obtain ⟨q0, q1, l', B0, B1, g1, g2, g3, g4, g5⟩ := sent_loop (m := m) he hl a [] ln0 0 [] [] [] [] rfl (by omega) (by omega) li pi_new (by simp) (by simp) (by simp) (by simp)
  have up : LInv m 200 l' := by
    obtain ⟨i0, i1, a0, a1, b0, b1, dn, un⟩ := g2
    have c1 := i0.c2; have c2 := i0.h1; have c3 := i1.c2; have c4 := i1.h1
    exact ⟨⟨i0.m1, i0.m2, i0.c0, i0.c1, by omega, i0.h0, by omega, i0.hl, i0.hm, i0.s0, i0.s2⟩, ⟨i1.m1, i1.m2, i1.c0, i1.c1, by omega, i1.h0, by omega, i1.hl, i1.hm, i1.s0, i1.s2⟩, by omega, by omega, by omega, by omega, dn, un⟩
  refine ⟨q0, q1, l', B0, B1, up, g3, by omega, by omega, ?_⟩
  have hp : pick e [] [] = [] := by unfold pick; split <;> rfl
  rw [hp] at g1
  simp only [sO, sV, lnB, lnT, ln0, en0, List.map_append, List.cons_append, List.nil_append, List.length_nil, List.map_nil, Int.natCast_zero] at g1
  rw [e24]
  simp (maxSteps := 100000000) only [ivb, anf, Aw.orN, stCall_fn, stNo, avOf, xF_P, xF_G, xF_S, xF_A, xF_f, xF_ps, xF_cx, xF_ret, xF_normal, xF_exit, xL_P, xL_G, xL_S, xL_A, xL_f, xL_ps, xL_cx, xL_ret, xL_normal, xL_exit, canR_some, cxE_P, cxE_G, cxE_n, frzM, frzM.frzO, frzM.frzP, frzW, rowsN, kidsN, frzL, frzL.frzO, frzL.frzP, frzA, frzH, fixV.fixG, fixV.fixQ, fixV.fixR, fixA, fixA.fixS, fixA.fixI, fixV.fixU, fixV.fixT, ltPs, nmS, obsOf, obs0, reach, nums, swp, tau, frN, surv, freE, mkHO, dom, stayA, stay, isArg, inOk, psL, modeF, modeL, resAs, resA, pinsC, HO.lost, HO.bad, dropAll, hp_cons, hp_nil, newH_app, rls_nil, rls_cons, ob_rl, immB_eq, ren, ren.rens, renOb, sub, sub.subs, subOb, kill, argsH, args0, closedL, Ob.refs, wrapg, opnds, outside, headOut, frL, aev, allB, vop, binv, binA, eqL, eqAnd, vload, cut, fits, vindexAddr, vindex, vslice, bnd, vlen, vmin, vbuiltin, nilR, sstore, vstore, stcells, putl, put1, salloc, aop, fillE, vbuild, fillS, setl, spick, sappend, vappend, srcE, badOf, orcGet, List.zip_cons_cons, List.zip_nil_left, List.isEmpty_nil, List.isEmpty_cons, List.reverse_cons, List.reverse_nil, List.append_assoc, List.filter_cons, List.filter_nil, Option.getD_some, Option.getD_none, Option.isSome_some, Option.isSome_none, eq_self, Nat.reduceEqDiff, Nat.reduceLT, Nat.reduceLeDiff, Nat.reduceAdd, Nat.reduceMul, Nat.reduceSub, Nat.reduceBEq, Int.reduceEq, Int.reduceLT, Int.reduceLE, Int.reduceNeg, Int.reduceToNat, Int.reduceBEq, Int.reduceBNe, Nat.reduceBNe, bne_self_eq_false, Int.reduceAdd, Int.reduceSub, Int.reduceMul, Int.reduceTMod, Int.reduceTDiv, Int.reduceMod, Int.reduceDiv, Int.reducePow, Nat.reducePow, Nat.reduceMod, Nat.reduceDiv, reduceCtorEq, ↓reduceIte, if_true, if_false, ne_eq, gt_iff_lt, ge_iff_le, Int.natCast_add, Int.cast_ofNat_Int, List.append_eq, implies_true, beq_self_eq_true, tyb, e3, e4, e5, e6, e7, e8, e9, e10, e11, e12, e13, e14, e15, e16, e17, e18, e19, e20, e21, e22, e23, e25, e26, e27, e29, e30, e31, e32, e33, e34, e35, e36, e37, e38, e39, e40, e41, e42, e43, e44, e45, e46, e47, lnI, lnB, lnT, ln0, en0, g1, List.map_append, List.cons_append, List.nil_append, List.length_nil, List.map_nil, Int.natCast_zero]
end Go.Proofs.Ytmjfccnmeiagbaa
