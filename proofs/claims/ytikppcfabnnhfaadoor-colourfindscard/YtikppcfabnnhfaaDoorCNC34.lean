/- ColourFinds: all. -/
import Derived.Test.YtikppcfabnnhfaaDoorCNC33
namespace Go.Proofs.YtikppcfabnnhfaaDoor
open Go Go.Aw
set_option linter.unusedSimpArgs false
set_option linter.unusedVariables false
set_option maxRecDepth 100000
set_option maxHeartbeats 40000000
theorem pk_top {cs : List Int} : ∀ {r : List (List Et)} {v : List Et} {o : List Int}, (∀ c ∈ r, ∀ e ∈ c, hasC cs e) → topM (packM cs r (v, o)).2 (packM cs r (v, o)).1 ≤ topM o v + 501 * r.length
  | [], v, o, _ => by simp [packM]
  | c :: r, v, o, h => by
    have ih := pk_top (r := r) (v := putL (tblM cs c) (placeA o v (tblM cs c)) (growM v (tblM cs c) (placeA o v (tblM cs c)))) (o := o ++ [placeA o v (tblM cs c)]) (fun c hc => h c (by simp [hc]))
    have tl := tbl_len (h c (by simp))
    obtain ⟨p1, p2⟩ := place_ok (offs := o) (vec := v) (t := tblM cs c)
    have pr := (fAt_rng (ok := okA o v (tblM cs c)) (k := (topM o v).toNat) (a := 0)).2
    rw [show fAt (okA o v (tblM cs c)) (topM o v).toNat 0 = placeA o v (tblM cs c) from rfl] at pr
    obtain ⟨t1, t2⟩ := top_fold (offs := o) (n := v.length)
    rw [show o.foldl (fun n o => max n (o + 1)) (v.length : Int) = topM o v from rfl] at t1 t2
    obtain ⟨g1, g2, g3⟩ := growM_len (vec := v) (t := tblM cs c) p2
    rw [packM]
    generalize placeA o v (tblM cs c) = a at *
    have st : topM (o ++ [a]) (putL (tblM cs c) a (growM v (tblM cs c) a)) ≤ topM o v + 501 := by
      refine top_le (by rw [putL_len]; omega) fun x hx => ?_
      rcases List.mem_append.1 hx with hx | hx
      · have := t2 x hx; omega
      · rw [List.mem_singleton.1 hx]; omega
    rw [List.length_cons]
    dsimp only at ih ⊢
    omega
theorem finds_ev {w : Wd} (hw : inpW w) : EL.F 7 [wdV w] [] = some ((.bool true, []), True) := by
  have aw := awake_ev
  have sm := small_ev hw
  rw [e7L]
  cases hs : smallM w with
  | false =>
    rw [hs] at sm
    simp only [wdV] at sm
    simp (maxSteps := 100000000) only [ivc, vop, salloc, eq_self, Nat.reduceEqDiff, Nat.reduceLT, Nat.reduceLeDiff, Nat.reduceAdd, Nat.reduceMul, Int.reduceNeg, reduceCtorEq, ↓reduceIte, anfL, gv14L, tyb, wdV, sm, aw]
  | true =>
  rw [hs] at sm
  have l1 := colours_ev (w := w) okW_of
  by_cases c1 : ckM w ≠ 0
  · rw [if_neg c1] at l1
    have c1' : (ckM w != 0) = true := bne_iff_ne.2 c1
    simp only [wdV] at sm l1
    simp (maxSteps := 100000000) only [ivc, vop, nilR, salloc, eq_self, Nat.reduceEqDiff, Nat.reduceLT, Nat.reduceLeDiff, Nat.reduceAdd, Nat.reduceMul, Int.reduceNeg, reduceCtorEq, ↓reduceIte, anfL, gv14L, gv29L, tyb, wdV, sm, l1, c1', aw]
  have c1 : ckM w = 0 := Classical.not_not.1 c1
  rw [if_pos c1] at l1
  have g := good_of c1
  have ok := cols_ok (gr_ok (clsok_of g))
  have inj := fun c hc => inj_of g ok (c := c) hc
  have l2 := pack_ev (w := w) (cs := colsM (graphW w)) okW_of (fun _ _ c hc => (inj c hc).2)
  rw [if_pos c1, if_pos (cc_iff.2 ok)] at l2
  have hf := fun (k : Nat) (c : List Et) (s : Int) (hk : w.classes[k]? = some c) => finds g ok hk (s := s)
  have P := pk_all (r := w.classes) (pk_nil (cs := colsM (graphW w))) inj
  rw [List.nil_append] at P
  have top := pk_top (cs := colsM (graphW w)) (r := w.classes) (v := []) (o := []) (fun c hc => (inj c hc).2)
  have hz := szM_le (graphW w) 500
  have hll : (colsM (graphW w)).length ≤ 500 := by rw [ok.len]; exact hz
  have hli : ∀ x ∈ colsM (graphW w), i64r x := fun x hx => by
    have := ok.bd x hx
    unfold i64r; omega
  generalize colsM (graphW w) = l at *
  generalize hv : (packM l w.classes ([], [])).1 = v at *
  generalize ho : (packM l w.classes ([], [])).2 = o at *
  have gc := g.nc
  rw [show topM [] [] = 0 from rfl] at top
  obtain ⟨t1, t2⟩ := top_fold (offs := o) (n := v.length)
  rw [show o.foldl (fun n o => max n (o + 1)) (v.length : Int) = topM o v from rfl] at t1 t2
  have hvl : v.length ≤ 1000000 := by omega
  have hoi : ∀ x ∈ o, i64r x := fun x hx => by
    have := t2 x hx
    have := P.nn x hx
    unfold i64r; omega
  have hol : (o.length : Int) = w.classes.length := by rw [P.len]
  have hsum : sumL w.classes = cntO v := P.cnt.symm
  have hcnt : cntO v ≤ v.length := List.length_filter_le _ _
  have lp1 := fd12_loop (w := w) (l := l) (o := o) (v := v) hvl v [] 0 rfl (by omega) (by simp)
  obtain ⟨b', lp2⟩ := fd17_loop (w := w) (l := l) (o := o) (v := v) (by omega) (fun c hc => by have := g.len c hc; omega) (by omega) hvl hoi hli hf w.classes [] true rfl (by omega)
  have hne : ((o.length : Int) != w.classes.length) = false := by rw [hol]; simp
  rw [hsum] at lp2
  simp only [wdV] at sm l1 l2
  simp only [vV, iV, wO, wdV, List.length_nil, Int.natCast_zero, Int.zero_add] at lp1 lp2
  rw [show xB true = .junk from rfl] at lp2
  cases b' <;> simp only [xB] at lp2 <;> simp (maxSteps := 100000000) only [ivc, vop, vlen, vbuiltin, nilR, salloc, eq_self, Nat.reduceEqDiff, Nat.reduceLT, Nat.reduceLeDiff, Nat.reduceAdd, Nat.reduceMul, Int.reduceNeg, reduceCtorEq, ↓reduceIte, anfL, gv14L, gv29L, gv24L, tyb, wdV, sm, l1, l2, hne, lp1, lp2, aw]
end Go.Proofs.YtikppcfabnnhfaaDoor
