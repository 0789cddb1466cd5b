/- Lookup of the reference; the law. -/
import Derived.Test.YtikppcfabnnhfaaDoorCNC28
namespace Go.Proofs.YtikppcfabnnhfaaDoor
open Go Go.Aw
set_option linter.unusedSimpArgs false
set_option linter.unusedVariables false
set_option maxRecDepth 100000
set_option maxHeartbeats 40000000
theorem wrap_hi {y : Int} (h0 : 9223372036854775807 < y) (h1 : y ≤ 18446744073709551614) : IntKind.i64.wrap y = y - 18446744073709551616 := by
  have e : y % 18446744073709551616 = y := Int.emod_eq_of_lt (by omega) (by omega)
  show (if (true && decide (y % 18446744073709551616 ≥ 9223372036854775808)) = true then y % 18446744073709551616 - 18446744073709551616 else y % 18446744073709551616) = _
  rw [e, if_pos (by simp; omega)]
theorem rlook_ev {v : List Et} {offs l : List Int} {c s : Int} (hv : v.length ≤ 1000000) (ho : ∀ x ∈ offs, i64r x) (hl : ∀ x ∈ l, i64r x) :
    E.F 13 [.ro 2 (v.map enV), .ro 1 (offs.map (AV.int .i64)), .ro 1 (l.map (AV.int .i64)), .int .i64 c, .int .i64 s] [] = some ((.int .i64 (lookM v offs l c s), []), True) := by
  rw [e13]
  by_cases a1 : c < 0
  · have e : lookM v offs l c s = -1 := by unfold lookM placeM; rw [if_pos (by omega)]
    rw [e]
    simp (maxSteps := 100000000) only [ivc, anf, vlen, vbuiltin, nilR, eq_self, Nat.reduceEqDiff, Nat.reduceLT, Nat.reduceLeDiff, Nat.reduceAdd, Nat.reduceBEq, Int.reduceLT, Int.reduceNeg, reduceCtorEq, ↓reduceIte, tyb, a1]
  by_cases a2 : (offs.length : Int) ≤ c
  · have e : lookM v offs l c s = -1 := by unfold lookM placeM; rw [if_pos (by omega)]
    rw [e]
    simp (maxSteps := 100000000) only [ivc, anf, vlen, vbuiltin, nilR, eq_self, Nat.reduceEqDiff, Nat.reduceLT, Nat.reduceLeDiff, Nat.reduceAdd, Nat.reduceBEq, Int.reduceLT, Int.reduceNeg, reduceCtorEq, ↓reduceIte, tyb, a1, a2]
  by_cases a3 : s < 0
  · have e : lookM v offs l c s = -1 := by unfold lookM placeM; rw [if_pos (by omega)]
    rw [e]
    simp (maxSteps := 100000000) only [ivc, anf, vlen, vbuiltin, nilR, eq_self, Nat.reduceEqDiff, Nat.reduceLT, Nat.reduceLeDiff, Nat.reduceAdd, Nat.reduceBEq, Int.reduceLT, Int.reduceNeg, reduceCtorEq, ↓reduceIte, tyb, a1, a2, a3]
  by_cases a4 : (l.length : Int) ≤ s
  · have e : lookM v offs l c s = -1 := by unfold lookM placeM; rw [if_pos (by omega)]
    rw [e]
    simp (maxSteps := 100000000) only [ivc, anf, vlen, vbuiltin, nilR, eq_self, Nat.reduceEqDiff, Nat.reduceLT, Nat.reduceLeDiff, Nat.reduceAdd, Nat.reduceBEq, Int.reduceLT, Int.reduceNeg, reduceCtorEq, ↓reduceIte, tyb, a1, a2, a3, a4]
  have k1 := getI (l := l) (i := s.toNat) (by omega)
  have k2 := getI (l := offs) (i := c.toNat) (by omega)
  have r1 : i64r (l.getD s.toNat 0) := hl _ (by rw [List.getD_eq_getElem?_getD, List.getElem?_eq_getElem (by omega : s.toNat < l.length)]; exact List.getElem_mem _)
  have r2 : i64r (offs.getD c.toNat 0) := ho _ (by rw [List.getD_eq_getElem?_getD, List.getElem?_eq_getElem (by omega : c.toNat < offs.length)]; exact List.getElem_mem _)
  have b1 : (0 ≤ s ∧ s < l.length) = True := eq_true (by omega)
  have b2 : (0 ≤ c ∧ c < offs.length) = True := eq_true (by omega)
  unfold lookM placeM
  generalize l.getD s.toNat 0 = x at k1 r1 ⊢
  generalize offs.getD c.toNat 0 = o at k2 r2 ⊢
  unfold i64r at r1 r2
  by_cases a5 : x < 0
  · rw [if_pos (by omega)]
    simp (maxSteps := 100000000) only [ivc, anf, vlen, vbuiltin, nilR, eq_self, Nat.reduceEqDiff, Nat.reduceLT, Nat.reduceLeDiff, Nat.reduceAdd, Nat.reduceBEq, Int.reduceNeg, reduceCtorEq, ↓reduceIte, tyb, a1, a2, a3, a4, b1, k1, a5]
  rw [if_neg (by omega)]
  by_cases a7 : (v.length : Int) < o
  · rw [if_neg (by omega)]
    simp (maxSteps := 100000000) only [ivc, anf, vop, vlen, vbuiltin, nilR, eq_self, Nat.reduceEqDiff, Nat.reduceLT, Nat.reduceLeDiff, Nat.reduceAdd, Nat.reduceBEq, Int.reduceNeg, reduceCtorEq, ↓reduceIte, tyb, a1, a2, a3, a4, b1, b2, k1, k2, a5, a7]
  by_cases a8 : 9223372036854775807 < o + x
  · have w4 := wrap_hi a8 (by omega)
    have c1 : o + x - 18446744073709551616 < 0 := by omega
    rw [if_neg (by omega)]
    simp (maxSteps := 100000000) only [ivc, anf, vop, vlen, vbuiltin, nilR, eq_self, Nat.reduceEqDiff, Nat.reduceLT, Nat.reduceLeDiff, Nat.reduceAdd, Nat.reduceBEq, Int.reduceNeg, reduceCtorEq, ↓reduceIte, tyb, a1, a2, a3, a4, b1, b2, k1, k2, a5, a7, w4, c1]
  have w4 : IntKind.i64.wrap (o + x) = o + x := wrap_id (by omega) (by omega)
  by_cases c1 : o + x < 0
  · rw [if_neg (by omega)]
    simp (maxSteps := 100000000) only [ivc, anf, vop, vlen, vbuiltin, nilR, eq_self, Nat.reduceEqDiff, Nat.reduceLT, Nat.reduceLeDiff, Nat.reduceAdd, Nat.reduceBEq, Int.reduceNeg, reduceCtorEq, ↓reduceIte, tyb, a1, a2, a3, a4, b1, b2, k1, k2, a5, a7, w4, c1]
  by_cases c2 : (v.length : Int) ≤ o + x
  · rw [if_neg (by omega)]
    simp (maxSteps := 100000000) only [ivc, anf, vop, vlen, vbuiltin, nilR, eq_self, Nat.reduceEqDiff, Nat.reduceLT, Nat.reduceLeDiff, Nat.reduceAdd, Nat.reduceBEq, Int.reduceNeg, reduceCtorEq, ↓reduceIte, tyb, a1, a2, a3, a4, b1, b2, k1, k2, a5, a7, w4, c1, c2]
  have c3 : (0 ≤ o + x ∧ o + x < v.length) = True := eq_true (by omega)
  have k3 := getS (l := v) (i := (o + x).toNat) (by omega)
  rw [if_pos (by omega)]
  by_cases d : (v.getD (o + x).toNat ⟨0, 0⟩).s = s
  · have d' : ((v.getD (o + x).toNat ⟨0, 0⟩).s != s) = false := by rw [d]; simp
    simp only [if_pos d]
    simp (maxSteps := 100000000) only [ivc, anf, vop, vlen, vbuiltin, nilR, eq_self, Nat.reduceEqDiff, Nat.reduceLT, Nat.reduceLeDiff, Nat.reduceAdd, Nat.reduceBEq, Int.reduceNeg, reduceCtorEq, ↓reduceIte, tyb, a1, a2, a3, a4, b1, b2, k1, k2, k3, a5, a7, w4, c1, c2, c3, d']
  · have d' : ((v.getD (o + x).toNat ⟨0, 0⟩).s != s) = true := bne_iff_ne.2 d
    simp only [if_neg d]
    simp (maxSteps := 100000000) only [ivc, anf, vop, vlen, vbuiltin, nilR, eq_self, Nat.reduceEqDiff, Nat.reduceLT, Nat.reduceLeDiff, Nat.reduceAdd, Nat.reduceBEq, Int.reduceNeg, reduceCtorEq, ↓reduceIte, tyb, a1, a2, a3, a4, b1, b2, k1, k2, k3, a5, a7, w4, c1, c2, c3, d']
theorem l3_loop {v : List Et} {O L : List AV} {c s : Int} (hv : v.length ≤ 100) : ∀ (r m : List Et), v = m ++ r →
    EL.L 3 6 [.ro 2 (v.map enV), .ro 1 O, .ro 1 L, .int .i64 c, .int .i64 s, .sl 60000 0 m.length, .int .i64 m.length] [(60000, ⟨false, 2, m.map enV⟩)] = some ((.exit 0, [.ro 2 (v.map enV), .ro 1 O, .ro 1 L, .int .i64 c, .int .i64 s, .sl 60000 0 v.length, .int .i64 v.length], [(60000, ⟨false, 2, v.map enV⟩)]), True) := by
  intro r
  induction r with
  | nil =>
    intro m h
    rw [List.append_nil] at h
    subst h
    have q : ((v.length : Int) < v.length) = False := eq_false (by omega)
    rw [l3_6L]
    simp (maxSteps := 100000000) only [ivc, vlen, vbuiltin, nilR, eq_self, Nat.reduceEqDiff, Nat.reduceLT, Nat.reduceLeDiff, Nat.reduceAdd, reduceCtorEq, ↓reduceIte, anfL, tyb, q]
  | cons x r ih =>
    intro m h
    have hn : m.length + (r.length + 1) = v.length := by rw [h]; simp
    have hi' : (m.length : Int) < v.length := by omega
    have hg := getD_map (f := enV) (show v[m.length]? = some x by rw [h]; simp)
    have hw : IntKind.i64.wrap ((m.length : Int) + 1) = m.length + 1 := wrap_id (by omega) (by omega)
    have hc : (0 ≤ (m.length : Int) ∧ (m.length : Int) < v.length) = True := eq_true (by omega)
    have ih' := ih (m ++ [x]) (by simp [h])
    simp only [List.length_append, List.length_cons, List.length_nil, Nat.zero_add, Int.natCast_add, Int.cast_ofNat_Int, List.map_append, List.map_cons, List.map_nil, enV] at ih'
    rw [l3_6L]
    simp (maxSteps := 100000000) only [ivc, vop, vlen, vbuiltin, nilR, salloc, sappend, eq_self, Nat.reduceEqDiff, Nat.reduceLT, Nat.reduceLeDiff, Nat.reduceAdd, Nat.reduceMul, Nat.reduceSub, reduceCtorEq, ↓reduceIte, anfL, tyb, enV, hi', hg, hw, ih']
    exact some_true (by omega)
theorem lookups_ev {v : List Et} {offs l : List Int} {c s : Int} (ho : ∀ x ∈ offs, i64r x) (hl : ∀ x ∈ l, i64r x) :
    EL.F 3 [.ro 2 (v.map enV), .ro 1 (offs.map (AV.int .i64)), .ro 1 (l.map (AV.int .i64)), .int .i64 c, .int .i64 s] [] = some ((.bool true, []), True) := by
  have aw := awake_ev
  rw [e3L]
  by_cases h1 : (100 : Int) < v.length
  · simp (maxSteps := 100000000) only [ivc, vlen, vbuiltin, nilR, eq_self, Nat.reduceEqDiff, Nat.reduceLT, Nat.reduceLeDiff, Nat.reduceAdd, Nat.reduceMul, reduceCtorEq, ↓reduceIte, anfL, tyb, h1, aw]
  by_cases h2 : (100 : Int) < offs.length
  · simp (maxSteps := 100000000) only [ivc, vlen, vbuiltin, nilR, eq_self, Nat.reduceEqDiff, Nat.reduceLT, Nat.reduceLeDiff, Nat.reduceAdd, Nat.reduceMul, reduceCtorEq, ↓reduceIte, anfL, tyb, h1, h2, aw]
  by_cases h3 : (100 : Int) < l.length
  · simp (maxSteps := 100000000) only [ivc, vlen, vbuiltin, nilR, eq_self, Nat.reduceEqDiff, Nat.reduceLT, Nat.reduceLeDiff, Nat.reduceAdd, Nat.reduceMul, reduceCtorEq, ↓reduceIte, anfL, tyb, h1, h2, h3, aw]
  have lp := l3_loop (v := v) (O := offs.map (AV.int .i64)) (L := l.map (AV.int .i64)) (c := c) (s := s) (by omega) v [] rfl
  have k1 := look_ev (v := v) (c := c) (s := s) (by omega) ho hl
  have k2 := rlook_ev (v := v) (c := c) (s := s) (by omega) ho hl
  simp only [List.length_nil, List.map_nil, Int.natCast_zero] at lp
  simp (maxSteps := 100000000) only [ivc, vlen, vbuiltin, nilR, eq_self, Nat.reduceEqDiff, Nat.reduceLT, Nat.reduceLeDiff, Nat.reduceAdd, Nat.reduceMul, reduceCtorEq, ↓reduceIte, anfL, gv12L, gv13L, tyb, h1, h2, h3, aw, lp, k1, k2]
end Go.Proofs.YtikppcfabnnhfaaDoor
