/- Lookup, the program's and the reference's. -/
import Derived.Test.YtikppcfabnnhfaaDoorCNC19
namespace Go.Proofs.YtikppcfabnnhfaaDoor
open Go Go.Aw
set_option linter.unusedSimpArgs false
set_option linter.unusedVariables false
set_option maxRecDepth 100000
set_option maxHeartbeats 40000000
def i64r (x : Int) : Prop := -9223372036854775808 ≤ x ∧ x ≤ 9223372036854775807
theorem getS {l : List Et} {i : Nat} (h : i < l.length) : (l.map enV).getD i .junk = .agg [.int .i64 (l.getD i ⟨0, 0⟩).s, .int .i64 (l.getD i ⟨0, 0⟩).m] := by
  simp [List.getD_eq_getElem?_getD, List.getElem?_eq_getElem h, enV]
/-- The place that a lookup finds; none: none. -/
def placeM (n : Int) (offs l : List Int) (c s : Int) : Option Int :=
  if c < 0 ∨ (offs.length : Int) ≤ c ∨ s < 0 ∨ (l.length : Int) ≤ s ∨ l.getD s.toNat 0 < 0 then none
  else if 0 ≤ offs.getD c.toNat 0 + l.getD s.toNat 0 ∧ offs.getD c.toNat 0 + l.getD s.toNat 0 < n ∧ offs.getD c.toNat 0 ≤ n then some (offs.getD c.toNat 0 + l.getD s.toNat 0) else none
def lookM (v : List Et) (offs l : List Int) (c s : Int) : Int := match placeM v.length offs l c s with
  | none => -1
  | some p => if (v.getD p.toNat ⟨0, 0⟩).s = s then (v.getD p.toNat ⟨0, 0⟩).m else -1
theorem look_ev {v : List Et} {offs l : List Int} {c s : Int} (hv : v.length ≤ 1000000) (ho : ∀ x ∈ offs, i64r x) (hl : ∀ x ∈ l, i64r x) :
    E.F 12 [.ro 2 (v.map enV), .ro 1 (offs.map (AV.int .i64)), .ro 1 (l.map (AV.int .i64)), .int .i64 c, .int .i64 s] [] = some ((.int .i64 (lookM v offs l c s), []), True) := by
  rw [e12]
  by_cases a1 : c < 0
  · have e : lookM v offs l c s = -1 := by unfold lookM placeM; rw [if_pos (by omega)]
    rw [e]
    simp (maxSteps := 100000000) only [ivc, anf, vlen, vbuiltin, nilR, eq_self, Nat.reduceEqDiff, Nat.reduceLT, Nat.reduceLeDiff, Nat.reduceAdd, Nat.reduceBEq, Int.reduceLT, Int.reduceNeg, reduceCtorEq, ↓reduceIte, tyb, a1]
  by_cases a2 : (offs.length : Int) ≤ c
  · have e : lookM v offs l c s = -1 := by unfold lookM placeM; rw [if_pos (by omega)]
    rw [e]
    simp (maxSteps := 100000000) only [ivc, anf, vlen, vbuiltin, nilR, eq_self, Nat.reduceEqDiff, Nat.reduceLT, Nat.reduceLeDiff, Nat.reduceAdd, Nat.reduceBEq, Int.reduceLT, Int.reduceNeg, reduceCtorEq, ↓reduceIte, tyb, a1, a2]
  by_cases a3 : s < 0
  · have e : lookM v offs l c s = -1 := by unfold lookM placeM; rw [if_pos (by omega)]
    rw [e]
    simp (maxSteps := 100000000) only [ivc, anf, vlen, vbuiltin, nilR, eq_self, Nat.reduceEqDiff, Nat.reduceLT, Nat.reduceLeDiff, Nat.reduceAdd, Nat.reduceBEq, Int.reduceLT, Int.reduceNeg, reduceCtorEq, ↓reduceIte, tyb, a1, a2, a3]
  by_cases a4 : (l.length : Int) ≤ s
  · have e : lookM v offs l c s = -1 := by unfold lookM placeM; rw [if_pos (by omega)]
    rw [e]
    simp (maxSteps := 100000000) only [ivc, anf, vlen, vbuiltin, nilR, eq_self, Nat.reduceEqDiff, Nat.reduceLT, Nat.reduceLeDiff, Nat.reduceAdd, Nat.reduceBEq, Int.reduceLT, Int.reduceNeg, reduceCtorEq, ↓reduceIte, tyb, a1, a2, a3, a4]
  have k1 := getI (l := l) (i := s.toNat) (by omega)
  have k2 := getI (l := offs) (i := c.toNat) (by omega)
  have r1 : i64r (l.getD s.toNat 0) := hl _ (by rw [List.getD_eq_getElem?_getD, List.getElem?_eq_getElem (by omega : s.toNat < l.length)]; exact List.getElem_mem _)
  have r2 : i64r (offs.getD c.toNat 0) := ho _ (by rw [List.getD_eq_getElem?_getD, List.getElem?_eq_getElem (by omega : c.toNat < offs.length)]; exact List.getElem_mem _)
  have b1 : (0 ≤ s ∧ s < l.length) = True := eq_true (by omega)
  have b2 : (0 ≤ c ∧ c < offs.length) = True := eq_true (by omega)
  unfold lookM placeM
  generalize l.getD s.toNat 0 = x at k1 r1 ⊢
  generalize offs.getD c.toNat 0 = o at k2 r2 ⊢
  unfold i64r at r1 r2
  by_cases a5 : x < 0
  · rw [if_pos (by omega)]
    simp (maxSteps := 100000000) only [ivc, anf, vlen, vbuiltin, nilR, eq_self, Nat.reduceEqDiff, Nat.reduceLT, Nat.reduceLeDiff, Nat.reduceAdd, Nat.reduceBEq, Int.reduceNeg, reduceCtorEq, ↓reduceIte, tyb, a1, a2, a3, a4, b1, k1, a5]
  rw [if_neg (by omega)]
  have w1 : IntKind.i64.wrap (0 - x) = -x := by rw [Int.zero_sub]; exact wrap_id (by omega) (by omega)
  by_cases a6 : o < -x
  · rw [if_neg (by omega)]
    simp (maxSteps := 100000000) only [ivc, anf, vop, vlen, vbuiltin, nilR, eq_self, Nat.reduceEqDiff, Nat.reduceLT, Nat.reduceLeDiff, Nat.reduceAdd, Nat.reduceBEq, Int.reduceNeg, reduceCtorEq, ↓reduceIte, tyb, a1, a2, a3, a4, b1, b2, k1, k2, a5, w1, a6]
  by_cases a7 : (v.length : Int) < o
  · rw [if_neg (by omega)]
    simp (maxSteps := 100000000) only [ivc, anf, vop, vlen, vbuiltin, nilR, eq_self, Nat.reduceEqDiff, Nat.reduceLT, Nat.reduceLeDiff, Nat.reduceAdd, Nat.reduceBEq, Int.reduceNeg, reduceCtorEq, ↓reduceIte, tyb, a1, a2, a3, a4, b1, b2, k1, k2, a5, w1, a6, a7]
  have tail : ∀ φ : Prop, (0 ≤ o + x ∧ o + x < v.length ∧ o ≤ v.length) → True := fun _ _ => trivial
  by_cases a8 : 0 ≤ o
  · have w2 : IntKind.i64.wrap ((v.length : Int) - o) = v.length - o := wrap_id (by omega) (by omega)
    have w3 : IntKind.i64.wrap ((v.length : Int) - o - 1) = v.length - o - 1 := wrap_id (by omega) (by omega)
    by_cases a9 : (v.length : Int) - o - 1 < x
    · rw [if_neg (by omega)]
      simp (maxSteps := 100000000) only [ivc, anf, vop, vlen, vbuiltin, nilR, eq_self, Nat.reduceEqDiff, Nat.reduceLT, Nat.reduceLeDiff, Nat.reduceAdd, Nat.reduceBEq, Int.reduceNeg, reduceCtorEq, ↓reduceIte, tyb, a1, a2, a3, a4, b1, b2, k1, k2, a5, w1, w2, w3, a6, a7, a8, a9]
    · have w4 : IntKind.i64.wrap (o + x) = o + x := wrap_id (by omega) (by omega)
      have c1 : ¬ o + x < 0 := by omega
      have c2 : ¬ (v.length : Int) ≤ o + x := by omega
      have c3 : (0 ≤ o + x ∧ o + x < v.length) = True := eq_true (by omega)
      have k3 := getS (l := v) (i := (o + x).toNat) (by omega)
      rw [if_pos (by omega)]
      by_cases d : (v.getD (o + x).toNat ⟨0, 0⟩).s = s
      · have d' : ((v.getD (o + x).toNat ⟨0, 0⟩).s != s) = false := by rw [d]; simp
        simp only [if_pos d]
        simp (maxSteps := 100000000) only [ivc, anf, vop, vlen, vbuiltin, nilR, eq_self, Nat.reduceEqDiff, Nat.reduceLT, Nat.reduceLeDiff, Nat.reduceAdd, Nat.reduceBEq, Int.reduceNeg, reduceCtorEq, ↓reduceIte, tyb, a1, a2, a3, a4, b1, b2, k1, k2, k3, a5, w1, w2, w3, w4, a6, a7, a8, a9, c1, c2, c3, d']
      · have d' : ((v.getD (o + x).toNat ⟨0, 0⟩).s != s) = true := bne_iff_ne.2 d
        simp only [if_neg d]
        simp (maxSteps := 100000000) only [ivc, anf, vop, vlen, vbuiltin, nilR, eq_self, Nat.reduceEqDiff, Nat.reduceLT, Nat.reduceLeDiff, Nat.reduceAdd, Nat.reduceBEq, Int.reduceNeg, reduceCtorEq, ↓reduceIte, tyb, a1, a2, a3, a4, b1, b2, k1, k2, k3, a5, w1, w2, w3, w4, a6, a7, a8, a9, c1, c2, c3, d']
  · have w4 : IntKind.i64.wrap (o + x) = o + x := wrap_id (by omega) (by omega)
    have c1 : ¬ o + x < 0 := by omega
    by_cases c2 : (v.length : Int) ≤ o + x
    · rw [if_neg (by omega)]
      by_cases a9 : IntKind.i64.wrap (IntKind.i64.wrap ((v.length : Int) - o) - 1) < x
      · simp (maxSteps := 100000000) only [ivc, anf, vop, vlen, vbuiltin, nilR, eq_self, Nat.reduceEqDiff, Nat.reduceLT, Nat.reduceLeDiff, Nat.reduceAdd, Nat.reduceBEq, Int.reduceNeg, reduceCtorEq, ↓reduceIte, tyb, a1, a2, a3, a4, b1, b2, k1, k2, a5, w1, w4, a6, a7, a8, a9, c1, c2]
      · simp (maxSteps := 100000000) only [ivc, anf, vop, vlen, vbuiltin, nilR, eq_self, Nat.reduceEqDiff, Nat.reduceLT, Nat.reduceLeDiff, Nat.reduceAdd, Nat.reduceBEq, Int.reduceNeg, reduceCtorEq, ↓reduceIte, tyb, a1, a2, a3, a4, b1, b2, k1, k2, a5, w1, w4, a6, a7, a8, a9, c1, c2]
    · have c3 : (0 ≤ o + x ∧ o + x < v.length) = True := eq_true (by omega)
      have k3 := getS (l := v) (i := (o + x).toNat) (by omega)
      rw [if_pos (by omega)]
      by_cases d : (v.getD (o + x).toNat ⟨0, 0⟩).s = s
      · have d' : ((v.getD (o + x).toNat ⟨0, 0⟩).s != s) = false := by rw [d]; simp
        simp only [if_pos d]
        by_cases a9 : IntKind.i64.wrap (IntKind.i64.wrap ((v.length : Int) - o) - 1) < x
        · simp (maxSteps := 100000000) only [ivc, anf, vop, vlen, vbuiltin, nilR, eq_self, Nat.reduceEqDiff, Nat.reduceLT, Nat.reduceLeDiff, Nat.reduceAdd, Nat.reduceBEq, Int.reduceNeg, reduceCtorEq, ↓reduceIte, tyb, a1, a2, a3, a4, b1, b2, k1, k2, k3, a5, w1, w4, a6, a7, a8, a9, c1, c2, c3, d']
        · simp (maxSteps := 100000000) only [ivc, anf, vop, vlen, vbuiltin, nilR, eq_self, Nat.reduceEqDiff, Nat.reduceLT, Nat.reduceLeDiff, Nat.reduceAdd, Nat.reduceBEq, Int.reduceNeg, reduceCtorEq, ↓reduceIte, tyb, a1, a2, a3, a4, b1, b2, k1, k2, k3, a5, w1, w4, a6, a7, a8, a9, c1, c2, c3, d']
      · have d' : ((v.getD (o + x).toNat ⟨0, 0⟩).s != s) = true := bne_iff_ne.2 d
        simp only [if_neg d]
        by_cases a9 : IntKind.i64.wrap (IntKind.i64.wrap ((v.length : Int) - o) - 1) < x
        · simp (maxSteps := 100000000) only [ivc, anf, vop, vlen, vbuiltin, nilR, eq_self, Nat.reduceEqDiff, Nat.reduceLT, Nat.reduceLeDiff, Nat.reduceAdd, Nat.reduceBEq, Int.reduceNeg, reduceCtorEq, ↓reduceIte, tyb, a1, a2, a3, a4, b1, b2, k1, k2, k3, a5, w1, w4, a6, a7, a8, a9, c1, c2, c3, d']
        · simp (maxSteps := 100000000) only [ivc, anf, vop, vlen, vbuiltin, nilR, eq_self, Nat.reduceEqDiff, Nat.reduceLT, Nat.reduceLeDiff, Nat.reduceAdd, Nat.reduceBEq, Int.reduceNeg, reduceCtorEq, ↓reduceIte, tyb, a1, a2, a3, a4, b1, b2, k1, k2, k3, a5, w1, w4, a6, a7, a8, a9, c1, c2, c3, d']
end Go.Proofs.YtikppcfabnnhfaaDoor
