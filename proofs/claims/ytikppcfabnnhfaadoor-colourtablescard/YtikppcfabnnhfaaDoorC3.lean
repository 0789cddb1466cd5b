/- A part of the proof of ColourTablesCardSaid. -/
import Derived.Test.YtikppcfabnnhfaaDoorTie
import Derived.Test.YtikppcfabnnhfaaDoorCards
import Derived.Lib.LaidTab
import Derived.LaidMore
import Derived.LaidLaws
import Derived.ProofKit
import Derived.Test.YtikppcfabnnhfaaDoorC2
/- Lookup, the program's and the reference's. -/
namespace Go.Proofs.YtikppcfabnnhfaaDoor
open Go Go.Aw
set_option linter.unusedSimpArgs false
set_option linter.unusedVariables false
set_option maxRecDepth 100000
set_option maxHeartbeats 40000000
def i64r (x : Int) : Prop := -9223372036854775808 ≤ x /\ x ≤ 9223372036854775807
theorem getS {l : List Et} {i : Nat} (h : i < l.length) : (l.map enV).getD i .junk = .agg [.int .i64 (l.getD i ⟨0, 0⟩).s, .int .i64 (l.getD i ⟨0, 0⟩).m] := by
 simp [List.getD_eq_getElem?_getD, List.getElem?_eq_getElem h, enV]
/-- The place that a lookup finds; none: none. -/
def placeM (n : Int) (offs l : List Int) (c s : Int) : Option Int :=
 if c < 0 \/ (offs.length : Int) ≤ c \/ s < 0 \/ (l.length : Int) ≤ s \/ l.getD s.toNat 0 < 0 then none
 else if 0 ≤ offs.getD c.toNat 0 + l.getD s.toNat 0 /\ offs.getD c.toNat 0 + l.getD s.toNat 0 < n /\ offs.getD c.toNat 0 ≤ n then some (offs.getD c.toNat 0 + l.getD s.toNat 0) else none
def lookM (v : List Et) (offs l : List Int) (c s : Int) : Int := match placeM v.length offs l c s with
 | none => -1
 | some p => if (v.getD p.toNat ⟨0, 0⟩).s = s then (v.getD p.toNat ⟨0, 0⟩).m else -1
theorem look_ev {v : List Et} {offs l : List Int} {c s : Int} (hv : v.length ≤ 1000000) (ho : ∀ x ∈ offs, i64r x) (hl : ∀ x ∈ l, i64r x) :
  E.F 12 [.ro 2 (v.map enV), .ro 1 (offs.map (AV.int .i64)), .ro 1 (l.map (AV.int .i64)), .int .i64 c, .int .i64 s] [] = some ((.int .i64 (lookM v offs l c s), []), True) := by
 rw [e12]
 by_cases a1 : c < 0
 ·have e : lookM v offs l c s = -1 := by unfold lookM placeM; rw [if_pos (by omega)]
  rw [e]
  simp (maxSteps := 100000000) only [ivc, anf, vlen, vbuiltin, nilR, eq_self, Nat.reduceEqDiff, Nat.reduceLT, Nat.reduceLeDiff, Nat.reduceAdd, Nat.reduceBEq, Int.reduceLT, Int.reduceNeg, reduceCtorEq, ↓reduceIte, tyb, a1]
 by_cases a2 : (offs.length : Int) ≤ c
 ·have e : lookM v offs l c s = -1 := by unfold lookM placeM; rw [if_pos (by omega)]
  rw [e]
  simp (maxSteps := 100000000) only [ivc, anf, vlen, vbuiltin, nilR, eq_self, Nat.reduceEqDiff, Nat.reduceLT, Nat.reduceLeDiff, Nat.reduceAdd, Nat.reduceBEq, Int.reduceLT, Int.reduceNeg, reduceCtorEq, ↓reduceIte, tyb, a1, a2]
 by_cases a3 : s < 0
 ·have e : lookM v offs l c s = -1 := by unfold lookM placeM; rw [if_pos (by omega)]
  rw [e]
  simp (maxSteps := 100000000) only [ivc, anf, vlen, vbuiltin, nilR, eq_self, Nat.reduceEqDiff, Nat.reduceLT, Nat.reduceLeDiff, Nat.reduceAdd, Nat.reduceBEq, Int.reduceLT, Int.reduceNeg, reduceCtorEq, ↓reduceIte, tyb, a1, a2, a3]
 by_cases a4 : (l.length : Int) ≤ s
 ·have e : lookM v offs l c s = -1 := by unfold lookM placeM; rw [if_pos (by omega)]
  rw [e]
  simp (maxSteps := 100000000) only [ivc, anf, vlen, vbuiltin, nilR, eq_self, Nat.reduceEqDiff, Nat.reduceLT, Nat.reduceLeDiff, Nat.reduceAdd, Nat.reduceBEq, Int.reduceLT, Int.reduceNeg, reduceCtorEq, ↓reduceIte, tyb, a1, a2, a3, a4]
 have k1 := getI (l := l) (i := s.toNat) (by omega)
 have k2 := getI (l := offs) (i := c.toNat) (by omega)
 have r1 : i64r (l.getD s.toNat 0) := hl _ (by rw [List.getD_eq_getElem?_getD, List.getElem?_eq_getElem (by omega : s.toNat < l.length)]; exact List.getElem_mem _)
 have r2 : i64r (offs.getD c.toNat 0) := ho _ (by rw [List.getD_eq_getElem?_getD, List.getElem?_eq_getElem (by omega : c.toNat < offs.length)]; exact List.getElem_mem _)
 have b1 : (0 ≤ s /\ s < l.length) = True := eq_true (by omega)
 have b2 : (0 ≤ c /\ c < offs.length) = True := eq_true (by omega)
 unfold lookM placeM
 generalize l.getD s.toNat 0 = x at k1 r1 ⊢
 generalize offs.getD c.toNat 0 = o at k2 r2 ⊢
 unfold i64r at r1 r2
 by_cases a5 : x < 0
 ·rw [if_pos (by omega)]
  simp (maxSteps := 100000000) only [ivc, anf, vlen, vbuiltin, nilR, eq_self, Nat.reduceEqDiff, Nat.reduceLT, Nat.reduceLeDiff, Nat.reduceAdd, Nat.reduceBEq, Int.reduceNeg, reduceCtorEq, ↓reduceIte, tyb, a1, a2, a3, a4, b1, k1, a5]
 rw [if_neg (by omega)]
 have w1 : IntKind.i64.wrap (0 - x) = -x := by rw [Int.zero_sub]; exact wrap_id (by omega) (by omega)
 by_cases a6 : o < -x
 ·rw [if_neg (by omega)]
  simp (maxSteps := 100000000) only [ivc, anf, vop, vlen, vbuiltin, nilR, eq_self, Nat.reduceEqDiff, Nat.reduceLT, Nat.reduceLeDiff, Nat.reduceAdd, Nat.reduceBEq, Int.reduceNeg, reduceCtorEq, ↓reduceIte, tyb, a1, a2, a3, a4, b1, b2, k1, k2, a5, w1, a6]
 by_cases a7 : (v.length : Int) < o
 ·rw [if_neg (by omega)]
  simp (maxSteps := 100000000) only [ivc, anf, vop, vlen, vbuiltin, nilR, eq_self, Nat.reduceEqDiff, Nat.reduceLT, Nat.reduceLeDiff, Nat.reduceAdd, Nat.reduceBEq, Int.reduceNeg, reduceCtorEq, ↓reduceIte, tyb, a1, a2, a3, a4, b1, b2, k1, k2, a5, w1, a6, a7]
 have tail : ∀ φ : Prop, (0 ≤ o + x /\ o + x < v.length /\ o ≤ v.length) -> True := fun _ _ => trivial
 by_cases a8 : 0 ≤ o
 ·have w2 : IntKind.i64.wrap ((v.length : Int) - o) = v.length - o := wrap_id (by omega) (by omega)
  have w3 : IntKind.i64.wrap ((v.length : Int) - o - 1) = v.length - o - 1 := wrap_id (by omega) (by omega)
  by_cases a9 : (v.length : Int) - o - 1 < x
  ·rw [if_neg (by omega)]
   simp (maxSteps := 100000000) only [ivc, anf, vop, vlen, vbuiltin, nilR, eq_self, Nat.reduceEqDiff, Nat.reduceLT, Nat.reduceLeDiff, Nat.reduceAdd, Nat.reduceBEq, Int.reduceNeg, reduceCtorEq, ↓reduceIte, tyb, a1, a2, a3, a4, b1, b2, k1, k2, a5, w1, w2, w3, a6, a7, a8, a9]
  ·have w4 : IntKind.i64.wrap (o + x) = o + x := wrap_id (by omega) (by omega)
   have c1 : ¬ o + x < 0 := by omega
   have c2 : ¬ (v.length : Int) ≤ o + x := by omega
   have c3 : (0 ≤ o + x /\ o + x < v.length) = True := eq_true (by omega)
   have k3 := getS (l := v) (i := (o + x).toNat) (by omega)
   rw [if_pos (by omega)]
   by_cases d : (v.getD (o + x).toNat ⟨0, 0⟩).s = s
   ·have d' : ((v.getD (o + x).toNat ⟨0, 0⟩).s != s) = false := by rw [d]; simp
    simp only [if_pos d]
    simp (maxSteps := 100000000) only [ivc, anf, vop, vlen, vbuiltin, nilR, eq_self, Nat.reduceEqDiff, Nat.reduceLT, Nat.reduceLeDiff, Nat.reduceAdd, Nat.reduceBEq, Int.reduceNeg, reduceCtorEq, ↓reduceIte, tyb, a1, a2, a3, a4, b1, b2, k1, k2, k3, a5, w1, w2, w3, w4, a6, a7, a8, a9, c1, c2, c3, d']
   ·have d' : ((v.getD (o + x).toNat ⟨0, 0⟩).s != s) = true := bne_iff_ne.2 d
    simp only [if_neg d]
    simp (maxSteps := 100000000) only [ivc, anf, vop, vlen, vbuiltin, nilR, eq_self, Nat.reduceEqDiff, Nat.reduceLT, Nat.reduceLeDiff, Nat.reduceAdd, Nat.reduceBEq, Int.reduceNeg, reduceCtorEq, ↓reduceIte, tyb, a1, a2, a3, a4, b1, b2, k1, k2, k3, a5, w1, w2, w3, w4, a6, a7, a8, a9, c1, c2, c3, d']
 ·have w4 : IntKind.i64.wrap (o + x) = o + x := wrap_id (by omega) (by omega)
  have c1 : ¬ o + x < 0 := by omega
  by_cases c2 : (v.length : Int) ≤ o + x
  ·rw [if_neg (by omega)]
   by_cases a9 : IntKind.i64.wrap (IntKind.i64.wrap ((v.length : Int) - o) - 1) < x
   ·simp (maxSteps := 100000000) only [ivc, anf, vop, vlen, vbuiltin, nilR, eq_self, Nat.reduceEqDiff, Nat.reduceLT, Nat.reduceLeDiff, Nat.reduceAdd, Nat.reduceBEq, Int.reduceNeg, reduceCtorEq, ↓reduceIte, tyb, a1, a2, a3, a4, b1, b2, k1, k2, a5, w1, w4, a6, a7, a8, a9, c1, c2]
   ·simp (maxSteps := 100000000) only [ivc, anf, vop, vlen, vbuiltin, nilR, eq_self, Nat.reduceEqDiff, Nat.reduceLT, Nat.reduceLeDiff, Nat.reduceAdd, Nat.reduceBEq, Int.reduceNeg, reduceCtorEq, ↓reduceIte, tyb, a1, a2, a3, a4, b1, b2, k1, k2, a5, w1, w4, a6, a7, a8, a9, c1, c2]
  ·have c3 : (0 ≤ o + x /\ o + x < v.length) = True := eq_true (by omega)
   have k3 := getS (l := v) (i := (o + x).toNat) (by omega)
   rw [if_pos (by omega)]
   by_cases d : (v.getD (o + x).toNat ⟨0, 0⟩).s = s
   ·have d' : ((v.getD (o + x).toNat ⟨0, 0⟩).s != s) = false := by rw [d]; simp
    simp only [if_pos d]
    by_cases a9 : IntKind.i64.wrap (IntKind.i64.wrap ((v.length : Int) - o) - 1) < x
    ·simp (maxSteps := 100000000) only [ivc, anf, vop, vlen, vbuiltin, nilR, eq_self, Nat.reduceEqDiff, Nat.reduceLT, Nat.reduceLeDiff, Nat.reduceAdd, Nat.reduceBEq, Int.reduceNeg, reduceCtorEq, ↓reduceIte, tyb, a1, a2, a3, a4, b1, b2, k1, k2, k3, a5, w1, w4, a6, a7, a8, a9, c1, c2, c3, d']
    ·simp (maxSteps := 100000000) only [ivc, anf, vop, vlen, vbuiltin, nilR, eq_self, Nat.reduceEqDiff, Nat.reduceLT, Nat.reduceLeDiff, Nat.reduceAdd, Nat.reduceBEq, Int.reduceNeg, reduceCtorEq, ↓reduceIte, tyb, a1, a2, a3, a4, b1, b2, k1, k2, k3, a5, w1, w4, a6, a7, a8, a9, c1, c2, c3, d']
   ·have d' : ((v.getD (o + x).toNat ⟨0, 0⟩).s != s) = true := bne_iff_ne.2 d
    simp only [if_neg d]
    by_cases a9 : IntKind.i64.wrap (IntKind.i64.wrap ((v.length : Int) - o) - 1) < x
    ·simp (maxSteps := 100000000) only [ivc, anf, vop, vlen, vbuiltin, nilR, eq_self, Nat.reduceEqDiff, Nat.reduceLT, Nat.reduceLeDiff, Nat.reduceAdd, Nat.reduceBEq, Int.reduceNeg, reduceCtorEq, ↓reduceIte, tyb, a1, a2, a3, a4, b1, b2, k1, k2, k3, a5, w1, w4, a6, a7, a8, a9, c1, c2, c3, d']
    ·simp (maxSteps := 100000000) only [ivc, anf, vop, vlen, vbuiltin, nilR, eq_self, Nat.reduceEqDiff, Nat.reduceLT, Nat.reduceLeDiff, Nat.reduceAdd, Nat.reduceBEq, Int.reduceNeg, reduceCtorEq, ↓reduceIte, tyb, a1, a2, a3, a4, b1, b2, k1, k2, k3, a5, w1, w4, a6, a7, a8, a9, c1, c2, c3, d']
end Go.Proofs.YtikppcfabnnhfaaDoor

/- small. -/
namespace Go.Proofs.YtikppcfabnnhfaaDoor
open Go Go.Aw
set_option linter.unusedSimpArgs false
set_option linter.unusedVariables false
set_option maxRecDepth 100000
set_option maxHeartbeats 40000000
def lenS : List (List Et) -> Int
 | [] => 0
 | c :: r => c.length + lenS r
def lenB : List Bd -> Int
 | [] => 0
 | b :: r => b.ss.length + b.ms.length + b.cs.length + lenB r
theorem sm6_loop {w : Wd} {k : Int} (hl : w.classes.length ≤ 210) (hs : ∀ c ∈ w.classes, (c.length : Int) ≤ 1000000000000000) : ∀ (r m : List (List Et)) (n : Int) (b : Bool), w.classes = m ++ r -> 0 ≤ n -> n + r.length * 1000000000000000 ≤ 4000000000000000000 ->
  E.L 14 6 [.ptr 60000 0 0, .int .i64 n, .int .i64 k, .bool b, .int .i64 m.length] (wO w) = some ((.exit 0, [.ptr 60000 0 0, .int .i64 (n + lenS r), .int .i64 k, .bool (b || r.any bigC), .int .i64 w.classes.length], wO w), True) := by
 intro r
 induction r with
 | nil =>
  intro m n b h _ _
  rw [List.append_nil] at h
  rw [l14_6]
  simp (maxSteps := 100000000) only [ivc, anf, vop, vlen, vbuiltin, nilR, eq_self, Nat.reduceEqDiff, Nat.reduceLT, Nat.reduceLeDiff, Nat.reduceAdd, Nat.reduceBEq, reduceCtorEq, ↓reduceIte, tyb, wO, wdV, h, Int.lt_irrefl, List.any_nil, lenS, Int.add_zero]
 | cons x r ih =>
  intro m n b h h0 hb
  have hn : m.length + (r.length + 1) = w.classes.length := by rw [h]; simp
  have hi' : (m.length : Int) < w.classes.length := by omega
  have hg := getD_map (f := clV) (show w.classes[m.length]? = some x by rw [h]; simp)
  have hw : IntKind.i64.wrap ((m.length : Int) + 1) = m.length + 1 := wrap_id (by omega) (by omega)
  have hc : (0 ≤ (m.length : Int)) = True := eq_true (by omega)
  have hx : (x.length : Int) ≤ 1000000000000000 := hs x (by rw [h]; simp)
  rw [List.length_cons] at hb
  have hw2 : IntKind.i64.wrap (n + x.length) = n + x.length := wrap_id (by omega) (by omega)
  have ih' := ih (m ++ [x]) (n + x.length) (b || bigC x) (by simp [h]) (by omega) (by omega)
  have e : n + x.length + lenS r = n + (x.length + lenS r) := by omega
  simp only [List.length_append, List.length_cons, List.length_nil, Nat.zero_add, Int.natCast_add, Int.cast_ofNat_Int, wO, wdV, e] at ih'
  rw [l14_6]
  cases b with
  | true =>
   simp only [Bool.true_or] at ih'
   simp (maxSteps := 100000000) only [ivc, anf, vop, vlen, vbuiltin, nilR, eq_self, Nat.reduceEqDiff, Nat.reduceLT, Nat.reduceLeDiff, Nat.reduceAdd, Nat.reduceBEq, Int.reduceLT, reduceCtorEq, ↓reduceIte, tyb, wO, wdV, clV, hi', hg, hw, hc, hw2, ih', lenS]
  | false =>
   simp only [Bool.false_or, bigC] at ih'
   simp (maxSteps := 100000000) only [ivc, anf, vop, vlen, vbuiltin, nilR, eq_self, Nat.reduceEqDiff, Nat.reduceLT, Nat.reduceLeDiff, Nat.reduceAdd, Nat.reduceBEq, reduceCtorEq, ↓reduceIte, tyb, wO, wdV, clV, hi', hg, hw, hc, hw2, ih', lenS, List.any_cons, bigC]
theorem sm11_loop {w : Wd} {n : Int} (hl : w.bodies.length ≤ 510) (hs : ∀ b ∈ w.bodies, (b.ss.length : Int) ≤ 1000000000000000 /\ (b.ms.length : Int) ≤ 1000000000000000 /\ (b.cs.length : Int) ≤ 1000000000000000) : ∀ (r m : List Bd) (k : Int) (b : Bool), w.bodies = m ++ r -> 0 ≤ k -> k + r.length * 3000000000000000 ≤ 4000000000000000000 ->
  E.L 14 11 [.ptr 60000 0 0, .int .i64 n, .int .i64 k, .bool b, .int .i64 m.length] (wO w) = some ((.exit 2, [.ptr 60000 0 0, .int .i64 n, .int .i64 (k + lenB r), .bool (b || r.any bigB), .int .i64 w.bodies.length], wO w), True) := by
 intro r
 induction r with
 | nil =>
  intro m n b h _ _
  rw [List.append_nil] at h
  rw [l14_11]
  simp (maxSteps := 100000000) only [ivc, anf, vop, vlen, vbuiltin, nilR, eq_self, Nat.reduceEqDiff, Nat.reduceLT, Nat.reduceLeDiff, Nat.reduceAdd, Nat.reduceBEq, reduceCtorEq, ↓reduceIte, tyb, wO, wdV, h, Int.lt_irrefl, List.any_nil, lenB, Int.add_zero]
 | cons x r ih =>
  intro m k b h h0 hb
  have hn : m.length + (r.length + 1) = w.bodies.length := by rw [h]; simp
  have hi' : (m.length : Int) < w.bodies.length := by omega
  have hg := getD_map (f := bdV) (show w.bodies[m.length]? = some x by rw [h]; simp)
  have hw : IntKind.i64.wrap ((m.length : Int) + 1) = m.length + 1 := wrap_id (by omega) (by omega)
  have hc : (0 ≤ (m.length : Int)) = True := eq_true (by omega)
  obtain ⟨x1, x2, x3⟩ := hs x (by rw [h]; simp)
  rw [List.length_cons] at hb
  have w1 : IntKind.i64.wrap ((x.ss.length : Int) + x.ms.length) = (x.ss.length : Int) + x.ms.length := wrap_id (by omega) (by omega)
  have w2 : IntKind.i64.wrap ((x.ss.length : Int) + x.ms.length + x.cs.length) = (x.ss.length : Int) + x.ms.length + x.cs.length := wrap_id (by omega) (by omega)
  have w3 : IntKind.i64.wrap (k + ((x.ss.length : Int) + x.ms.length + x.cs.length)) = k + ((x.ss.length : Int) + x.ms.length + x.cs.length) := wrap_id (by omega) (by omega)
  have ih' := ih (m ++ [x]) (k + ((x.ss.length : Int) + x.ms.length + x.cs.length)) (b || bigB x) (by simp [h]) (by omega) (by omega)
  have e : k + ((x.ss.length : Int) + x.ms.length + x.cs.length) + lenB r = k + ((x.ss.length : Int) + x.ms.length + x.cs.length + lenB r) := by omega
  simp only [List.length_append, List.length_cons, List.length_nil, Nat.zero_add, Int.natCast_add, Int.cast_ofNat_Int, wO, wdV, e] at ih'
  rw [l14_11]
  cases b with
  | true =>
   simp only [Bool.true_or] at ih'
   simp (maxSteps := 100000000) only [ivc, anf, vop, vlen, vbuiltin, nilR, salloc, eq_self, Nat.reduceEqDiff, Nat.reduceLT, Nat.reduceLeDiff, Nat.reduceAdd, Nat.reduceBEq, Int.reduceLT, reduceCtorEq, ↓reduceIte, tyb, wO, wdV, bdV, hi', hg, hw, hc, w1, w2, w3, ih', lenB]
  | false =>
   have big : bigB x = (decide ((100 : Int) < x.ss.length) || decide ((100 : Int) < x.ms.length) || decide ((100 : Int) < x.cs.length)) := rfl
   simp only [Bool.false_or, big] at ih'
   rw [List.any_cons, big]
   by_cases b1 : (100 : Int) < x.ss.length
   ·simp only [b1, decide_true, Bool.true_or] at ih'
    simp (maxSteps := 100000000) only [ivc, anf, vop, vlen, vbuiltin, nilR, salloc, eq_self, Nat.reduceEqDiff, Nat.reduceLT, Nat.reduceLeDiff, Nat.reduceAdd, Nat.reduceBEq, Int.reduceLT, reduceCtorEq, ↓reduceIte, tyb, wO, wdV, bdV, hi', hg, hw, hc, w1, w2, w3, ih', lenB, b1]
   ·by_cases b2 : (100 : Int) < x.ms.length
    ·simp only [b1, b2, decide_true, Bool.true_or, Bool.or_true] at ih'
     simp (maxSteps := 100000000) only [ivc, anf, vop, vlen, vbuiltin, nilR, salloc, eq_self, Nat.reduceEqDiff, Nat.reduceLT, Nat.reduceLeDiff, Nat.reduceAdd, Nat.reduceBEq, Int.reduceLT, reduceCtorEq, ↓reduceIte, tyb, wO, wdV, bdV, hi', hg, hw, hc, w1, w2, w3, ih', lenB, b1, b2]
    ·simp only [b1, b2, decide_false, Bool.false_or] at ih'
     simp (maxSteps := 100000000) only [ivc, anf, vop, vlen, vbuiltin, nilR, salloc, eq_self, Nat.reduceEqDiff, Nat.reduceLT, Nat.reduceLeDiff, Nat.reduceAdd, Nat.reduceBEq, reduceCtorEq, ↓reduceIte, tyb, wO, wdV, bdV, hi', hg, hw, hc, w1, w2, w3, ih', lenB, b1, b2]
def manyM (w : Wd) : Bool := decide ((200 : Int) < w.classes.length) || decide ((500 : Int) < w.bodies.length) || decide ((64 : Int) < w.roots.length) || w.classes.any bigC || w.bodies.any bigB
def smallM (w : Wd) : Bool :=
 if (210 : Int) < w.classes.length \/ (510 : Int) < w.bodies.length \/ (70 : Int) < w.roots.length then false
 else if manyM w then decide (lenS w.classes < 500) && decide (lenB w.bodies < 500)
 else decide ((w.classes.length : Int) ≤ 12) && decide (lenS w.classes ≤ 60) && decide ((w.bodies.length : Int) ≤ 30) && decide (lenB w.bodies ≤ 100) && decide ((w.roots.length : Int) ≤ 10)
/-- What can be handed in: no list is longer than a machine holds. -/
def inpW (w : Wd) : Prop := (∀ c ∈ w.classes, (c.length : Int) ≤ 1000000000000000) /\ ∀ b ∈ w.bodies, (b.ss.length : Int) ≤ 1000000000000000 /\ (b.ms.length : Int) ≤ 1000000000000000 /\ (b.cs.length : Int) ≤ 1000000000000000
theorem small_ev {w : Wd} (hw : inpW w) : E.F 14 [wdV w] [] = some ((.bool (smallM w), []), True) := by
 rw [e14]
 unfold smallM
 by_cases a1 : (210 : Int) < w.classes.length
 ·rw [if_pos (.inl a1)]
  simp (maxSteps := 100000000) only [ivc, anf, vop, vlen, vbuiltin, nilR, salloc, eq_self, Nat.reduceEqDiff, Nat.reduceLT, Nat.reduceLeDiff, Nat.reduceAdd, Nat.reduceBEq, Int.reduceLT, reduceCtorEq, ↓reduceIte, tyb, wdV, a1]
 by_cases a2 : (510 : Int) < w.bodies.length
 ·rw [if_pos (.inr (.inl a2))]
  simp (maxSteps := 100000000) only [ivc, anf, vop, vlen, vbuiltin, nilR, salloc, eq_self, Nat.reduceEqDiff, Nat.reduceLT, Nat.reduceLeDiff, Nat.reduceAdd, Nat.reduceBEq, Int.reduceLT, reduceCtorEq, ↓reduceIte, tyb, wdV, a1, a2]
 by_cases a3 : (70 : Int) < w.roots.length
 ·rw [if_pos (.inr (.inr a3))]
  simp (maxSteps := 100000000) only [ivc, anf, vop, vlen, vbuiltin, nilR, salloc, eq_self, Nat.reduceEqDiff, Nat.reduceLT, Nat.reduceLeDiff, Nat.reduceAdd, Nat.reduceBEq, reduceCtorEq, ↓reduceIte, tyb, wdV, a1, a2, a3]
 rw [if_neg (by omega)]
 have lp1 := fun b => sm6_loop (w := w) (k := 0) (by omega) hw.1 w.classes [] 0 b rfl (by omega) (by omega)
 have lp2 := fun n b => sm11_loop (w := w) (n := n) (by omega) hw.2 w.bodies [] 0 b rfl (by omega) (by omega)
 simp only [List.length_nil, Int.natCast_zero, Int.zero_add, wO, wdV] at lp1 lp2
 unfold manyM
 have hb : ((200 : Int) < w.classes.length /\ True /\ True) \/ (¬ (200 : Int) < w.classes.length /\ (500 : Int) < w.bodies.length /\ True) \/ (¬ (200 : Int) < w.classes.length /\ ¬ (500 : Int) < w.bodies.length /\ (64 : Int) < w.roots.length) \/ (¬ (200 : Int) < w.classes.length /\ ¬ (500 : Int) < w.bodies.length /\ ¬ (64 : Int) < w.roots.length) := by
  by_cases x1 : (200 : Int) < w.classes.length
  ·exact .inl ⟨x1, trivial, trivial⟩
  by_cases x2 : (500 : Int) < w.bodies.length
  ·exact .inr (.inl ⟨x1, x2, trivial⟩)
  by_cases x3 : (64 : Int) < w.roots.length
  ·exact .inr (.inr (.inl ⟨x1, x2, x3⟩))
  exact .inr (.inr (.inr ⟨x1, x2, x3⟩))
 rcases hb with ⟨b1, b2, b3⟩ | ⟨b1, b2, b3⟩ | ⟨b1, b2, b3⟩ | ⟨b1, b2, b3⟩
 rotate_right
 ·cases hA : w.classes.any bigC
  ·cases hB : w.bodies.any bigB
   ·by_cases q1 : (w.classes.length : Int) ≤ 12
    ·by_cases q2 : lenS w.classes ≤ 60
     ·by_cases q3 : (w.bodies.length : Int) ≤ 30
      ·by_cases q4 : lenB w.bodies ≤ 100
       ·simp (maxSteps := 100000000) only [ivc, anf, vop, vlen, vbuiltin, nilR, salloc, eq_self, Nat.reduceEqDiff, Nat.reduceLT, Nat.reduceLeDiff, Nat.reduceAdd, Nat.reduceBEq, reduceCtorEq, ↓reduceIte, tyb, wdV, a1, a2, a3, b1, b2, b3, lp1, lp2, hA, hB, q1, q2, q3, q4]
       ·simp (maxSteps := 100000000) only [ivc, anf, vop, vlen, vbuiltin, nilR, salloc, eq_self, Nat.reduceEqDiff, Nat.reduceLT, Nat.reduceLeDiff, Nat.reduceAdd, Nat.reduceBEq, Int.reduceLE, reduceCtorEq, ↓reduceIte, tyb, wdV, a1, a2, a3, b1, b2, b3, lp1, lp2, hA, hB, q1, q2, q3, q4]
      ·simp (maxSteps := 100000000) only [ivc, anf, vop, vlen, vbuiltin, nilR, salloc, eq_self, Nat.reduceEqDiff, Nat.reduceLT, Nat.reduceLeDiff, Nat.reduceAdd, Nat.reduceBEq, Int.reduceLE, reduceCtorEq, ↓reduceIte, tyb, wdV, a1, a2, a3, b1, b2, b3, lp1, lp2, hA, hB, q1, q2, q3]
     ·simp (maxSteps := 100000000) only [ivc, anf, vop, vlen, vbuiltin, nilR, salloc, eq_self, Nat.reduceEqDiff, Nat.reduceLT, Nat.reduceLeDiff, Nat.reduceAdd, Nat.reduceBEq, Int.reduceLE, reduceCtorEq, ↓reduceIte, tyb, wdV, a1, a2, a3, b1, b2, b3, lp1, lp2, hA, hB, q1, q2]
    ·simp (maxSteps := 100000000) only [ivc, anf, vop, vlen, vbuiltin, nilR, salloc, eq_self, Nat.reduceEqDiff, Nat.reduceLT, Nat.reduceLeDiff, Nat.reduceAdd, Nat.reduceBEq, Int.reduceLE, reduceCtorEq, ↓reduceIte, tyb, wdV, a1, a2, a3, b1, b2, b3, lp1, lp2, hA, hB, q1]
   ·by_cases q1 : lenS w.classes < 500
    ·simp (maxSteps := 100000000) only [ivc, anf, vop, vlen, vbuiltin, nilR, salloc, eq_self, Nat.reduceEqDiff, Nat.reduceLT, Nat.reduceLeDiff, Nat.reduceAdd, Nat.reduceBEq, reduceCtorEq, ↓reduceIte, tyb, wdV, a1, a2, a3, b1, b2, b3, lp1, lp2, hA, hB, q1]
    ·simp (maxSteps := 100000000) only [ivc, anf, vop, vlen, vbuiltin, nilR, salloc, eq_self, Nat.reduceEqDiff, Nat.reduceLT, Nat.reduceLeDiff, Nat.reduceAdd, Nat.reduceBEq, reduceCtorEq, ↓reduceIte, tyb, wdV, a1, a2, a3, b1, b2, b3, lp1, lp2, hA, hB, q1]
  ·by_cases q1 : lenS w.classes < 500
   ·simp (maxSteps := 100000000) only [ivc, anf, vop, vlen, vbuiltin, nilR, salloc, eq_self, Nat.reduceEqDiff, Nat.reduceLT, Nat.reduceLeDiff, Nat.reduceAdd, Nat.reduceBEq, reduceCtorEq, ↓reduceIte, tyb, wdV, a1, a2, a3, b1, b2, b3, lp1, lp2, hA, q1]
   ·simp (maxSteps := 100000000) only [ivc, anf, vop, vlen, vbuiltin, nilR, salloc, eq_self, Nat.reduceEqDiff, Nat.reduceLT, Nat.reduceLeDiff, Nat.reduceAdd, Nat.reduceBEq, reduceCtorEq, ↓reduceIte, tyb, wdV, a1, a2, a3, b1, b2, b3, lp1, lp2, hA, q1]
 all_goals
  by_cases q1 : lenS w.classes < 500
  ·simp (maxSteps := 100000000) only [ivc, anf, vop, vlen, vbuiltin, nilR, salloc, eq_self, Nat.reduceEqDiff, Nat.reduceLT, Nat.reduceLeDiff, Nat.reduceAdd, Nat.reduceBEq, reduceCtorEq, ↓reduceIte, tyb, wdV, a1, a2, a3, b1, b2, b3, lp1, lp2, q1]
  ·simp (maxSteps := 100000000) only [ivc, anf, vop, vlen, vbuiltin, nilR, salloc, eq_self, Nat.reduceEqDiff, Nat.reduceLT, Nat.reduceLeDiff, Nat.reduceAdd, Nat.reduceBEq, reduceCtorEq, ↓reduceIte, tyb, wdV, a1, a2, a3, b1, b2, b3, lp1, lp2, q1]
end Go.Proofs.YtikppcfabnnhfaaDoor

/- What all rows of this seat share: the table, types of what comes in. -/
namespace Go.Proofs.YtikppcfabnnhfaaDoor
open Go Go.Aw
set_option maxRecDepth 100000
theorem own : ownKnob Tryd.prog.godebug = none := by kernel_rfl
theorem laidOut : laidOutB Tryd.prog = true := by kernel_rfl
def laidL : List (String × DataW Unit) := [("math/bits.deBruijn64tab", Rows.laid_math_bits_deBruijn64tab)]
theorem gT : Tryd.prog.globalNamed "math/bits.deBruijn64tab" = some 0 := by kernel_rfl
theorem tab_laid {W : World} (h : laidMetH Tryd.prog laidL W) : ∀ g, RV ⟨noμ, oldB W⟩ noH W (G g) (.pointer (some ⟨g, 0, none⟩)) := by
 have h' : laidMet Tryd.prog (("math/bits.deBruijn64tab", Lib.tabData .u8 tab) :: []) W := by
  rw [MakeChecks.laidMetH_plain _ _ _ (by kernel_rfl)] at h
  exact h
 have ht := Lib.tabIs_of_head (t := 147) (e := 5) (n := 64) gT (by kernel_rfl) (by kernel_rfl) Tryd.underlying5 (by kernel_rfl) (by kernel_rfl) h'
 intro g
 by_cases hg : g = 0
 ·subst hg
  exact rop_table (by decide) fun i hi => ht.cell gT i hi
 ·rw [show G g = .junk from if_neg hg]
  exact .junk _
theorem door_met (os : Os) (args : Array Value) : laidMetH Tryd.prog laidL ((World.doorLaid Tryd.prog 400 os).forCall (fun _ _ => 0) ⟨#[], args, []⟩).memory :=
 laidMetH_of_parts3 (fuel := 8) (laidMet_of_run' 8 (by kernel_rfl) (by kernel_rfl)) (by kernel_rfl) (by kernel_rfl)
theorem wf64 {x : Int} (h : (Lit.int .i64 x).wf = true) : i64r x := by
 simp only [Lit.wf, Bool.and_eq_true, decide_eq_true_eq] at h
 exact h
theorem ints_of {n : Nat} {xs : List AV} (h : typed Tryd.prog n 23 xs) : ∃ l : List Int, (∀ x ∈ l, i64r x) /\ l.length ≤ maxLen /\ (l.length : Int) ≤ 17592186044416 /\ xs = [.ro 1 (l.map (AV.int .i64))] := by
 obtain ⟨m, es, hl, hb, he, rfl⟩ := typed_slice Tryd.underlying23 h
 obtain ⟨l, h1, rfl⟩ := list_map_of (f := AV.int .i64) (Q := fun x => i64r x) (es := es) fun y hy => by
  obtain ⟨k, hk, e⟩ := typed_int Tryd.underlying3 (he y hy).1
  have h2 := (he y hy).2
  simp only [isE, Tryd.underlying3] at h2
  rw [h2] at e
  exact ⟨k, wf64 hk, by simpa using e⟩
 rw [show Tryd.prog.bytesOf 3 = 8 by kernel_rfl, List.length_map] at hb
 exact ⟨l, h1, by simpa using hl, by unfold reachBytes at hb; omega, rfl⟩
theorem int_of {n : Nat} {xs : List AV} (h : typed Tryd.prog n 3 xs) : ∃ x, i64r x /\ xs = [.int .i64 x] := by
 obtain ⟨k, hk, e⟩ := typed_int Tryd.underlying3 h
 exact ⟨k, wf64 hk, e⟩
/-- Pairs of integers, as entries and slots are. -/
theorem pairs_of {u e n : Nat} {xs : List AV} {fs : Array Field} (hu : Tryd.prog.underlying u = some (.slice e)) (he : Tryd.prog.underlying e = some (.struct fs)) (hts : fs.toList.map (·.type) = [3, 3]) (hc : Tryd.prog.cellsOf e = 2) (hy : Tryd.prog.bytesOf e = 16) (h : typed Tryd.prog n u xs) :
  ∃ l : List Et, (∀ x ∈ l, i64r x.s /\ i64r x.m) /\ l.length ≤ maxLen /\ (l.length : Int) ≤ 17592186044416 /\ xs = [clV l] := by
 obtain ⟨m, es, hl, hb, hh, rfl⟩ := typed_slice hu h
 obtain ⟨l, h1, rfl⟩ := list_map_of (f := enV) (Q := fun x => i64r x.s /\ i64r x.m) (es := es) fun y hy => by
  obtain ⟨cs, rfl⟩ := isE_struct he (hh y hy).2
  obtain ⟨m, y0, r0, e0, h0, y1, r1, rfl, h1, rfl⟩ := typed_struct he (hh _ hy).1 hts
  obtain ⟨a, wa, rfl⟩ := int_of h0
  obtain ⟨b, wb, rfl⟩ := int_of h1
  exact ⟨⟨a, b⟩, ⟨wa, wb⟩, by show AV.agg cs = _; rw [show cs = _ from e0]; rfl⟩
 rw [hy, List.length_map] at hb
 exact ⟨l, h1, by simpa using hl, by unfold reachBytes at hb; omega, by rw [hc]; rfl⟩
/-- All numbers of a world are integers of the program. -/
def inpR (w : Wd) : Prop := (∀ c ∈ w.classes, ∀ e ∈ c, i64r e.s /\ i64r e.m) /\ (∀ b ∈ w.bodies, (∀ x ∈ b.ss, i64r x) /\ (∀ x ∈ b.ms, i64r x) /\ ∀ x ∈ b.cs, i64r x) /\ ∀ x ∈ w.roots, i64r x
theorem world_of {n : Nat} {xs : List AV} (h : typed Tryd.prog n 35 xs) : ∃ w : Wd, inpW w /\ inpR w /\ AV.agg xs = wdV w := by
 obtain ⟨m, y0, r0, rfl, h0, y1, r1, rfl, h1, y2, r2, rfl, h2, rfl⟩ := typed_struct Tryd.underlying35 h rfl
 obtain ⟨m0, es0, _, _, he0, rfl⟩ := typed_slice Tryd.underlying32 h0
 obtain ⟨m1, es1, _, _, he1, rfl⟩ := typed_slice Tryd.underlying33 h1
 obtain ⟨l2, q2, _, _, rfl⟩ := ints_of h2
 obtain ⟨cs, q0, rfl⟩ := list_map_of (f := clV) (Q := fun c => (∀ e ∈ c, i64r e.s /\ i64r e.m) /\ (c.length : Int) ≤ 1000000000000000) (es := es0) fun y hy => by
  obtain ⟨c, c1, _, c2, e⟩ := pairs_of Tryd.underlying36 Tryd.underlying71 rfl (by kernel_rfl) (by kernel_rfl) (he0 y hy).1
  have h3 := (he0 y hy).2
  simp only [isE, Tryd.underlying36] at h3
  rw [h3] at e
  exact ⟨c, ⟨c1, by omega⟩, by simpa using e⟩
 obtain ⟨bs, q1, rfl⟩ := list_map_of (f := bdV) (Q := fun b => ((∀ x ∈ b.ss, i64r x) /\ (∀ x ∈ b.ms, i64r x) /\ ∀ x ∈ b.cs, i64r x) /\ (b.ss.length : Int) ≤ 1000000000000000 /\ (b.ms.length : Int) ≤ 1000000000000000 /\ (b.cs.length : Int) ≤ 1000000000000000) (es := es1) fun y hy => by
  obtain ⟨cs, rfl⟩ := isE_struct Tryd.underlying83 (he1 y hy).2
  obtain ⟨m, z0, s0, e0, g0, z1, s1, rfl, g1, z2, s2, rfl, g2, rfl⟩ := typed_struct Tryd.underlying83 (he1 _ hy).1 rfl
  obtain ⟨a, wa, _, la, rfl⟩ := ints_of g0
  obtain ⟨b, wb, _, lb, rfl⟩ := ints_of g1
  obtain ⟨c, wc, _, lc, rfl⟩ := ints_of g2
  exact ⟨⟨a, b, c⟩, ⟨⟨wa, wb, wc⟩, by dsimp only; omega⟩, by show AV.agg cs = _; rw [show cs = _ from e0]; rfl⟩
 refine ⟨⟨cs, bs, l2⟩, ⟨fun c hc => (q0 c hc).2, fun b hb => (q1 b hb).2⟩, ⟨fun c hc => (q0 c hc).1, fun b hb => (q1 b hb).1, q2⟩, ?_⟩
 rw [show Tryd.prog.cellsOf 36 = 1 by kernel_rfl, show Tryd.prog.cellsOf 83 = 3 by kernel_rfl]
 rfl
end Go.Proofs.YtikppcfabnnhfaaDoor

/- Contains, fits. -/
namespace Go.Proofs.YtikppcfabnnhfaaDoor
open Go Go.Aw
set_option linter.unusedSimpArgs false
set_option linter.unusedVariables false
set_option maxRecDepth 100000
set_option maxHeartbeats 40000000
theorem index_loop {l : List Int} {x : Int} (hl : l.length ≤ 1000000) : ∀ (r m : List Int), l = m ++ r ->
  ∃ v e : Int, E.L 84 3 [.ro 1 (l.map (AV.int .i64)), .int .i64 x, .int .i64 0, .int .i64 l.length, .int .i64 m.length] [] = some ((if r.contains x then .ret else .exit 0, [.ro 1 (l.map (AV.int .i64)), .int .i64 x, .int .i64 v, .int .i64 l.length, .int .i64 e], []), True) /\ 0 ≤ v := by
 intro r
 induction r with
 | nil =>
  intro m h
  rw [List.append_nil] at h
  subst h
  refine ⟨0, l.length, ?_, by omega⟩
  rw [l84_3]
  simp (maxSteps := 100000000) only [ivc, anf, nilR, eq_self, Nat.reduceEqDiff, Nat.reduceLT, Nat.reduceBEq, reduceCtorEq, ↓reduceIte, tyb, Int.lt_irrefl, List.contains_nil]
 | cons y r ih =>
  intro m h
  have hn : m.length + (r.length + 1) = l.length := by rw [h]; simp
  have hi' : (m.length : Int) < l.length := by omega
  have hg := getD_map (f := AV.int .i64) (show l[m.length]? = some y by rw [h]; simp)
  have hw : IntKind.i64.wrap ((m.length : Int) + 1) = m.length + 1 := wrap_id (by omega) (by omega)
  have hc : (0 ≤ (m.length : Int)) = True := eq_true (by omega)
  by_cases hx : x = y
  ·have hx' : (x == y) = true := by simp [hx]
   have hcc : (y :: r).contains x = true := by simp [hx]
   refine ⟨m.length, m.length, ?_, by omega⟩
   rw [hcc, l84_3]
   simp (maxSteps := 100000000) only [ivc, anf, nilR, eq_self, Nat.reduceEqDiff, Nat.reduceLT, Nat.reduceBEq, reduceCtorEq, ↓reduceIte, tyb, hi', hg, hc, hx']
  ·have hx' : (x == y) = false := by simp [hx]
   have hcc : (y :: r).contains x = r.contains x := by simp [hx]
   obtain ⟨v, e, ih', hv⟩ := ih (m ++ [y]) (by simp [h])
   refine ⟨v, e, ?_, hv⟩
   simp only [List.length_append, List.length_cons, List.length_nil, Nat.zero_add, Int.natCast_add, Int.cast_ofNat_Int] at ih'
   rw [hcc, l84_3]
   simp (maxSteps := 100000000) only [ivc, anf, nilR, eq_self, Nat.reduceEqDiff, Nat.reduceLT, Nat.reduceBEq, reduceCtorEq, ↓reduceIte, tyb, hi', hg, hw, hc, hx', ih']
theorem contains_ev {l : List Int} {x : Int} (hl : l.length ≤ 1000000) : E.F 58 [.ro 1 (l.map (AV.int .i64)), .int .i64 x] [] = some ((.bool (l.contains x), []), True) := by
 obtain ⟨v, e, h, hv⟩ := index_loop (x := x) hl l [] rfl
 simp only [List.length_nil, Int.natCast_zero] at h
 have hv' : (decide (0 ≤ v)) = true := by simpa using hv
 rw [e58]
 by_cases ha : l.contains x = true
 ·rw [ha]
  simp only [ha, if_true] at h
  simp (maxSteps := 100000000) only [ivc, anf, vlen, vbuiltin, nilR, eq_self, Nat.reduceEqDiff, Nat.reduceLT, Nat.reduceLeDiff, Nat.reduceAdd, Nat.reduceBEq, Int.reduceNeg, reduceCtorEq, ↓reduceIte, tyb, e84, h, hv']
 ·have ha' : l.contains x = false := by simpa using ha
  rw [ha']
  simp only [ha', Bool.false_eq_true, if_false] at h
  simp (maxSteps := 100000000) only [ivc, anf, vlen, vbuiltin, nilR, eq_self, Nat.reduceEqDiff, Nat.reduceLT, Nat.reduceLeDiff, Nat.reduceAdd, Nat.reduceBEq, Int.reduceLE, Int.reduceNeg, reduceCtorEq, ↓reduceIte, tyb, e84, h]
def fitL (vec : List Et) : List Et -> Int -> Bool
 | [], _ => true
 | s :: r, p => if 0 ≤ s.s /\ p < vec.length /\ 0 ≤ (vec.getD p.toNat ⟨0, 0⟩).s then false else fitL vec r (p + 1)
theorem fits_loop {vec t : List Et} {at0 : Int} (ha : 0 ≤ at0) (hal : at0 ≤ 1000000) (hl : t.length ≤ 1000000) (hv : vec.length ≤ 1000000) : ∀ (r m : List Et), t = m ++ r ->
  ∃ e : Int, E.L 57 3 [.int .i64 at0, .rop (.ro 2 (vec.map enV)) 0, .bool false, .ro 2 (t.map enV), .int .i64 t.length, .int .i64 m.length] [] = some ((if fitL vec r (at0 + m.length) then .exit 0 else .ret, [.int .i64 at0, .rop (.ro 2 (vec.map enV)) 0, .bool false, .ro 2 (t.map enV), .int .i64 t.length, .int .i64 e], []), True) := by
 intro r
 induction r with
 | nil =>
  intro m h
  rw [List.append_nil] at h
  subst h
  refine ⟨t.length, ?_⟩
  rw [l57_3]
  simp (maxSteps := 100000000) only [ivc, anf, nilR, eq_self, Nat.reduceEqDiff, Nat.reduceLT, Nat.reduceBEq, reduceCtorEq, ↓reduceIte, tyb, Int.lt_irrefl, fitL]
 | cons s r ih =>
  intro m h
  have hn : m.length + (r.length + 1) = t.length := by rw [h]; simp
  have hi' : (m.length : Int) < t.length := by omega
  have hg := getD_map (f := enV) (show t[m.length]? = some s by rw [h]; simp)
  have hw : IntKind.i64.wrap ((m.length : Int) + 1) = m.length + 1 := wrap_id (by omega) (by omega)
  have hw2 : IntKind.i64.wrap (at0 + m.length) = at0 + m.length := wrap_id (by omega) (by omega)
  have hc : (0 ≤ (m.length : Int)) = True := eq_true (by omega)
  have hc2 : (0 ≤ at0 + (m.length : Int)) = True := eq_true (by omega)
  by_cases h1 : 0 ≤ s.s
  ·by_cases h2 : at0 + (m.length : Int) < vec.length
   ·have gv : (vec.map enV).getD (at0 + (m.length : Int)).toNat .junk = .agg [.int .i64 (vec.getD (at0 + (m.length : Int)).toNat ⟨0, 0⟩).s, .int .i64 (vec.getD (at0 + (m.length : Int)).toNat ⟨0, 0⟩).m] := by
     have : (at0 + (m.length : Int)).toNat < vec.length := by omega
     simp [List.getD_eq_getElem?_getD, List.getElem?_eq_getElem this, enV]
    by_cases h3 : 0 ≤ (vec.getD (at0 + (m.length : Int)).toNat ⟨0, 0⟩).s
    ·have hf : fitL vec (s :: r) (at0 + m.length) = false := by rw [fitL, if_pos ⟨h1, h2, h3⟩]
     refine ⟨m.length, ?_⟩
     rw [hf, l57_3]
     simp (maxSteps := 100000000) only [ivc, anf, vop, vlen, vbuiltin, nilR, salloc, eq_self, Nat.reduceEqDiff, Nat.reduceLT, Nat.reduceLeDiff, Nat.reduceAdd, Nat.reduceBEq, reduceCtorEq, ↓reduceIte, tyb, enV, hi', hg, hw2, hc, hc2, h1, h2, gv, h3]
    ·have hf : fitL vec (s :: r) (at0 + m.length) = fitL vec r (at0 + m.length + 1) := by rw [fitL, if_neg (fun h => h3 h.2.2)]
     obtain ⟨e, ih'⟩ := ih (m ++ [s]) (by simp [h])
     refine ⟨e, ?_⟩
     simp only [List.length_append, List.length_cons, List.length_nil, Nat.zero_add, Int.natCast_add, Int.cast_ofNat_Int, <- Int.add_assoc] at ih'
     rw [hf, l57_3]
     simp (maxSteps := 100000000) only [ivc, anf, vop, vlen, vbuiltin, nilR, salloc, eq_self, Nat.reduceEqDiff, Nat.reduceLT, Nat.reduceLeDiff, Nat.reduceAdd, Nat.reduceBEq, reduceCtorEq, ↓reduceIte, tyb, enV, hi', hg, hw, hw2, hc, hc2, h1, h2, gv, h3, ih']
   ·have hf : fitL vec (s :: r) (at0 + m.length) = fitL vec r (at0 + m.length + 1) := by rw [fitL, if_neg (fun h => h2 h.2.1)]
    obtain ⟨e, ih'⟩ := ih (m ++ [s]) (by simp [h])
    refine ⟨e, ?_⟩
    simp only [List.length_append, List.length_cons, List.length_nil, Nat.zero_add, Int.natCast_add, Int.cast_ofNat_Int, <- Int.add_assoc] at ih'
    rw [hf, l57_3]
    simp (maxSteps := 100000000) only [ivc, anf, vop, vlen, vbuiltin, nilR, salloc, eq_self, Nat.reduceEqDiff, Nat.reduceLT, Nat.reduceLeDiff, Nat.reduceAdd, Nat.reduceBEq, Int.reduceLE, reduceCtorEq, ↓reduceIte, tyb, enV, hi', hg, hw, hw2, hc, hc2, h1, h2, ih']
  ·have hf : fitL vec (s :: r) (at0 + m.length) = fitL vec r (at0 + m.length + 1) := by rw [fitL, if_neg (fun h => h1 h.1)]
   obtain ⟨e, ih'⟩ := ih (m ++ [s]) (by simp [h])
   refine ⟨e, ?_⟩
   simp only [List.length_append, List.length_cons, List.length_nil, Nat.zero_add, Int.natCast_add, Int.cast_ofNat_Int, <- Int.add_assoc] at ih'
   rw [hf, l57_3]
   simp (maxSteps := 100000000) only [ivc, anf, vop, vlen, vbuiltin, nilR, salloc, eq_self, Nat.reduceEqDiff, Nat.reduceLT, Nat.reduceLeDiff, Nat.reduceAdd, Nat.reduceBEq, Int.reduceLE, reduceCtorEq, ↓reduceIte, tyb, enV, hi', hg, hw, hw2, hc, hc2, h1, ih']
theorem fits_ev {vec t : List Et} {at0 : Int} (ha : 0 ≤ at0) (hal : at0 ≤ 1000000) (hl : t.length ≤ 1000000) (hv : vec.length ≤ 1000000) : E.F 57 [.ro 2 (t.map enV), .int .i64 at0, .rop (.ro 2 (vec.map enV)) 0] [] = some ((.bool (fitL vec t at0), []), True) := by
 obtain ⟨e, h⟩ := fits_loop ha hal hl hv t [] rfl
 simp only [List.length_nil, Int.natCast_zero, Int.add_zero] at h
 rw [e57]
 by_cases hf : fitL vec t at0 = true
 ·rw [hf]
  simp only [hf, if_true] at h
  simp (maxSteps := 100000000) only [ivc, anf, vlen, vbuiltin, eq_self, Nat.reduceEqDiff, Nat.reduceLT, Nat.reduceLeDiff, Nat.reduceAdd, Nat.reduceBEq, reduceCtorEq, ↓reduceIte, tyb, h]
 ·have hf' : fitL vec t at0 = false := by simpa using hf
  rw [hf']
  simp only [hf', Bool.false_eq_true, if_false] at h
  simp (maxSteps := 100000000) only [ivc, anf, vlen, vbuiltin, eq_self, Nat.reduceEqDiff, Nat.reduceLT, Nat.reduceLeDiff, Nat.reduceAdd, Nat.reduceBEq, reduceCtorEq, ↓reduceIte, tyb, h]
end Go.Proofs.YtikppcfabnnhfaaDoor

namespace Go.Proofs.YtikppcfabnnhfaaDoor
open Go Go.Aw
noncomputable def givP : FuncId -> List AV -> HL -> Option ((AV × HL) × Prop) := fun f a l => E.F f a l
noncomputable def ANP : Go.Aw.An := mkAn [12, 13, 20, 23, 26, 27, 30, 32, 33, 38, 41, 42, 47, 48, 50, 54, 57, 58, 60, 61, 62, 67, 69, 71, 72, 75, 80, 81, 84, 85, 86, 87, 93] [15, 28, 31, 36, 37, 53, 63, 64, 65, 66, 78, 82, 83] [59]
 [24, 59]
 [(24, 20, [1, 2, 8, 9, 10, 13, 26, 27, 72, 73, 74]), (24, 13, [1, 2, 8, 9, 10, 12, 13, 26, 27]), (24, 9, [1, 2, 8, 9, 10, 26, 27]), (59, 9, [7, 8])]
 [(24, 20, [(0, [], 1), (3, [], 1), (8, [], 2), (2, [0], 2)]), (24, 13, [(0, [], 1), (3, [], 1), (5, [], 2), (2, [0], 2)]), (24, 9, [(0, [], 1), (3, [], 1), (2, [0], 2)]), (59, 9, [(0, [], 2)])]
 []
 [(24, [(0, [], 2), (1, [], 1)]), (59, [(0, [], 2)])]
 [24, 59]
 [(24, 17, ([65, 1000014, 1000066], false, [8], [some 66])), (59, 9, ([], false, [], []))] [] [(59, 7), (59, 9)] givP
noncomputable abbrev EP : Sig := ev Tryd.prog G ANP
theorem ok24P : fchk Tryd.prog ANP 24 = true := by kernel_rfl
theorem ok59P : fchk Tryd.prog ANP 59 = true := by kernel_rfl
theorem evokP : EvOk Tryd.prog G ANP where
 chk f h := by
  have h : [24, 59].contains f = true := h
  have h := List.contains_iff_mem.1 h
  simp only [List.mem_cons, List.mem_nil_iff, or_false] at h
  rcases h with rfl | rfl
  ·exact ok24P
  ·exact ok59P
 pureG g := by
  by_cases h : g = 0
  ·subst h; exact .inl (by kernel_rfl)
  ·exact .inr (if_neg h)
 mixed := by kernel_rfl
 giv f a l r l' φ h hφ := ev_sound evok h hφ
theorem acpP : ∀ f k, ANP.cp f k = has2 f k [(59, 7), (59, 9)] := fun _ _ => rfl
set_option maxRecDepth 100000
theorem anf0P : (ANP.bor 24 = false) /\ (ANP.pur 24 = false) /\ (ANP.ro 24 = false) /\ (ANP.frz 24 = true) /\ (ANP.fra 24 = false) /\ (ANP.res 24 = [(0, [], 2), (1, [], 1)]) /\ (ANP.bor 26 = true) /\ (ANP.pur 26 = false) /\ (ANP.ro 26 = false) /\ (ANP.frz 26 = false) /\ (ANP.fra 26 = false) /\ (ANP.res 26 = []) /\ (ANP.bor 55 = false) /\ (ANP.pur 55 = false) /\ (ANP.ro 55 = false) /\ (ANP.frz 55 = false) /\ (ANP.fra 55 = false) /\ (ANP.res 55 = []) /\ (ANP.bor 57 = true) /\ (ANP.pur 57 = false) /\ (ANP.ro 57 = false) /\ (ANP.frz 57 = false) /\ (ANP.fra 57 = false) /\ (ANP.res 57 = []) /\ (ANP.bor 58 = true) /\ (ANP.pur 58 = false) /\ (ANP.ro 58 = false) /\ (ANP.frz 58 = false) /\ (ANP.fra 58 = false) /\ (ANP.res 58 = []) /\ (ANP.bor 59 = false) /\ (ANP.pur 59 = false) /\ (ANP.ro 59 = true) /\ (ANP.frz 59 = true) /\ (ANP.fra 59 = false) /\ (ANP.res 59 = [(0, [], 2)]) /\ (ANP.bor 79 = false) /\ (ANP.pur 79 = false) /\ (ANP.ro 79 = false) /\ (ANP.frz 79 = false) /\ (ANP.fra 79 = false) /\ (ANP.res 79 = []) /\ (ANP.dr 24 17 = some ([65, 1000014, 1000066], false, [8], [some 66])) /\ (ANP.dr 59 9 = some ([], false, [], [])) /\ (ANP.keep 24 20 = some [1, 2, 8, 9, 10, 13, 26, 27, 72, 73, 74]) /\ (ANP.fix 24 20 = [(0, [], 1), (3, [], 1), (8, [], 2), (2, [0], 2)]) /\ (ANP.frl 24 20 = false) /\ (ANP.keep 24 13 = some [1, 2, 8, 9, 10, 12, 13, 26, 27]) /\ (ANP.fix 24 13 = [(0, [], 1), (3, [], 1), (5, [], 2), (2, [0], 2)]) /\ (ANP.frl 24 13 = false) /\ (ANP.keep 24 9 = some [1, 2, 8, 9, 10, 26, 27]) /\ (ANP.fix 24 9 = [(0, [], 1), (3, [], 1), (2, [0], 2)]) /\ (ANP.frl 24 9 = false) /\ (ANP.keep 59 9 = some [7, 8]) /\ (ANP.fix 59 9 = [(0, [], 2)]) /\ (ANP.frl 59 9 = false) := by and_intros <;> kernel_rfl
theorem anfP : type_of% @anf0P /\ type_of% @acpP := ⟨@anf0P, @acpP⟩
variable (a v : List AV) (l : HL)
theorem l24_20P : type_of% (ev_lp ANP G 24 20 92 [1, 2, 8, 9, 10, 13, 26, 27, 72, 73, 74] (by kernel_rfl) Tryd.func24 rfl rfl rfl (by kernel_rfl) v l) :=
 ev_lp ANP G 24 20 92 [1, 2, 8, 9, 10, 13, 26, 27, 72, 73, 74] (by kernel_rfl) Tryd.func24 rfl rfl rfl (by kernel_rfl) v l
theorem l24_13P : type_of% (ev_lp ANP G 24 13 92 [1, 2, 8, 9, 10, 12, 13, 26, 27] (by kernel_rfl) Tryd.func24 rfl rfl rfl (by kernel_rfl) v l) :=
 ev_lp ANP G 24 13 92 [1, 2, 8, 9, 10, 12, 13, 26, 27] (by kernel_rfl) Tryd.func24 rfl rfl rfl (by kernel_rfl) v l
theorem l24_9P : type_of% (ev_lp ANP G 24 9 92 [1, 2, 8, 9, 10, 26, 27] (by kernel_rfl) Tryd.func24 rfl rfl rfl (by kernel_rfl) v l) :=
 ev_lp ANP G 24 9 92 [1, 2, 8, 9, 10, 26, 27] (by kernel_rfl) Tryd.func24 rfl rfl rfl (by kernel_rfl) v l
theorem l59_9P : type_of% (ev_lp ANP G 59 9 48 [7, 8] (by kernel_rfl) Tryd.func59 rfl rfl rfl (by kernel_rfl) v l) :=
 ev_lp ANP G 59 9 48 [7, 8] (by kernel_rfl) Tryd.func59 rfl rfl rfl (by kernel_rfl) v l
theorem e24P : type_of% (ev_fn ANP G 24 92 [.tmp 4, .tmp 5, .tmp 6] (by kernel_rfl) Tryd.func24 rfl rfl rfl a l) :=
 ev_fn ANP G 24 92 [.tmp 4, .tmp 5, .tmp 6] (by kernel_rfl) Tryd.func24 rfl rfl rfl a l
theorem e59P : type_of% (ev_fn ANP G 59 48 [.tmp 4] (by kernel_rfl) Tryd.func59 rfl rfl rfl a l) :=
 ev_fn ANP G 59 48 [.tmp 4] (by kernel_rfl) Tryd.func59 rfl rfl rfl a l
theorem gv26P : EP.F 26 a l = E.F 26 a l := ev_giv (by kernel_rfl) a l
theorem gv55P : EP.F 55 a l = E.F 55 a l := ev_giv (by kernel_rfl) a l
theorem gv57P : EP.F 57 a l = E.F 57 a l := ev_giv (by kernel_rfl) a l
theorem gv58P : EP.F 58 a l = E.F 58 a l := ev_giv (by kernel_rfl) a l
theorem gv79P : EP.F 79 a l = E.F 79 a l := ev_giv (by kernel_rfl) a l
end Go.Proofs.YtikppcfabnnhfaaDoor

/- Pack. -/
namespace Go.Proofs.YtikppcfabnnhfaaDoor
open Go Go.Aw
set_option linter.unusedSimpArgs false
set_option linter.unusedVariables false
set_option maxRecDepth 100000
set_option maxHeartbeats 40000000
theorem rep2P_loop {x : Et} {n : Nat} (hn : n ≤ 1000000) : ∀ (s k d : Nat), k ≤ s -> d + k = n -> (k = 0 \/ 1 ≤ d) ->
  EP.L 59 9 [.sl 60000 0 n, .int .i64 d] (rp2H x d k) = some ((.exit 0, [.sl 60000 0 n, .int .i64 n], rp2H x n 0), True) := by
 intro s
 induction s with
 | zero =>
  intro k d hk h hd
  have hk0 : k = 0 := by omega
  subst hk0
  have hd0 : d = n := by omega
  subst hd0
  have q : ((d : Int) < d) = False := eq_false (by omega)
  rw [l59_9P]
  simp (maxSteps := 100000000) only [ivc, vlen, vbuiltin, nilR, eq_self, Nat.reduceEqDiff, Nat.reduceLT, Nat.reduceLeDiff, Nat.reduceAdd, Nat.reduceBEq, reduceCtorEq, ↓reduceIte, anfP, tyb, rp2H, q]
 | succ s ih =>
  intro k d hk h hd
  by_cases hk0 : k = 0
  ·exact ih k d (by omega) h hd
  have hlen := rpL_len (x := x) (z := (⟨0, 0⟩ : Et)) (d := d) (k := k)
  have q : ((d : Int) < n) = True := eq_true (by omega)
  have q2 : (0 ≤ (d : Int)) = True := eq_true (by omega)
  have q3 : ((d : Int) ≤ n) = True := eq_true (by omega)
  have nd : n - d = k := by omega
  have hw : IntKind.i64.wrap ((d : Int) + (min d k : Nat)) = d + (min d k : Nat) := wrap_id (by omega) (by omega)
  have ih' := ih (k - min d k) (d + min d k) (by omega) (by omega) (by omega)
  simp only [rp2H, Int.natCast_add] at ih'
  have hd' : 1 ≤ d := by omega
  rw [l59_9P]
  simp (maxSteps := 100000000) only [ivc, vop, vslice, vlen, vbuiltin, nilR, eq_self, Nat.reduceEqDiff, Nat.reduceLT, Nat.reduceLeDiff, Nat.reduceAdd, Nat.reduceBEq, Int.reduceLE, Int.reduceToNat, reduceCtorEq, implies_true, ↓reduceIte, anfP, tyb, rp2H, q, q2, q3, nd, hw, cp_en, rp_take, rp_take2, rp_drop, rp_join, List.length_replicate, ih']
  exact some_true (by omega)
theorem rep2P_ev {x : Et} {n : Nat} (hn : n ≤ 1000000) : EP.F 59 [.sl 100000 0 1, .int .i64 n] [(100000, ⟨false, 2, [.agg [.int .i64 x.s, .int .i64 x.m]]⟩)] = some ((.ro 2 ((List.replicate n x).map enV), [(100000, ⟨false, 2, [.agg [.int .i64 x.s, .int .i64 x.m]]⟩)]), True) := by
 have a := mul79_ev (y := n) (by omega) (by omega)
 have q : ((n : Int) < 0) = False := eq_false (by omega)
 have q2 : ((9223372036854775807 : Int) < n) = False := eq_false (by omega)
 have w1 := u64id (y := n) (by omega) (by omega)
 have w2 : IntKind.i64.wrap n = n := wrap_id (by omega) (by omega)
 have h := rep2P_loop (x := x) hn n (n - min 1 n) (min 1 n) (by omega) (by omega) (by omega)
 simp only [rp2H, rp_done] at h
 have f1 : List.take n [AV.agg [.int .i64 x.s, .int .i64 x.m]] ++ List.drop (min 1 n) (List.replicate n (AV.agg [.int .i64 0, .int .i64 0])) = _ := rp_first (f := enV) (x := x) (z := (⟨0, 0⟩ : Et)) (n := n)
 have w3 := u64id (y := 1) (by omega) (by omega)
 have tk : List.take n (List.map enV (List.replicate n x)) = List.map enV (List.replicate n x) := List.take_of_length_le (by simp)
 rw [e59P]
 simp (maxSteps := 100000000) only [ivc, vop, vlen, vbuiltin, nilR, salloc, eq_self, Nat.reduceEqDiff, Nat.reduceLT, Nat.reduceLeDiff, Nat.reduceAdd, Nat.reduceMul, Nat.reduceBEq, Int.reduceLT, reduceCtorEq, ↓reduceIte, anfP, gv79P, tyb, q, q2, a, w1, w2, w3, f1, h, tk]
 refine some_true ?_
 exact ⟨by omega, fun e he => by rw [List.eq_of_mem_replicate he]; rfl⟩
end Go.Proofs.YtikppcfabnnhfaaDoor

/- Pack: loops. -/
namespace Go.Proofs.YtikppcfabnnhfaaDoor
open Go Go.Aw
set_option linter.unusedSimpArgs false
set_option linter.unusedVariables false
set_option maxRecDepth 100000
set_option maxHeartbeats 40000000
theorem getSl {l : List Et} {i : Nat} (h : i < l.length) : (l.map enV).getD i .junk = .agg [.int .i64 (l.getD i ⟨0, 0⟩).s, .int .i64 (l.getD i ⟨0, 0⟩).m] := by
 simp [List.getD_eq_getElem?_getD, List.getElem?_eq_getElem h, enV]
def okA (offs : List Int) (vec t : List Et) (a : Int) : Bool := !(offs.contains a) && fitL vec t a
def fAt (ok : Int -> Bool) : Nat -> Int -> Int
 | 0, a => a
 | k + 1, a => if ok a = true then a else fAt ok k (a + 1)
theorem fitL_far {vec : List Et} : ∀ {r : List Et} {p : Int}, (vec.length : Int) ≤ p -> fitL vec r p = true
 | [], _, _ => rfl
 | s :: r, p, h => by
  rw [fitL, if_neg (by omega)]
  exact fitL_far (r := r) (by omega)
def pkT (w : Wd) (offs : List Int) (vec t : List Et) : HL := [(60000, ⟨true, 3, [wdV w]⟩), (60001, ⟨true, 1, [.sl 60004 0 vec.length]⟩), (60002, iR offs), (60003, ⟨false, 2, t.map enV⟩), (60004, ⟨false, 2, vec.map enV⟩)]
def pkF : AV := .fn (Fn.func 57) [] [.ptr 60001 0 0]
theorem at_loop {w : Wd} {cs offs : List Int} {vec t : List Et} {nc ci : Int} {B : Int} (ho : ∀ o ∈ offs, o < B) (hv : vec.length ≤ B) (hB : B ≤ 900000) (hol : offs.length ≤ 1000) (htl : t.length ≤ 1000) : ∀ (k : Nat) (a : Int), 0 ≤ a -> a + k = B ->
  EP.L 24 13 [.ro 1 (cs.map (AV.int .i64)), .ptr 60000 0 0, .ptr 60001 0 0, .sl 60002 0 offs.length, pkF, .sl 60003 0 t.length, .int .i64 a, .int .i64 nc, .int .i64 ci] (pkT w offs vec t)
  = some ((.exit 2, [.ro 1 (cs.map (AV.int .i64)), .ptr 60000 0 0, .ptr 60001 0 0, .sl 60002 0 offs.length, pkF, .sl 60003 0 t.length, .int .i64 (fAt (okA offs vec t) k a), .int .i64 nc, .int .i64 ci], pkT w offs vec t), True) := by
 intro k
 induction k with
 | zero =>
  intro a h0 h
  have c1 := contains_ev (l := offs) (x := a) (by omega)
  have c2 := fits_ev (vec := vec) (t := t) (at0 := a) h0 (by omega) (by omega) (by omega)
  have d1 : offs.contains a = false := by
   cases hc : offs.contains a with
   | false => rfl
   | true =>
    have := ho a (by simpa using hc)
    omega
  rw [d1] at c1
  rw [fitL_far (by omega)] at c2
  rw [l24_13P]
  simp (maxSteps := 100000000) only [ivc, vop, eq_self, Nat.reduceEqDiff, Nat.reduceLT, Nat.reduceLeDiff, Nat.reduceAdd, Nat.reduceBEq, reduceCtorEq, ↓reduceIte, anfP, gv58P, gv57P, pkT, pkF, iR, wdV, c1, c2, fAt]
 | succ k ih =>
  intro a h0 h
  have c1 := contains_ev (l := offs) (x := a) (by omega)
  have c2 := fits_ev (vec := vec) (t := t) (at0 := a) h0 (by omega) (by omega) (by omega)
  have hw : IntKind.i64.wrap (a + 1) = a + 1 := wrap_id (by omega) (by omega)
  have ih' := ih (a + 1) (by omega) (by omega)
  simp only [pkT, pkF, iR, wdV] at ih'
  rw [l24_13P]
  cases d1 : offs.contains a with
  | true =>
   have e : fAt (okA offs vec t) (k + 1) a = fAt (okA offs vec t) k (a + 1) := by
    rw [fAt, if_neg]
    unfold okA
    rw [d1]
    simp
   rw [e]
   rw [d1] at c1
   simp (maxSteps := 100000000) only [ivc, vop, nilR, eq_self, Nat.reduceEqDiff, Nat.reduceLT, Nat.reduceLeDiff, Nat.reduceAdd, Nat.reduceBEq, reduceCtorEq, ↓reduceIte, anfP, gv58P, tyb, pkT, pkF, iR, wdV, c1, hw, ih']
  | false =>
   rw [d1] at c1
   cases d2 : fitL vec t a with
   | true =>
    have e : fAt (okA offs vec t) (k + 1) a = a := by
     rw [fAt, if_pos]
     unfold okA
     rw [d1, d2]
     rfl
    rw [e]
    rw [d2] at c2
    simp (maxSteps := 100000000) only [ivc, vop, eq_self, Nat.reduceEqDiff, Nat.reduceLT, Nat.reduceLeDiff, Nat.reduceAdd, Nat.reduceBEq, reduceCtorEq, ↓reduceIte, anfP, gv58P, gv57P, pkT, pkF, iR, wdV, c1, c2]
   | false =>
    have e : fAt (okA offs vec t) (k + 1) a = fAt (okA offs vec t) k (a + 1) := by
     rw [fAt, if_neg]
     unfold okA
     rw [d2]
     simp
    rw [e]
    rw [d2] at c2
    simp (maxSteps := 100000000) only [ivc, vop, nilR, eq_self, Nat.reduceEqDiff, Nat.reduceLT, Nat.reduceLeDiff, Nat.reduceAdd, Nat.reduceBEq, reduceCtorEq, ↓reduceIte, anfP, gv58P, gv57P, tyb, pkT, pkF, iR, wdV, c1, c2, hw, ih']
def putL : List Et -> Int -> List Et -> List Et
 | [], _, v => v
 | s :: r, p, v => putL r (p + 1) (if 0 ≤ s.s then v.set p.toNat s else v)
theorem putL_len : ∀ {r : List Et} {p : Int} {v : List Et}, (putL r p v).length = v.length
 | [], _, _ => rfl
 | s :: r, p, v => by
  rw [putL, putL_len]
  split
  ·exact List.length_set
  ·rfl
theorem put_loop {w : Wd} {cs offs : List Int} {t : List Et} {nc ci a : Int} (h0 : 0 ≤ a) (hB : a ≤ 900000) (htl : t.length ≤ 1000) : ∀ (r m vec : List Et), t = m ++ r -> (r = [] \/ a + t.length ≤ vec.length) ->
  EP.L 24 20 [.ro 1 (cs.map (AV.int .i64)), .ptr 60000 0 0, .ptr 60001 0 0, .sl 60002 0 offs.length, pkF, .int .i64 a, .int .i64 nc, .int .i64 ci, .sl 60003 0 t.length, .int .i64 t.length, .int .i64 m.length] (pkT w offs vec t)
  = some ((.exit 4, [.ro 1 (cs.map (AV.int .i64)), .ptr 60000 0 0, .ptr 60001 0 0, .sl 60002 0 offs.length, pkF, .int .i64 a, .int .i64 nc, .int .i64 ci, .sl 60003 0 t.length, .int .i64 t.length, .int .i64 t.length], pkT w offs (putL r (a + m.length) vec) t), True) := by
 intro r
 induction r with
 | nil =>
  intro m vec h hv
  rw [List.append_nil] at h
  subst h
  rw [l24_20P]
  simp (maxSteps := 100000000) only [ivc, nilR, eq_self, Nat.reduceEqDiff, Nat.reduceLT, Nat.reduceLeDiff, Nat.reduceAdd, Nat.reduceBEq, reduceCtorEq, ↓reduceIte, anfP, tyb, pkT, pkF, iR, wdV, Int.lt_irrefl, putL]
 | cons s r ih =>
  intro m vec h hv
  have hv' : a + t.length ≤ vec.length := hv.elim (fun h => by cases h) id
  have hn : m.length + (r.length + 1) = t.length := by rw [h]; simp
  have hi' : (m.length : Int) < t.length := by omega
  have hg := getD_map (f := enV) (show t[m.length]? = some s by rw [h]; simp)
  have hw : IntKind.i64.wrap ((m.length : Int) + 1) = m.length + 1 := wrap_id (by omega) (by omega)
  have hw2 : IntKind.i64.wrap (a + m.length) = a + m.length := wrap_id (by omega) (by omega)
  have hc : (0 ≤ (m.length : Int)) = True := eq_true (by omega)
  have hc2 : (0 ≤ a + (m.length : Int) /\ a + (m.length : Int) < vec.length) = True := eq_true (by omega)
  have g2 := getSl (l := vec) (i := (a + (m.length : Int)).toNat) (by omega)
  have g3 : (vec.map enV).set (a + (m.length : Int)).toNat (.agg [.int .i64 s.s, .int .i64 s.m]) = (vec.set (a + (m.length : Int)).toNat s).map enV := set_map (f := enV)
  by_cases h1 : 0 ≤ s.s
  ·have ih' := ih (m ++ [s]) (vec.set (a + m.length).toNat s) (by simp [h]) (.inr (by rw [List.length_set]; exact hv'))
   simp only [List.length_append, List.length_cons, List.length_nil, Nat.zero_add, Int.natCast_add, Int.cast_ofNat_Int, pkT, pkF, iR, wdV, List.length_set, putL_len, <- Int.add_assoc] at ih'
   rw [l24_20P]
   simp (maxSteps := 100000000) only [ivc, vop, nilR, salloc, eq_self, Nat.reduceEqDiff, Nat.reduceLT, Nat.reduceLeDiff, Nat.reduceAdd, Nat.reduceBEq, reduceCtorEq, ↓reduceIte, anfP, tyb, pkT, pkF, iR, wdV, enV, hi', hg, hw, hw2, hc, hc2, g2, g3, h1, ih', putL, putL_len, List.length_set]
  ·have ih' := ih (m ++ [s]) vec (by simp [h]) (.inr hv')
   simp only [List.length_append, List.length_cons, List.length_nil, Nat.zero_add, Int.natCast_add, Int.cast_ofNat_Int, pkT, pkF, iR, wdV, putL_len, <- Int.add_assoc] at ih'
   rw [l24_20P]
   simp (maxSteps := 100000000) only [ivc, vop, nilR, salloc, eq_self, Nat.reduceEqDiff, Nat.reduceLT, Nat.reduceLeDiff, Nat.reduceAdd, Nat.reduceBEq, reduceCtorEq, ↓reduceIte, anfP, tyb, pkT, pkF, iR, wdV, enV, hi', hg, hw, hc, h1, ih', putL, putL_len]
end Go.Proofs.YtikppcfabnnhfaaDoor

/- Pack: all. -/
namespace Go.Proofs.YtikppcfabnnhfaaDoor
open Go Go.Aw
set_option linter.unusedSimpArgs false
set_option linter.unusedVariables false
set_option maxRecDepth 100000
set_option maxHeartbeats 40000000
def topM (offs : List Int) (vec : List Et) : Int := offs.foldl (fun n o => max n (o + 1)) vec.length
theorem top_fold : ∀ {offs : List Int} {n : Int}, n ≤ offs.foldl (fun n o => max n (o + 1)) n /\ ∀ o ∈ offs, o < offs.foldl (fun n o => max n (o + 1)) n
 | [], n => ⟨Int.le_refl _, fun _ h => by cases h⟩
 | x :: offs, n => by
  obtain ⟨h1, h2⟩ := top_fold (offs := offs) (n := max n (x + 1))
  rw [List.foldl_cons]
  refine ⟨by omega, fun o ho => ?_⟩
  rcases List.mem_cons.1 ho with rfl | ho
  ·omega
  ·exact h2 o ho
theorem top_le {N : Int} : ∀ {offs : List Int} {n : Int}, n ≤ N -> (∀ o ∈ offs, o < N) -> offs.foldl (fun n o => max n (o + 1)) n ≤ N
 | [], _, h, _ => h
 | x :: offs, n, h, ho => by
  rw [List.foldl_cons]
  exact top_le (offs := offs) (by have := ho x (by simp); omega) (fun o h => ho o (by simp [h]))
theorem fAt_rng {ok : Int -> Bool} : ∀ {k : Nat} {a : Int}, a ≤ fAt ok k a /\ fAt ok k a ≤ a + k
 | 0, a => by simp [fAt]
 | k + 1, a => by
  obtain ⟨h1, h2⟩ := fAt_rng (ok := ok) (k := k) (a := a + 1)
  rw [fAt]
  split <;> omega
def growM (vec t : List Et) (a : Int) : List Et := if 0 < t.length /\ (vec.length : Int) < a + t.length then vec ++ reN (a + t.length - vec.length).toNat else vec
def placeA (offs : List Int) (vec t : List Et) : Int := fAt (okA offs vec t) (topM offs vec).toNat 0
def packM (cs : List Int) : List (List Et) -> List Et × List Int -> List Et × List Int
 | [], p => p
 | c :: r, p => packM cs r (putL (tblM cs c) (placeA p.2 p.1 (tblM cs c)) (growM p.1 (tblM cs c) (placeA p.2 p.1 (tblM cs c))), p.2 ++ [placeA p.2 p.1 (tblM cs c)])
theorem growM_len {vec t : List Et} {a : Int} (h0 : 0 ≤ a) : (vec.length ≤ (growM vec t a).length) /\ (t = [] \/ a + t.length ≤ ((growM vec t a).length : Int)) /\ ((growM vec t a).length : Int) ≤ max (vec.length : Int) (a + t.length) := by
 unfold growM
 split
 ·simp only [List.length_append, reN, List.length_replicate]
  omega
 ·rename_i h
  refine ⟨Nat.le_refl _, ?_, by omega⟩
  by_cases ht : t.length = 0
  ·exact .inl (List.eq_nil_of_length_eq_zero ht)
  ·exact .inr (by omega)
theorem tbl_len {cs : List Int} {c : List Et} (h : ∀ e ∈ c, hasC cs e) : (tblM cs c).length ≤ 500 := by
 obtain ⟨_, a2, _⟩ := tsM_rng (n := 0) h (by omega) (by omega)
 rw [tblM, tuM_len, reN, List.length_replicate]
 omega
def pkH (w : Wd) (offs : List Int) (vec : List Et) : HL := [(60000, ⟨true, 3, [wdV w]⟩), (60001, ⟨true, 1, [.sl 60003 0 vec.length]⟩), (60002, iR offs), (60003, ⟨false, 2, vec.map enV⟩)]
theorem pack_loop {w : Wd} {cs : List Int} (hcl : w.classes.length ≤ 200) (hc : ∀ c ∈ w.classes, c.length ≤ 100 /\ ∀ e ∈ c, hasC cs e) : ∀ (r m : List (List Et)) (vec : List Et) (offs : List Int), w.classes = m ++ r -> offs.length = m.length -> (∀ o ∈ offs, 0 ≤ o) -> topM offs vec ≤ 501 * m.length ->
  EP.L 24 9 [.ro 1 (cs.map (AV.int .i64)), .ptr 60000 0 0, .ptr 60001 0 0, .sl 60002 0 offs.length, pkF, .int .i64 w.classes.length, .int .i64 m.length] (pkH w offs vec)
  = some ((.exit 0, [.ro 1 (cs.map (AV.int .i64)), .ptr 60000 0 0, .ptr 60001 0 0, .sl 60002 0 (packM cs r (vec, offs)).2.length, pkF, .int .i64 w.classes.length, .int .i64 w.classes.length], pkH w (packM cs r (vec, offs)).2 (packM cs r (vec, offs)).1), True) := by
 intro r
 induction r with
 | nil =>
  intro m vec offs h hol ho0 hT
  rw [List.append_nil] at h
  have q : ((w.classes.length : Int) < w.classes.length) = False := eq_false (by omega)
  rw [<- h, l24_9P]
  simp (maxSteps := 100000000) only [ivc, nilR, eq_self, Nat.reduceEqDiff, Nat.reduceLT, Nat.reduceLeDiff, Nat.reduceAdd, Nat.reduceBEq, Int.reduceNeg, reduceCtorEq, ↓reduceIte, anfP, tyb, pkH, pkF, iR, wdV, q, packM]
 | cons c r ih =>
  intro m vec offs h hol ho0 hT
  have hn : m.length + (r.length + 1) = w.classes.length := by rw [h]; simp
  have hi' : (m.length : Int) < w.classes.length := by omega
  have hm : w.classes[m.length]? = some c := by rw [h]; simp
  obtain ⟨c1, c2⟩ := hc c (List.mem_of_getElem? hm)
  have tb := table_ev (w := w) hm (by omega) c2 (by omega)
  have tl := tbl_len c2
  have hw : IntKind.i64.wrap ((m.length : Int) + 1) = m.length + 1 := wrap_id (by omega) (by omega)
  obtain ⟨t1, t2⟩ := top_fold (offs := offs) (n := (vec.length : Int))
  change (vec.length : Int) ≤ topM offs vec at t1
  change ∀ o ∈ offs, o < topM offs vec at t2
  have hpk : packM cs (c :: r) (vec, offs) = packM cs r (putL (tblM cs c) (placeA offs vec (tblM cs c)) (growM vec (tblM cs c) (placeA offs vec (tblM cs c))), offs ++ [placeA offs vec (tblM cs c)]) := rfl
  rw [hpk]
  generalize tblM cs c = t at tb tl ⊢
  have al := at_loop (w := w) (cs := cs) (nc := w.classes.length) (ci := m.length) t2 t1 (by omega) (by omega) (t := t) (by omega) (topM offs vec).toNat 0 (by omega) (by omega)
  have ar := fAt_rng (ok := okA offs vec t) (k := (topM offs vec).toNat) (a := 0)
  change EP.L 24 13 _ _ = some ((.exit 2, [_, _, _, _, _, _, .int .i64 (placeA offs vec t), _, _], _), True) at al
  change 0 ≤ placeA offs vec t /\ placeA offs vec t ≤ 0 + (topM offs vec).toNat at ar
  generalize placeA offs vec t = a at al ar ⊢
  obtain ⟨g1, g2, g3⟩ := growM_len (vec := vec) (t := t) ar.1
  have pl := put_loop (w := w) (cs := cs) (offs := offs ++ [a]) (nc := w.classes.length) (ci := m.length) (a := a) (t := t) ar.1 (by omega) (by omega) t [] (growM vec t a) rfl g2
  have ih' := ih (m ++ [c]) (putL t a (growM vec t a)) (offs ++ [a]) (by simp [h]) (by simp [hol]) (fun o ho => by
   rcases List.mem_append.1 ho with ho | ho
   ·exact ho0 o ho
   ·rw [List.mem_singleton] at ho
    omega) (by
   refine top_le (by rw [putL_len]; simp; omega) (fun o ho => ?_)
   rcases List.mem_append.1 ho with ho | ho
   ·have := t2 o ho
    simp; omega
   ·rw [List.mem_singleton] at ho
    simp; omega)
  simp only [List.length_append, List.length_cons, List.length_nil, Nat.zero_add, Int.natCast_add, Int.cast_ofNat_Int, pkH, pkF, iR, wdV, putL_len, List.map_append, List.map_cons, List.map_nil] at ih'
  simp only [List.length_append, List.length_cons, List.length_nil, Nat.zero_add, Int.add_zero, Int.cast_ofNat_Int, pkT, pkF, iR, wdV, putL_len, List.map_append, List.map_cons, List.map_nil] at pl al
  simp only [wdV] at tb
  have hw2 : IntKind.i64.wrap (a + t.length) = a + t.length := wrap_id (by omega) (by omega)
  rw [l24_9P]
  by_cases z1 : 0 < t.length
  ·have z1' : (0 < (t.length : Int)) = True := eq_true (by omega)
   by_cases z2 : (vec.length : Int) < a + t.length
   ·have hg : growM vec t a = vec ++ reN (a + t.length - vec.length).toNat := by unfold growM; rw [if_pos ⟨z1, z2⟩]
    have hw3 : IntKind.i64.wrap (a + t.length - vec.length) = a + t.length - vec.length := wrap_id (by omega) (by omega)
    have rp := rep2P_ev (x := noE) (n := (a + t.length - vec.length).toNat) (by omega)
    rw [show (((a + t.length - vec.length).toNat : Nat) : Int) = a + t.length - vec.length by omega] at rp
    change EP.F 59 [.sl 100000 0 1, _] [(100000, ⟨false, 2, [.agg [.int .i64 (-1), .int .i64 (-1)]]⟩)] = some ((.ro 2 ((reN (a + t.length - vec.length).toNat).map enV), [(100000, ⟨false, 2, [.agg [.int .i64 (-1), .int .i64 (-1)]]⟩)]), True) at rp
    have hrl : (reN (a + t.length - vec.length).toNat).length = (a + t.length - vec.length).toNat := by rw [reN, List.length_replicate]
    rw [hg] at pl ih' ⊢
    generalize reN (a + t.length - vec.length).toNat = R at rp pl ih' hrl ⊢
    simp only [List.length_append, List.map_append] at pl ih'
    simp (maxSteps := 100000000) only [ivc, vop, vlen, vbuiltin, nilR, salloc, sappend, eq_self, Nat.reduceEqDiff, Nat.reduceLT, Nat.reduceLeDiff, Nat.reduceAdd, Nat.reduceMul, Nat.reduceSub, Nat.reduceBEq, Int.reduceNeg, reduceCtorEq, ↓reduceIte, anfP, gv55P, tyb, pkH, pkF, iR, wdV, hi', hw, hw2, hw3, tb, al, z1', z2, rp, pl, ih']
    exact some_true (by omega)
   ·have hg : growM vec t a = vec := by unfold growM; rw [if_neg (fun h => z2 h.2)]
    rw [hg] at pl ih' ⊢
    simp (maxSteps := 100000000) only [ivc, vlen, vbuiltin, nilR, salloc, sappend, eq_self, Nat.reduceEqDiff, Nat.reduceLT, Nat.reduceLeDiff, Nat.reduceAdd, Nat.reduceMul, Nat.reduceBEq, Int.reduceNeg, reduceCtorEq, ↓reduceIte, anfP, gv55P, tyb, pkH, pkF, iR, wdV, hi', hw, hw2, tb, al, z1', z2, pl, ih']
    exact some_true (by omega)
  ·have z1' : (0 < (t.length : Int)) = False := eq_false (by omega)
   have hg : growM vec t a = vec := by unfold growM; rw [if_neg (fun h => z1 h.1)]
   rw [hg] at pl ih' ⊢
   simp (maxSteps := 100000000) only [ivc, vlen, vbuiltin, nilR, salloc, sappend, eq_self, Nat.reduceEqDiff, Nat.reduceLT, Nat.reduceLeDiff, Nat.reduceAdd, Nat.reduceMul, Nat.reduceBEq, Int.reduceNeg, reduceCtorEq, ↓reduceIte, anfP, gv55P, tyb, pkH, pkF, iR, wdV, hi', hw, hw2, tb, al, z1', pl, ih']
   exact some_true (by omega)
theorem pack_ev {w : Wd} {cs : List Int} (ok : ckM w = 0 -> okW w) (hcc : ckM w = 0 -> ccW (graphW w) cs = 0 -> ∀ c ∈ w.classes, ∀ e ∈ c, hasC cs e) :
  EP.F 24 [wdV w, .ro 1 (cs.map (AV.int .i64))] [] = some ((if ckM w = 0 then if ccW (graphW w) cs = 0 then .tup [.ro 2 ((packM cs w.classes ([], [])).1.map enV), .ro 1 ((packM cs w.classes ([], [])).2.map (AV.int .i64)), .int .i64 0] else .tup [.ro 2 [], .ro 1 [], .int .i64 (ccW (graphW w) cs)] else .tup [.ro 2 [], .ro 1 [], .int .i64 (ckM w)], []), True) := by
 have h1 := cc_ev (cs := cs) ok
 simp only [wdV] at h1
 by_cases h : ckM w = 0
 ·rw [if_pos h] at h1 ⊢
  by_cases h2 : ccW (graphW w) cs = 0
  ·rw [if_pos h2]
   rw [h2] at h1
   obtain ⟨o1, o2⟩ := ok h
   have lp := pack_loop (cs := cs) o1 (fun c hc => ⟨(o2 c hc).1, hcc h h2 c hc⟩) w.classes [] [] [] rfl rfl (fun o ho => by cases ho) (by simp [topM])
   generalize packM cs w.classes ([], []) = p at lp ⊢
   simp only [pkH, pkF, iR, wdV, List.length_nil, List.map_nil, Int.natCast_zero] at lp
   rw [e24P]
   simp (maxSteps := 100000000) only [ivc, vop, vlen, vbuiltin, nilR, salloc, eq_self, Nat.reduceEqDiff, Nat.reduceLT, Nat.reduceLeDiff, Nat.reduceAdd, Nat.reduceBEq, Int.reduceNeg, reduceCtorEq, ↓reduceIte, anfP, gv26P, tyb, wdV, h1, lp]
  ·rw [if_neg h2]
   have h' : (ccW (graphW w) cs != 0) = true := by simp [h2]
   generalize ccW (graphW w) cs = v at h1 h' ⊢
   rw [e24P]
   simp (maxSteps := 100000000) only [ivc, nilR, salloc, eq_self, Nat.reduceEqDiff, Nat.reduceLT, Nat.reduceLeDiff, Nat.reduceAdd, Nat.reduceBEq, Int.reduceNeg, ↓reduceIte, anfP, gv26P, tyb, wdV, h1, h']
 ·rw [if_neg h] at h1 ⊢
  have h' : (ckM w != 0) = true := by simp [h]
  rw [e24P]
  simp (maxSteps := 100000000) only [ivc, nilR, salloc, eq_self, Nat.reduceEqDiff, Nat.reduceLT, Nat.reduceLeDiff, Nat.reduceAdd, Nat.reduceBEq, Int.reduceNeg, ↓reduceIte, anfP, gv26P, tyb, wdV, h1, h']
end Go.Proofs.YtikppcfabnnhfaaDoor

/- The reference's table, has, fits. -/
namespace Go.Proofs.YtikppcfabnnhfaaDoor
open Go Go.Aw
set_option linter.unusedSimpArgs false
set_option linter.unusedVariables false
set_option maxRecDepth 100000
set_option maxHeartbeats 40000000
def eR (l : List Et) : Ob := ⟨false, 2, l.map enV⟩
theorem reN_succ {k : Nat} : reN (k + 1) = noE :: reN k := rfl
theorem rt7_loop {cs : List Int} {c : List Et} {i : Nat} {x : Et} (hm : c[i]? = some x) (hl : c.length ≤ 1000) (hx : hasC cs x) : ∀ (k : Nat) (o : List Et), o.length + k ≤ 501 -> ((o.length : Int) + k = colAt cs x.s + 1 \/ (k = 0 /\ colAt cs x.s < o.length)) ->
  E.L 56 7 [.ro 1 (cs.map (AV.int .i64)), .sl 60000 0 o.length, .ro 2 (c.map enV), .int .i64 i] [(60000, eR o)] = some ((.exit 2, [.ro 1 (cs.map (AV.int .i64)), .sl 60000 0 (o ++ reN k).length, .ro 2 (c.map enV), .int .i64 i], [(60000, eR (o ++ reN k))]), True) := by
 obtain ⟨x1, x2, x3, x4⟩ := hx
 have hil := (List.getElem?_eq_some_iff.1 hm).1
 have hg := getD_map (f := enV) hm
 have hc : (0 ≤ (i : Int) /\ (i : Int) < c.length) = True := eq_true (by omega)
 have q : (0 ≤ x.s /\ x.s < cs.length) = True := eq_true ⟨x1, x2⟩
 have g : (cs.map (AV.int .i64)).getD x.s.toNat .junk = .int .i64 (colAt cs x.s) := getI (by omega)
 intro k
 induction k with
 | zero =>
  intro o ho h
  have q3 : ((o.length : Int) ≤ colAt cs x.s) = False := eq_false (by omega)
  rw [show o ++ reN 0 = o from List.append_nil o, l56_7]
  simp (maxSteps := 100000000) only [ivc, anf, vop, vlen, vbuiltin, nilR, eq_self, Nat.reduceEqDiff, Nat.reduceLT, Nat.reduceLeDiff, Nat.reduceAdd, Nat.reduceBEq, Int.reduceNeg, reduceCtorEq, ↓reduceIte, tyb, eR, enV, hg, hc, q, g, q3]
  try exact some_true (by omega)
 | succ k ih =>
  intro o ho h
  have q3 : ((o.length : Int) ≤ colAt cs x.s) = True := eq_true (by omega)
  have ih' := ih (o ++ [noE]) (by simp; omega) (by simp; omega)
  rw [show (o ++ [noE]) ++ reN k = o ++ reN (k + 1) by rw [reN_succ, List.append_assoc]; rfl] at ih'
  generalize o ++ reN (k + 1) = O at ih' ⊢
  simp only [List.length_append, List.length_cons, List.length_nil, Nat.zero_add, eR, noE, enV, List.map_append, List.map_cons, List.map_nil] at ih'
  rw [l56_7]
  simp (maxSteps := 100000000) only [ivc, anf, vop, vlen, vbuiltin, nilR, salloc, sappend, eq_self, Nat.reduceEqDiff, Nat.reduceLT, Nat.reduceLeDiff, Nat.reduceAdd, Nat.reduceMul, Nat.reduceBEq, Int.reduceNeg, reduceCtorEq, ↓reduceIte, tyb, eR, enV, hg, hc, q, g, q3, ih']
  try exact some_true (by omega)
def extM (o : List Et) (n : Int) : List Et := o ++ reN (n - o.length).toNat
def rtb (cs : List Int) : List Et -> List Et -> List Et
 | [], o => o
 | e :: r, o => rtb cs r ((extM o (colAt cs e.s + 1)).set (colAt cs e.s).toNat e)
theorem ext_len {o : List Et} {n : Int} : ((extM o n).length : Int) = max (o.length : Int) n := by
 rw [extM, List.length_append, reN, List.length_replicate]
 omega
theorem rt5_loop {cs : List Int} {c : List Et} (hl : c.length ≤ 1000) (hc : ∀ e ∈ c, hasC cs e) : ∀ (r m o : List Et), c = m ++ r -> o.length ≤ 500 ->
  E.L 56 5 [.ro 1 (cs.map (AV.int .i64)), .sl 60000 0 o.length, .ro 2 (c.map enV), .int .i64 m.length] [(60000, eR o)] = some ((.exit 0, [.ro 1 (cs.map (AV.int .i64)), .sl 60000 0 (rtb cs r o).length, .ro 2 (c.map enV), .int .i64 c.length], [(60000, eR (rtb cs r o))]), True) := by
 intro r
 induction r with
 | nil =>
  intro m o h ho
  rw [List.append_nil] at h
  subst h
  have q : ((c.length : Int) < c.length) = False := eq_false (by omega)
  rw [l56_5, show rtb cs [] o = o from rfl]
  simp (maxSteps := 100000000) only [ivc, anf, vlen, vbuiltin, nilR, eq_self, Nat.reduceEqDiff, Nat.reduceLT, Nat.reduceLeDiff, Nat.reduceAdd, Nat.reduceBEq, Int.reduceNeg, reduceCtorEq, ↓reduceIte, tyb, eR, q]
 | cons x r ih =>
  intro m o h ho
  have hn : m.length + (r.length + 1) = c.length := by rw [h]; simp
  have hi' : (m.length : Int) < c.length := by omega
  have hm : c[m.length]? = some x := by rw [h]; simp
  have hg := getD_map (f := enV) hm
  have hx := hc x (by rw [h]; simp)
  obtain ⟨x1, x2, x3, x4⟩ := id hx
  have hw : IntKind.i64.wrap ((m.length : Int) + 1) = m.length + 1 := wrap_id (by omega) (by omega)
  have hc0 : (0 ≤ (m.length : Int) /\ (m.length : Int) < c.length) = True := eq_true (by omega)
  have q : (0 ≤ x.s /\ x.s < cs.length) = True := eq_true ⟨x1, x2⟩
  have g : (cs.map (AV.int .i64)).getD x.s.toNat .junk = .int .i64 (colAt cs x.s) := getI (by omega)
  have el := ext_len (o := o) (n := colAt cs x.s + 1)
  have lp := rt7_loop hm hl hx (colAt cs x.s + 1 - o.length).toNat o (by omega) (by omega)
  rw [show o ++ reN (colAt cs x.s + 1 - o.length).toNat = extM o (colAt cs x.s + 1) from rfl] at lp
  have ih' := ih (m ++ [x]) ((extM o (colAt cs x.s + 1)).set (colAt cs x.s).toNat x) (by simp [h]) (by rw [List.length_set]; omega)
  rw [show rtb cs (x :: r) o = rtb cs r ((extM o (colAt cs x.s + 1)).set (colAt cs x.s).toNat x) from rfl]
  generalize extM o (colAt cs x.s + 1) = O at el lp ih' ⊢
  have q4 : (0 ≤ colAt cs x.s /\ colAt cs x.s < O.length) = True := eq_true (by omega)
  have g4 := getSl (l := O) (i := (colAt cs x.s).toNat) (by omega)
  have g5 : (O.map enV).set (colAt cs x.s).toNat (.agg [.int .i64 x.s, .int .i64 x.m]) = (O.set (colAt cs x.s).toNat x).map enV := set_map (f := enV)
  generalize rtb cs r (O.set (colAt cs x.s).toNat x) = R at ih' ⊢
  simp only [List.length_append, List.length_cons, List.length_nil, Nat.zero_add, Int.natCast_add, Int.cast_ofNat_Int, List.length_set, eR] at ih' lp
  rw [l56_5]
  simp (maxSteps := 100000000) only [ivc, anf, vop, vlen, vbuiltin, nilR, eq_self, Nat.reduceEqDiff, Nat.reduceLT, Nat.reduceLeDiff, Nat.reduceAdd, Nat.reduceBEq, Int.reduceNeg, reduceCtorEq, ↓reduceIte, tyb, eR, enV, hi', hg, hw, q, g, lp, q4, g4, g5, ih']
  try exact some_true (by omega)
theorem tuM_app {cs : List Int} : ∀ {a b t : List Et}, tuM cs (a ++ b) t = tuM cs b (tuM cs a t)
 | [], b, t => rfl
 | x :: a, b, t => tuM_app (a := a)
theorem tsM_app {cs : List Int} : ∀ {a b : List Et} {n : Int}, tsM cs (a ++ b) n = tsM cs b (tsM cs a n)
 | [], b, n => rfl
 | x :: a, b, n => tsM_app (a := a)
theorem tuM_ext {cs : List Int} : ∀ {m t u : List Et}, (∀ e ∈ m, 0 ≤ colAt cs e.s /\ (colAt cs e.s).toNat < t.length) -> tuM cs m (t ++ u) = tuM cs m t ++ u
 | [], t, u, _ => rfl
 | x :: m, t, u, h => by
  rw [tuM, tuM, List.set_append_left _ _ (h x (by simp)).2]
  exact tuM_ext (m := m) (fun e he => by rw [List.length_set]; exact h e (by simp [he]))
theorem reN_add {a b : Nat} : reN a ++ reN b = reN (a + b) := by
 unfold reN
 rw [List.replicate_append_replicate]
theorem rtb_eq {cs : List Int} {c : List Et} (hc : ∀ e ∈ c, hasC cs e) : ∀ (r m : List Et), c = m ++ r -> rtb cs r (tblM cs m) = tblM cs c := by
 intro r
 induction r with
 | nil =>
  intro m h
  rw [List.append_nil] at h
  rw [h]
  rfl
 | cons x r ih =>
  intro m h
  rw [<- ih (m ++ [x]) (by simp [h])]
  show rtb cs r ((extM (tblM cs m) (colAt cs x.s + 1)).set (colAt cs x.s).toNat x) = _
  congr 1
  have hm : ∀ e ∈ m, hasC cs e := fun e he => hc e (by rw [h]; simp [he])
  have hx : hasC cs x := hc x (by rw [h]; simp)
  obtain ⟨a1, a2, a3⟩ := tsM_rng (n := 0) hm (by omega) (by omega)
  have hlen : (tblM cs m).length = (tsM cs m 0).toNat := by rw [tblM, tuM_len, reN, List.length_replicate]
  unfold extM
  rw [hlen]
  unfold tblM
  rw [tsM_app, show tsM cs [x] (tsM cs m 0) = maxI (tsM cs m 0) (colAt cs x.s + 1) from rfl, tuM_app]
  rw [show ∀ t, tuM cs [x] t = t.set (colAt cs x.s).toNat x from fun t => rfl]
  rw [<- tuM_ext (fun e he => ⟨(hm e he).2.2.1, by have := a3 e he; have := (hm e he).2.2.1; rw [reN, List.length_replicate]; omega⟩), reN_add]
  congr 3
  unfold maxI
  have := hx.2.2
  split <;> omega
theorem rtable_ev {w : Wd} {cs : List Int} {k : Nat} {c : List Et} (hk : w.classes[k]? = some c) (hl : c.length ≤ 1000) (hc : ∀ e ∈ c, hasC cs e) (hn : w.classes.length ≤ 1000) :
  E.F 56 [wdV w, .ro 1 (cs.map (AV.int .i64)), .int .i64 k] [] = some ((.sl 200000 0 (tblM cs c).length, [(200000, ⟨false, 2, (tblM cs c).map enV⟩)]), True) := by
 have hkl := (List.getElem?_eq_some_iff.1 hk).1
 have lp := rt5_loop hl hc c [] [] rfl (by simp)
 have e := rtb_eq hc c [] rfl
 rw [show tblM cs [] = [] from rfl] at e
 rw [e] at lp
 have hgd := getD_map (f := clV) hk
 have q : (0 ≤ (k : Int) /\ (k : Int) < w.classes.length) = True := eq_true (by omega)
 generalize tblM cs c = T at lp ⊢
 simp only [List.length_nil, Int.natCast_zero, eR, List.map_nil] at lp
 rw [e56]
 simp (maxSteps := 100000000) only [ivc, anf, vop, salloc, eq_self, Nat.reduceEqDiff, Nat.reduceLT, Nat.reduceLeDiff, Nat.reduceAdd, Nat.reduceBEq, Int.reduceNeg, reduceCtorEq, ↓reduceIte, tyb, wdV, clV, hgd, q, lp]
 try exact some_true (by omega)
theorem rhas_loop {l : List Int} {x : Int} (hl : l.length ≤ 1000000) : ∀ (r m : List Int), l = m ++ r ->
  ∃ e : Int, E.L 60 3 [.ro 1 (l.map (AV.int .i64)), .int .i64 x, .bool false, .int .i64 m.length] [] = some ((if r.contains x then .ret else .exit 0, [.ro 1 (l.map (AV.int .i64)), .int .i64 x, .bool (r.contains x), .int .i64 e], []), True) := by
 intro r
 induction r with
 | nil =>
  intro m h
  rw [List.append_nil] at h
  subst h
  refine ⟨l.length, ?_⟩
  have q : ((l.length : Int) < l.length) = False := eq_false (by omega)
  rw [l60_3]
  simp (maxSteps := 100000000) only [ivc, anf, vlen, vbuiltin, nilR, eq_self, Nat.reduceEqDiff, Nat.reduceLT, Nat.reduceBEq, reduceCtorEq, ↓reduceIte, tyb, q, List.contains_nil]
 | cons y r ih =>
  intro m h
  have hn : m.length + (r.length + 1) = l.length := by rw [h]; simp
  have hi' : (m.length : Int) < l.length := by omega
  have hg := getD_map (f := AV.int .i64) (show l[m.length]? = some y by rw [h]; simp)
  have hw : IntKind.i64.wrap ((m.length : Int) + 1) = m.length + 1 := wrap_id (by omega) (by omega)
  have hc : (0 ≤ (m.length : Int) /\ (m.length : Int) < l.length) = True := eq_true (by omega)
  by_cases hx : y = x
  ·refine ⟨m.length, ?_⟩
   have hx' : (y == x) = true := beq_iff_eq.2 hx
   have hb : (y :: r).contains x = true := by simp [hx]
   rw [hb, l60_3]
   simp (maxSteps := 100000000) only [ivc, anf, vlen, vbuiltin, nilR, eq_self, Nat.reduceEqDiff, Nat.reduceLT, Nat.reduceBEq, reduceCtorEq, ↓reduceIte, tyb, hi', hg, hx']
   exact some_true (by omega)
  ·obtain ⟨e, ih'⟩ := ih (m ++ [y]) (by simp [h])
   refine ⟨e, ?_⟩
   have hx' : (y == x) = false := beq_eq_false_iff_ne.2 hx
   have hb : (y :: r).contains x = r.contains x := by
    rw [List.contains_cons]
    have : (x == y) = false := beq_eq_false_iff_ne.2 (fun h => hx h.symm)
    rw [this]; rfl
   simp only [List.length_append, List.length_cons, List.length_nil, Nat.zero_add, Int.natCast_add, Int.cast_ofNat_Int] at ih'
   rw [hb, l60_3]
   simp (maxSteps := 100000000) only [ivc, anf, vlen, vbuiltin, nilR, eq_self, Nat.reduceEqDiff, Nat.reduceLT, Nat.reduceBEq, reduceCtorEq, ↓reduceIte, tyb, hi', hg, hw, hx', ih']
   exact some_true (by omega)
theorem has60_ev {l : List Int} {x : Int} (hl : l.length ≤ 1000000) : E.F 60 [.ro 1 (l.map (AV.int .i64)), .int .i64 x] [] = some ((.bool (l.contains x), []), True) := by
 obtain ⟨e, lp⟩ := rhas_loop (x := x) hl l [] rfl
 simp only [List.length_nil, Int.natCast_zero] at lp
 rw [e60]
 cases hb : l.contains x with
 | true =>
  simp only [hb, if_true] at lp
  simp (maxSteps := 100000000) only [ivc, anf, eq_self, Nat.reduceEqDiff, Nat.reduceLT, Nat.reduceLeDiff, Nat.reduceAdd, Nat.reduceBEq, reduceCtorEq, ↓reduceIte, lp]
 | false =>
  simp only [hb, Bool.false_eq_true, if_false] at lp
  simp (maxSteps := 100000000) only [ivc, anf, eq_self, Nat.reduceEqDiff, Nat.reduceLT, Nat.reduceLeDiff, Nat.reduceAdd, Nat.reduceBEq, reduceCtorEq, ↓reduceIte, lp]
theorem rfits_loop {vec t : List Et} {at0 : Int} (ha : 0 ≤ at0) (hal : at0 ≤ 1000000) (hl : t.length ≤ 1000000) (hv : vec.length ≤ 1000000) : ∀ (r m : List Et), t = m ++ r ->
  ∃ e : Int, E.L 61 3 [.ro 2 (vec.map enV), .ro 2 (t.map enV), .int .i64 at0, .bool false, .int .i64 m.length] [] = some ((if fitL vec r (at0 + m.length) then .exit 0 else .ret, [.ro 2 (vec.map enV), .ro 2 (t.map enV), .int .i64 at0, .bool false, .int .i64 e], []), True) := by
 intro r
 induction r with
 | nil =>
  intro m h
  rw [List.append_nil] at h
  subst h
  refine ⟨t.length, ?_⟩
  rw [l61_3]
  simp (maxSteps := 100000000) only [ivc, anf, vlen, vbuiltin, nilR, eq_self, Nat.reduceEqDiff, Nat.reduceLT, Nat.reduceAdd, Nat.reduceBEq, reduceCtorEq, ↓reduceIte, tyb, Int.lt_irrefl, fitL]
 | cons s r ih =>
  intro m h
  have hn : m.length + (r.length + 1) = t.length := by rw [h]; simp
  have hi' : (m.length : Int) < t.length := by omega
  have hg := getD_map (f := enV) (show t[m.length]? = some s by rw [h]; simp)
  have hw : IntKind.i64.wrap ((m.length : Int) + 1) = m.length + 1 := wrap_id (by omega) (by omega)
  have hw2 : IntKind.i64.wrap (at0 + m.length) = at0 + m.length := wrap_id (by omega) (by omega)
  have hc : (0 ≤ (m.length : Int) /\ (m.length : Int) < t.length) = True := eq_true (by omega)
  have hc2 : (0 ≤ at0 + (m.length : Int)) = True := eq_true (by omega)
  by_cases h1 : 0 ≤ s.s
  ·by_cases h2 : at0 + (m.length : Int) < vec.length
   ·have gv : (vec.map enV).getD (at0 + (m.length : Int)).toNat .junk = .agg [.int .i64 (vec.getD (at0 + (m.length : Int)).toNat ⟨0, 0⟩).s, .int .i64 (vec.getD (at0 + (m.length : Int)).toNat ⟨0, 0⟩).m] := by
     have : (at0 + (m.length : Int)).toNat < vec.length := by omega
     simp [List.getD_eq_getElem?_getD, List.getElem?_eq_getElem this, enV]
    by_cases h3 : 0 ≤ (vec.getD (at0 + (m.length : Int)).toNat ⟨0, 0⟩).s
    ·have hf : fitL vec (s :: r) (at0 + m.length) = false := by rw [fitL, if_pos ⟨h1, h2, h3⟩]
     refine ⟨m.length, ?_⟩
     rw [hf, l61_3]
     simp (maxSteps := 100000000) only [ivc, anf, vop, vlen, vbuiltin, nilR, eq_self, Nat.reduceEqDiff, Nat.reduceLT, Nat.reduceAdd, Nat.reduceBEq, reduceCtorEq, ↓reduceIte, tyb, enV, hi', hg, hw2, hc2, h1, h2, gv, h3]
     try exact some_true (by omega)
    ·have hf : fitL vec (s :: r) (at0 + m.length) = fitL vec r (at0 + m.length + 1) := by rw [fitL, if_neg (fun h => h3 h.2.2)]
     obtain ⟨e, ih'⟩ := ih (m ++ [s]) (by simp [h])
     refine ⟨e, ?_⟩
     simp only [List.length_append, List.length_cons, List.length_nil, Nat.zero_add, Int.natCast_add, Int.cast_ofNat_Int, <- Int.add_assoc] at ih'
     rw [hf, l61_3]
     simp (maxSteps := 100000000) only [ivc, anf, vop, vlen, vbuiltin, nilR, eq_self, Nat.reduceEqDiff, Nat.reduceLT, Nat.reduceAdd, Nat.reduceBEq, reduceCtorEq, ↓reduceIte, tyb, enV, hi', hg, hw, hw2, hc2, h1, h2, gv, h3, ih']
     try exact some_true (by omega)
   ·have hf : fitL vec (s :: r) (at0 + m.length) = fitL vec r (at0 + m.length + 1) := by rw [fitL, if_neg (fun h => h2 h.2.1)]
    obtain ⟨e, ih'⟩ := ih (m ++ [s]) (by simp [h])
    refine ⟨e, ?_⟩
    simp only [List.length_append, List.length_cons, List.length_nil, Nat.zero_add, Int.natCast_add, Int.cast_ofNat_Int, <- Int.add_assoc] at ih'
    rw [hf, l61_3]
    simp (maxSteps := 100000000) only [ivc, anf, vop, vlen, vbuiltin, nilR, eq_self, Nat.reduceEqDiff, Nat.reduceLT, Nat.reduceAdd, Nat.reduceBEq, Int.reduceLE, reduceCtorEq, ↓reduceIte, tyb, enV, hi', hg, hw, hw2, hc2, h1, h2, ih']
    try exact some_true (by omega)
  ·have hf : fitL vec (s :: r) (at0 + m.length) = fitL vec r (at0 + m.length + 1) := by rw [fitL, if_neg (fun h => h1 h.1)]
   obtain ⟨e, ih'⟩ := ih (m ++ [s]) (by simp [h])
   refine ⟨e, ?_⟩
   simp only [List.length_append, List.length_cons, List.length_nil, Nat.zero_add, Int.natCast_add, Int.cast_ofNat_Int, <- Int.add_assoc] at ih'
   rw [hf, l61_3]
   simp (maxSteps := 100000000) only [ivc, anf, vop, vlen, vbuiltin, nilR, eq_self, Nat.reduceEqDiff, Nat.reduceLT, Nat.reduceAdd, Nat.reduceBEq, Int.reduceLE, reduceCtorEq, ↓reduceIte, tyb, enV, hi', hg, hw, hw2, hc2, h1, ih']
   try exact some_true (by omega)
theorem fits61_ev {vec t : List Et} {at0 : Int} (ha : 0 ≤ at0) (hal : at0 ≤ 1000000) (hl : t.length ≤ 1000000) (hv : vec.length ≤ 1000000) : E.F 61 [.ro 2 (vec.map enV), .ro 2 (t.map enV), .int .i64 at0] [] = some ((.bool (fitL vec t at0), []), True) := by
 obtain ⟨e, h⟩ := rfits_loop ha hal hl hv t [] rfl
 simp only [List.length_nil, Int.natCast_zero, Int.add_zero] at h
 rw [e61]
 by_cases hf : fitL vec t at0 = true
 ·rw [hf]
  simp only [hf, if_true] at h
  simp (maxSteps := 100000000) only [ivc, anf, eq_self, Nat.reduceEqDiff, Nat.reduceLT, Nat.reduceLeDiff, Nat.reduceAdd, Nat.reduceBEq, reduceCtorEq, ↓reduceIte, h]
 ·have hf' : fitL vec t at0 = false := by simpa using hf
  rw [hf']
  simp only [hf', Bool.false_eq_true, if_false] at h
  simp (maxSteps := 100000000) only [ivc, anf, eq_self, Nat.reduceEqDiff, Nat.reduceLT, Nat.reduceLeDiff, Nat.reduceAdd, Nat.reduceBEq, reduceCtorEq, ↓reduceIte, h]
end Go.Proofs.YtikppcfabnnhfaaDoor

/- The reference's Check. -/
namespace Go.Proofs.YtikppcfabnnhfaaDoor
open Go Go.Aw
set_option linter.unusedSimpArgs false
set_option linter.unusedVariables false
set_option maxRecDepth 100000
set_option maxHeartbeats 40000000
theorem be_loop {l : List Int} {n : Int} (hl : l.length ≤ 1000000) : ∀ (r m : List Int), l = m ++ r ->
  ∃ e : Int, E.L 66 3 [.ro 1 (l.map (AV.int .i64)), .int .i64 n, .bool false, .int .i64 m.length] [] = some ((if r.all (inR n) then .exit 0 else .ret, [.ro 1 (l.map (AV.int .i64)), .int .i64 n, .bool false, .int .i64 e], []), True) := by
 intro r
 induction r with
 | nil =>
  intro m h
  rw [List.append_nil] at h
  subst h
  refine ⟨l.length, ?_⟩
  have q : ((l.length : Int) < l.length) = False := eq_false (by omega)
  rw [l66_3]
  simp (maxSteps := 100000000) only [ivc, anf, vlen, vbuiltin, nilR, eq_self, Nat.reduceEqDiff, Nat.reduceLT, Nat.reduceBEq, reduceCtorEq, ↓reduceIte, tyb, q]
 | cons x r ih =>
  intro m h
  have hn : m.length + (r.length + 1) = l.length := by rw [h]; simp
  have hi' : (m.length : Int) < l.length := by omega
  have hg := getD_map (f := AV.int .i64) (show l[m.length]? = some x by rw [h]; simp)
  have hw : IntKind.i64.wrap ((m.length : Int) + 1) = m.length + 1 := wrap_id (by omega) (by omega)
  have hc : (0 ≤ (m.length : Int) /\ (m.length : Int) < l.length) = True := eq_true (by omega)
  obtain ⟨e, ih'⟩ := ih (m ++ [x]) (by simp [h])
  simp only [List.length_append, List.length_cons, List.length_nil, Nat.zero_add, Int.natCast_add, Int.cast_ofNat_Int] at ih'
  by_cases b1 : x < 0
  ·refine ⟨m.length, ?_⟩
   rw [l66_3]
   simp (maxSteps := 100000000) only [ivc, anf, vlen, vbuiltin, nilR, eq_self, Nat.reduceEqDiff, Nat.reduceLT, Nat.reduceBEq, reduceCtorEq, ↓reduceIte, tyb, hi', hg, b1, inR]
   try exact some_true (by omega)
  ·by_cases b2 : n ≤ x
   ·refine ⟨m.length, ?_⟩
    rw [l66_3]
    simp (maxSteps := 100000000) only [ivc, anf, vlen, vbuiltin, nilR, eq_self, Nat.reduceEqDiff, Nat.reduceLT, Nat.reduceBEq, reduceCtorEq, ↓reduceIte, tyb, hi', hg, b1, b2, inR]
    try exact some_true (by omega)
   ·refine ⟨e, ?_⟩
    rw [l66_3]
    simp (maxSteps := 100000000) only [ivc, anf, vlen, vbuiltin, nilR, eq_self, Nat.reduceEqDiff, Nat.reduceLT, Nat.reduceBEq, reduceCtorEq, ↓reduceIte, tyb, hi', hg, hw, b1, b2, inR, ih']
    try exact some_true (by omega)
theorem below_ev {l : List Int} {n : Int} (hl : l.length ≤ 1000000) : E.F 66 [.ro 1 (l.map (AV.int .i64)), .int .i64 n] [] = some ((.bool (l.all (inR n)), []), True) := by
 obtain ⟨e, lp⟩ := be_loop (n := n) hl l [] rfl
 simp only [List.length_nil, Int.natCast_zero] at lp
 rw [e66]
 cases hb : l.all (inR n) with
 | true =>
  simp only [hb, if_true] at lp
  simp (maxSteps := 100000000) only [ivc, anf, eq_self, Nat.reduceEqDiff, Nat.reduceLT, Nat.reduceLeDiff, Nat.reduceAdd, Nat.reduceBEq, reduceCtorEq, ↓reduceIte, lp]
 | false =>
  simp only [hb, Bool.false_eq_true, if_false] at lp
  simp (maxSteps := 100000000) only [ivc, anf, eq_self, Nat.reduceEqDiff, Nat.reduceLT, Nat.reduceLeDiff, Nat.reduceAdd, Nat.reduceBEq, reduceCtorEq, ↓reduceIte, lp]
theorem rk5_loop {w : Wd} (hl : w.classes.length ≤ 1000) : ∀ (r m : List (List Et)), w.classes = m ++ r ->
  ∃ e : Int, E.L 30 5 [.ptr 60000 0 0, .int .i64 0, .int .i64 m.length] (wO w) = some ((if r.any bigC then .ret else .exit 0, [.ptr 60000 0 0, .int .i64 (if r.any bigC then 4 else 0), .int .i64 e], wO w), True) := by
 intro r
 induction r with
 | nil =>
  intro m h
  rw [List.append_nil] at h
  refine ⟨m.length, ?_⟩
  rw [l30_5]
  simp (maxSteps := 100000000) only [ivc, anf, vop, vlen, vbuiltin, nilR, eq_self, Nat.reduceEqDiff, Nat.reduceLT, Nat.reduceLeDiff, Nat.reduceAdd, Nat.reduceBEq, reduceCtorEq, ↓reduceIte, tyb, wO, wdV, h, Int.lt_irrefl, List.any_nil]
 | cons x r ih =>
  intro m h
  have hn : m.length + (r.length + 1) = w.classes.length := by rw [h]; simp
  have hi' : (m.length : Int) < w.classes.length := by omega
  have hg := getD_map (f := clV) (show w.classes[m.length]? = some x by rw [h]; simp)
  have hw : IntKind.i64.wrap ((m.length : Int) + 1) = m.length + 1 := wrap_id (by omega) (by omega)
  have hc : (0 ≤ (m.length : Int) /\ (m.length : Int) < w.classes.length) = True := eq_true (by omega)
  obtain ⟨e, ih'⟩ := ih (m ++ [x]) (by simp [h])
  simp only [List.length_append, List.length_cons, List.length_nil, Nat.zero_add, Int.natCast_add, Int.cast_ofNat_Int, wO, wdV] at ih'
  by_cases b : (100 : Int) < x.length
  ·refine ⟨m.length, ?_⟩
   have hb : bigC x = true := decide_eq_true b
   rw [l30_5]
   simp (maxSteps := 100000000) only [ivc, anf, vop, vlen, vbuiltin, nilR, eq_self, Nat.reduceEqDiff, Nat.reduceLT, Nat.reduceLeDiff, Nat.reduceAdd, Nat.reduceBEq, reduceCtorEq, ↓reduceIte, tyb, wO, wdV, clV, hi', hg, b, List.any_cons, hb]
   try exact some_true (by omega)
  ·refine ⟨e, ?_⟩
   have hb : bigC x = false := decide_eq_false b
   rw [l30_5]
   simp (maxSteps := 100000000) only [ivc, anf, vop, vlen, vbuiltin, nilR, eq_self, Nat.reduceEqDiff, Nat.reduceLT, Nat.reduceLeDiff, Nat.reduceAdd, Nat.reduceBEq, reduceCtorEq, ↓reduceIte, tyb, wO, wdV, clV, hi', hg, hw, b, List.any_cons, hb, ih']
   try exact some_true (by omega)
theorem rk10_loop {w : Wd} (hl : w.bodies.length ≤ 1000) : ∀ (r m : List Bd), w.bodies = m ++ r ->
  ∃ e : Int, E.L 30 10 [.ptr 60000 0 0, .int .i64 0, .int .i64 m.length] (wO w) = some ((if r.any bigB then .ret else .exit 2, [.ptr 60000 0 0, .int .i64 (if r.any bigB then 4 else 0), .int .i64 e], wO w), True) := by
 intro r
 induction r with
 | nil =>
  intro m h
  rw [List.append_nil] at h
  refine ⟨m.length, ?_⟩
  rw [l30_10]
  simp (maxSteps := 100000000) only [ivc, anf, vop, vlen, vbuiltin, nilR, eq_self, Nat.reduceEqDiff, Nat.reduceLT, Nat.reduceLeDiff, Nat.reduceAdd, Nat.reduceBEq, reduceCtorEq, ↓reduceIte, tyb, wO, wdV, h, Int.lt_irrefl, List.any_nil]
 | cons x r ih =>
  intro m h
  have hn : m.length + (r.length + 1) = w.bodies.length := by rw [h]; simp
  have hi' : (m.length : Int) < w.bodies.length := by omega
  have hg := getD_map (f := bdV) (show w.bodies[m.length]? = some x by rw [h]; simp)
  have hw : IntKind.i64.wrap ((m.length : Int) + 1) = m.length + 1 := wrap_id (by omega) (by omega)
  have hc : (0 ≤ (m.length : Int) /\ (m.length : Int) < w.bodies.length) = True := eq_true (by omega)
  obtain ⟨e, ih'⟩ := ih (m ++ [x]) (by simp [h])
  simp only [List.length_append, List.length_cons, List.length_nil, Nat.zero_add, Int.natCast_add, Int.cast_ofNat_Int, wO, wdV] at ih'
  have big : bigB x = (decide ((100 : Int) < x.ss.length) || decide ((100 : Int) < x.ms.length) || decide ((100 : Int) < x.cs.length)) := rfl
  by_cases b1 : (100 : Int) < x.ss.length
  ·refine ⟨m.length, ?_⟩
   rw [l30_10]
   simp (maxSteps := 100000000) only [ivc, anf, vop, vlen, vbuiltin, nilR, salloc, eq_self, Nat.reduceEqDiff, Nat.reduceLT, Nat.reduceLeDiff, Nat.reduceAdd, Nat.reduceBEq, Int.reduceLT, reduceCtorEq, ↓reduceIte, tyb, wO, wdV, bdV, hi', hg, b1, List.any_cons, big]
   try exact some_true (by omega)
  ·by_cases b2 : (100 : Int) < x.ms.length
   ·refine ⟨m.length, ?_⟩
    rw [l30_10]
    simp (maxSteps := 100000000) only [ivc, anf, vop, vlen, vbuiltin, nilR, salloc, eq_self, Nat.reduceEqDiff, Nat.reduceLT, Nat.reduceLeDiff, Nat.reduceAdd, Nat.reduceBEq, Int.reduceLT, reduceCtorEq, ↓reduceIte, tyb, wO, wdV, bdV, hi', hg, b1, b2, List.any_cons, big]
    try exact some_true (by omega)
   ·by_cases b3 : (100 : Int) < x.cs.length
    ·refine ⟨m.length, ?_⟩
     rw [l30_10]
     simp (maxSteps := 100000000) only [ivc, anf, vop, vlen, vbuiltin, nilR, salloc, eq_self, Nat.reduceEqDiff, Nat.reduceLT, Nat.reduceLeDiff, Nat.reduceAdd, Nat.reduceBEq, reduceCtorEq, ↓reduceIte, tyb, wO, wdV, bdV, hi', hg, b1, b2, b3, List.any_cons, big]
     try exact some_true (by omega)
    ·refine ⟨e, ?_⟩
     rw [l30_10]
     simp (maxSteps := 100000000) only [ivc, anf, vop, vlen, vbuiltin, nilR, salloc, eq_self, Nat.reduceEqDiff, Nat.reduceLT, Nat.reduceLeDiff, Nat.reduceAdd, Nat.reduceBEq, reduceCtorEq, ↓reduceIte, tyb, wO, wdV, bdV, hi', hg, hw, b1, b2, b3, List.any_cons, big, ih']
     try exact some_true (by omega)
theorem rk27_loop {w : Wd} (hl : w.bodies.length ≤ 1000) (hs : ∀ b ∈ w.bodies, b.ss.length ≤ 1000 /\ b.ms.length ≤ 1000 /\ b.cs.length ≤ 1000) : ∀ (r m : List Bd), w.bodies = m ++ r ->
  ∃ e : Int, E.L 30 27 [.ptr 60000 0 0, .int .i64 0, .int .i64 m.length] (wO w) = some ((if r.any (badB w.bodies.length w.classes.length) then .ret else .exit 8, [.ptr 60000 0 0, .int .i64 (if r.any (badB w.bodies.length w.classes.length) then 3 else 0), .int .i64 e], wO w), True) := by
 intro r
 induction r with
 | nil =>
  intro m h
  rw [List.append_nil] at h
  refine ⟨m.length, ?_⟩
  rw [l30_27]
  simp (maxSteps := 100000000) only [ivc, anf, vop, vlen, vbuiltin, nilR, eq_self, Nat.reduceEqDiff, Nat.reduceLT, Nat.reduceLeDiff, Nat.reduceAdd, Nat.reduceBEq, reduceCtorEq, ↓reduceIte, tyb, wO, wdV, h, Int.lt_irrefl, List.any_nil]
 | cons x r ih =>
  intro m h
  have hn : m.length + (r.length + 1) = w.bodies.length := by rw [h]; simp
  have hi' : (m.length : Int) < w.bodies.length := by omega
  have hg := getD_map (f := bdV) (show w.bodies[m.length]? = some x by rw [h]; simp)
  have hw : IntKind.i64.wrap ((m.length : Int) + 1) = m.length + 1 := wrap_id (by omega) (by omega)
  have hc : (0 ≤ (m.length : Int) /\ (m.length : Int) < w.bodies.length) = True := eq_true (by omega)
  obtain ⟨x1, x2, x3⟩ := hs x (by rw [h]; simp)
  have k1 := below_ev (l := x.ss) (n := 500) (by omega)
  have k2 := below_ev (l := x.ms) (n := w.bodies.length) (by omega)
  have k3 := below_ev (l := x.cs) (n := w.classes.length) (by omega)
  obtain ⟨e, ih'⟩ := ih (m ++ [x]) (by simp [h])
  simp only [List.length_append, List.length_cons, List.length_nil, Nat.zero_add, Int.natCast_add, Int.cast_ofNat_Int, wO, wdV] at ih'
  cases b1 : x.ss.all (inR 500) with
  | false =>
   rw [b1] at k1
   refine ⟨m.length, ?_⟩
   rw [l30_27]
   simp (maxSteps := 100000000) only [ivc, anf, vop, vlen, vbuiltin, nilR, salloc, eq_self, Nat.reduceEqDiff, Nat.reduceLT, Nat.reduceLeDiff, Nat.reduceAdd, Nat.reduceBEq, reduceCtorEq, ↓reduceIte, tyb, wO, wdV, bdV, hi', hg, k1, List.any_cons, badB, b1]
   try exact some_true (by omega)
  | true =>
   rw [b1] at k1
   cases b2 : x.ms.all (inR w.bodies.length) with
   | false =>
    rw [b2] at k2
    refine ⟨m.length, ?_⟩
    rw [l30_27]
    simp (maxSteps := 100000000) only [ivc, anf, vop, vlen, vbuiltin, nilR, salloc, eq_self, Nat.reduceEqDiff, Nat.reduceLT, Nat.reduceLeDiff, Nat.reduceAdd, Nat.reduceBEq, reduceCtorEq, ↓reduceIte, tyb, wO, wdV, bdV, hi', hg, k1, k2, List.any_cons, badB, b1, b2]
    try exact some_true (by omega)
   | true =>
    rw [b2] at k2
    cases b3 : x.cs.all (inR w.classes.length) with
    | false =>
     rw [b3] at k3
     refine ⟨m.length, ?_⟩
     rw [l30_27]
     simp (maxSteps := 100000000) only [ivc, anf, vop, vlen, vbuiltin, nilR, salloc, eq_self, Nat.reduceEqDiff, Nat.reduceLT, Nat.reduceLeDiff, Nat.reduceAdd, Nat.reduceBEq, reduceCtorEq, ↓reduceIte, tyb, wO, wdV, bdV, hi', hg, k1, k2, k3, List.any_cons, badB, b1, b2, b3]
     try exact some_true (by omega)
    | true =>
     rw [b3] at k3
     refine ⟨e, ?_⟩
     rw [l30_27]
     simp (maxSteps := 100000000) only [ivc, anf, vop, vlen, vbuiltin, nilR, salloc, eq_self, Nat.reduceEqDiff, Nat.reduceLT, Nat.reduceLeDiff, Nat.reduceAdd, Nat.reduceBEq, reduceCtorEq, ↓reduceIte, tyb, wO, wdV, bdV, hi', hg, hw, k1, k2, k3, List.any_cons, badB, b1, b2, b3, ih']
     try exact some_true (by omega)
end Go.Proofs.YtikppcfabnnhfaaDoor

/- The reference's Check: all. -/
namespace Go.Proofs.YtikppcfabnnhfaaDoor
open Go Go.Aw
set_option linter.unusedSimpArgs false
set_option linter.unusedVariables false
set_option maxRecDepth 100000
set_option maxHeartbeats 40000000
def rkP (m : List Et) : Option Int := m.getLast?.map Et.s
theorem rkP_app {m : List Et} {x : Et} : rkP (m ++ [x]) = some x.s := by simp [rkP]
theorem badE_iff' {nb : Int} {e : Et} : badE nb e = false ↔ (0 ≤ e.s /\ e.s < 500) /\ 0 ≤ e.m /\ e.m < nb := by
 simp only [badE, Bool.or_eq_false_iff, decide_eq_false_iff_not]
 omega
theorem ckC_bad {nb : Int} {p : Option Int} {e : Et} {r : List Et} (h : badE nb e = true) : ckC nb p (e :: r) = 3 := by
 cases p <;> exact if_pos h
theorem ckC_no1 {nb : Int} {e : Et} {r : List Et} (h : badE nb e = false) : ckC nb none (e :: r) = ckC nb (some e.s) r := by
 show (if badE nb e = true then (3 : Int) else if false = true then 7 else ckC nb (some e.s) r) = _
 rw [h]
 rfl
theorem ckC_le {nb q : Int} {e : Et} {r : List Et} (h : badE nb e = false) (g : e.s ≤ q) : ckC nb (some q) (e :: r) = 7 := by
 show (if badE nb e = true then (3 : Int) else if decide (e.s ≤ q) = true then 7 else ckC nb (some e.s) r) = _
 rw [h, decide_eq_true g]
 rfl
theorem ckC_gt {nb q : Int} {e : Et} {r : List Et} (h : badE nb e = false) (g : ¬ e.s ≤ q) : ckC nb (some q) (e :: r) = ckC nb (some e.s) r := by
 show (if badE nb e = true then (3 : Int) else if decide (e.s ≤ q) = true then 7 else ckC nb (some e.s) r) = _
 rw [h, decide_eq_false g]
 rfl
theorem rk20_loop {w : Wd} {k : Int} {l : List Et} (hl : l.length ≤ 1000000) (hb : w.bodies.length ≤ 1000) : ∀ (r m : List Et), l = m ++ r ->
  ∃ e : Int, E.L 30 20 [.ptr 60000 0 0, .int .i64 0, .int .i64 k, .ro 2 (l.map enV), .int .i64 m.length] (wO w) = some ((if ckC w.bodies.length (rkP m) r = 0 then .exit 6 else .ret, [.ptr 60000 0 0, .int .i64 (ckC w.bodies.length (rkP m) r), .int .i64 k, .ro 2 (l.map enV), .int .i64 e], wO w), True) := by
 intro r
 induction r with
 | nil =>
  intro m h
  rw [List.append_nil] at h
  subst h
  refine ⟨l.length, ?_⟩
  have q : ((l.length : Int) < l.length) = False := eq_false (by omega)
  rw [l30_20, show ckC w.bodies.length (rkP l) [] = 0 from rfl]
  simp (maxSteps := 100000000) only [ivc, anf, vlen, vbuiltin, nilR, eq_self, Nat.reduceEqDiff, Nat.reduceLT, Nat.reduceLeDiff, Nat.reduceAdd, Nat.reduceBEq, reduceCtorEq, ↓reduceIte, tyb, wO, wdV, q]
 | cons x r ih =>
  intro m h
  have hn : m.length + (r.length + 1) = l.length := by rw [h]; simp
  have hi' : (m.length : Int) < l.length := by omega
  have hg := getD_map (f := enV) (show l[m.length]? = some x by rw [h]; simp)
  have hw : IntKind.i64.wrap ((m.length : Int) + 1) = m.length + 1 := wrap_id (by omega) (by omega)
  have hc : (0 ≤ (m.length : Int) /\ (m.length : Int) < l.length) = True := eq_true (by omega)
  obtain ⟨e, ih'⟩ := ih (m ++ [x]) (by simp [h])
  rw [rkP_app] at ih'
  simp only [List.length_append, List.length_cons, List.length_nil, Nat.zero_add, Int.natCast_add, Int.cast_ofNat_Int, wO, wdV] at ih'
  by_cases c1 : x.s < 0
  ·refine ⟨m.length, ?_⟩
   rw [ckC_bad (by simp [badE, c1]), l30_20]
   simp (maxSteps := 100000000) only [ivc, anf, vop, vlen, vbuiltin, nilR, eq_self, Nat.reduceEqDiff, Nat.reduceLT, Nat.reduceLeDiff, Nat.reduceAdd, Nat.reduceBEq, Int.reduceEq, reduceCtorEq, ↓reduceIte, tyb, wO, wdV, enV, hi', hg, c1]
   try exact some_true (by omega)
  by_cases c2 : (499 : Int) < x.s
  ·refine ⟨m.length, ?_⟩
   rw [ckC_bad (by simp [badE]; omega), l30_20]
   simp (maxSteps := 100000000) only [ivc, anf, vop, vlen, vbuiltin, nilR, eq_self, Nat.reduceEqDiff, Nat.reduceLT, Nat.reduceLeDiff, Nat.reduceAdd, Nat.reduceBEq, Int.reduceEq, reduceCtorEq, ↓reduceIte, tyb, wO, wdV, enV, hi', hg, c1, c2]
   try exact some_true (by omega)
  by_cases c3 : x.m < 0
  ·refine ⟨m.length, ?_⟩
   rw [ckC_bad (by simp [badE]; omega), l30_20]
   simp (maxSteps := 100000000) only [ivc, anf, vop, vlen, vbuiltin, nilR, eq_self, Nat.reduceEqDiff, Nat.reduceLT, Nat.reduceLeDiff, Nat.reduceAdd, Nat.reduceBEq, Int.reduceEq, reduceCtorEq, ↓reduceIte, tyb, wO, wdV, enV, hi', hg, c1, c2, c3]
   try exact some_true (by omega)
  by_cases c4 : (w.bodies.length : Int) ≤ x.m
  ·refine ⟨m.length, ?_⟩
   rw [ckC_bad (by simp [badE]; omega), l30_20]
   simp (maxSteps := 100000000) only [ivc, anf, vop, vlen, vbuiltin, nilR, eq_self, Nat.reduceEqDiff, Nat.reduceLT, Nat.reduceLeDiff, Nat.reduceAdd, Nat.reduceBEq, Int.reduceEq, reduceCtorEq, ↓reduceIte, tyb, wO, wdV, enV, hi', hg, c1, c2, c3, c4]
   try exact some_true (by omega)
  have good : badE w.bodies.length x = false := badE_iff'.2 ⟨by omega, by omega⟩
  cases hq : m.getLast? with
  | none =>
   have hm : m = [] := List.getLast?_eq_none_iff.1 hq
   subst hm
   have e1 : rkP [] = none := rfl
   rw [e1, ckC_no1 good]
   refine ⟨e, ?_⟩
   simp only [List.length_nil, Int.natCast_zero, Int.zero_add] at ih' hg hw hc hi' ⊢
   generalize ckC w.bodies.length (some x.s) r = er at ih' ⊢
   rw [l30_20]
   simp (maxSteps := 100000000) only [ivc, anf, vop, vlen, vbuiltin, nilR, eq_self, Nat.reduceEqDiff, Nat.reduceLT, Nat.reduceLeDiff, Nat.reduceAdd, Nat.reduceBEq, Int.reduceLE, Int.reduceNeg, Int.reduceToNat, Int.reduceAdd, Int.reduceSub, reduceCtorEq, ↓reduceIte, tyb, wO, wdV, enV, hi', hg, hw, c1, c2, c3, c4, Int.lt_irrefl, ih']
   try exact some_true (by omega)
  | some q =>
   have e1 : rkP m = some q.s := by unfold rkP; rw [hq]; rfl
   rw [e1]
   have hml : 0 < m.length := by
    cases m with
    | nil => cases hq
    | cons _ _ => simp
   have hlq : l[m.length - 1]? = some q := by
    rw [h, List.getElem?_append, if_pos (by omega)]
    rw [List.getLast?_eq_getElem?] at hq
    exact hq
   have hg2 := getD_map (f := enV) hlq
   have p1 : (0 < (m.length : Int)) = True := eq_true (by omega)
   have p2 : IntKind.i64.wrap ((m.length : Int) - 1) = m.length - 1 := wrap_id (by omega) (by omega)
   have p3 : (0 ≤ (m.length : Int) - 1 /\ (m.length : Int) - 1 < l.length) = True := eq_true (by omega)
   have p4 : ((m.length : Int) - 1).toNat = m.length - 1 := by omega
   by_cases c5 : x.s ≤ q.s
   ·refine ⟨m.length, ?_⟩
    rw [ckC_le good c5, l30_20]
    simp (maxSteps := 100000000) only [ivc, anf, vop, vlen, vbuiltin, nilR, eq_self, Nat.reduceEqDiff, Nat.reduceLT, Nat.reduceLeDiff, Nat.reduceAdd, Nat.reduceBEq, Int.reduceEq, reduceCtorEq, ↓reduceIte, tyb, wO, wdV, enV, hi', hg, hg2, c1, c2, c3, c4, c5, p1, p2, p3, p4]
    try exact some_true (by omega)
   ·refine ⟨e, ?_⟩
    rw [ckC_gt good c5]
    generalize ckC w.bodies.length (some x.s) r = er at ih' ⊢
    rw [l30_20]
    simp (maxSteps := 100000000) only [ivc, anf, vop, vlen, vbuiltin, nilR, eq_self, Nat.reduceEqDiff, Nat.reduceLT, Nat.reduceLeDiff, Nat.reduceAdd, Nat.reduceBEq, reduceCtorEq, ↓reduceIte, tyb, wO, wdV, enV, hi', hg, hg2, hw, c1, c2, c3, c4, c5, p1, p2, p3, p4, ih']
    try exact some_true (by omega)
theorem rk16_loop {w : Wd} (hl : w.classes.length ≤ 1000) (hb : w.bodies.length ≤ 1000) (hs : ∀ c ∈ w.classes, c.length ≤ 1000) : ∀ (r m : List (List Et)), w.classes = m ++ r ->
  ∃ e : Int, E.L 30 16 [.ptr 60000 0 0, .int .i64 0, .int .i64 m.length] (wO w) = some ((if ckCs w.bodies.length r = 0 then .exit 4 else .ret, [.ptr 60000 0 0, .int .i64 (ckCs w.bodies.length r), .int .i64 e], wO w), True) := by
 intro r
 induction r with
 | nil =>
  intro m h
  rw [List.append_nil] at h
  refine ⟨m.length, ?_⟩
  rw [l30_16, show ckCs w.bodies.length [] = 0 from rfl]
  simp (maxSteps := 100000000) only [ivc, anf, vop, vlen, vbuiltin, nilR, eq_self, Nat.reduceEqDiff, Nat.reduceLT, Nat.reduceLeDiff, Nat.reduceAdd, Nat.reduceBEq, reduceCtorEq, ↓reduceIte, tyb, wO, wdV, h, Int.lt_irrefl]
 | cons x r ih =>
  intro m h
  have hn : m.length + (r.length + 1) = w.classes.length := by rw [h]; simp
  have hi' : (m.length : Int) < w.classes.length := by omega
  have hg := getD_map (f := clV) (show w.classes[m.length]? = some x by rw [h]; simp)
  have hw : IntKind.i64.wrap ((m.length : Int) + 1) = m.length + 1 := wrap_id (by omega) (by omega)
  have hc : (0 ≤ (m.length : Int) /\ (m.length : Int) < w.classes.length) = True := eq_true (by omega)
  have hx : x.length ≤ 1000 := hs x (by rw [h]; simp)
  obtain ⟨e1, lp⟩ := rk20_loop (w := w) (k := m.length) (l := x) (by omega) hb x [] rfl
  rw [show rkP [] = none from rfl] at lp
  obtain ⟨e, ih'⟩ := ih (m ++ [x]) (by simp [h])
  simp only [List.length_append, List.length_cons, List.length_nil, Nat.zero_add, Int.natCast_add, Int.cast_ofNat_Int, wO, wdV] at ih' lp
  rw [ckCs]
  by_cases hz : ckC w.bodies.length none x = 0
  ·refine ⟨e, ?_⟩
   rw [hz] at lp
   rw [if_pos hz, l30_16]
   simp (maxSteps := 100000000) only [ivc, anf, vop, vlen, vbuiltin, nilR, eq_self, Nat.reduceEqDiff, Nat.reduceLT, Nat.reduceLeDiff, Nat.reduceAdd, Nat.reduceBEq, reduceCtorEq, ↓reduceIte, tyb, wO, wdV, clV, hi', hg, hw, lp, ih']
   try exact some_true (by omega)
  ·refine ⟨m.length, ?_⟩
   rw [if_neg hz, if_neg hz, l30_16]
   rw [if_neg hz] at lp
   generalize ckC w.bodies.length none x = er at lp
   simp (maxSteps := 100000000) only [ivc, anf, vop, vlen, vbuiltin, nilR, eq_self, Nat.reduceEqDiff, Nat.reduceLT, Nat.reduceLeDiff, Nat.reduceAdd, Nat.reduceBEq, reduceCtorEq, ↓reduceIte, tyb, wO, wdV, clV, hi', hg, lp]
   try exact some_true (by omega)
end Go.Proofs.YtikppcfabnnhfaaDoor

/- The reference's Check: its value. -/
namespace Go.Proofs.YtikppcfabnnhfaaDoor
open Go Go.Aw
set_option linter.unusedSimpArgs false
set_option linter.unusedVariables false
set_option maxRecDepth 100000
set_option maxHeartbeats 40000000
theorem rcheck_ev {w : Wd} : E.F 30 [wdV w] [] = some ((.int .i64 (ckM w), []), True) := by
 rw [e30]
 unfold ckM
 by_cases a1 : (200 : Int) < w.classes.length
 ·rw [if_pos (.inl a1)]
  simp (maxSteps := 100000000) only [ivc, anf, vop, vlen, vbuiltin, nilR, salloc, eq_self, Nat.reduceEqDiff, Nat.reduceLT, Nat.reduceLeDiff, Nat.reduceAdd, Nat.reduceBEq, Int.reduceLT, reduceCtorEq, ↓reduceIte, tyb, wdV, a1]
 by_cases a2 : (500 : Int) < w.bodies.length
 ·rw [if_pos (.inr (.inl a2))]
  simp (maxSteps := 100000000) only [ivc, anf, vop, vlen, vbuiltin, nilR, salloc, eq_self, Nat.reduceEqDiff, Nat.reduceLT, Nat.reduceLeDiff, Nat.reduceAdd, Nat.reduceBEq, Int.reduceLT, reduceCtorEq, ↓reduceIte, tyb, wdV, a1, a2]
 by_cases a3 : (64 : Int) < w.roots.length
 ·rw [if_pos (.inr (.inr a3))]
  simp (maxSteps := 100000000) only [ivc, anf, vop, vlen, vbuiltin, nilR, salloc, eq_self, Nat.reduceEqDiff, Nat.reduceLT, Nat.reduceLeDiff, Nat.reduceAdd, Nat.reduceBEq, reduceCtorEq, ↓reduceIte, tyb, wdV, a1, a2, a3]
 rw [if_neg (by omega)]
 obtain ⟨x5, h5⟩ := rk5_loop (w := w) (by omega) w.classes [] rfl
 obtain ⟨x10, h10⟩ := rk10_loop (w := w) (by omega) w.bodies [] rfl
 simp only [wO, wdV, List.length_nil, Int.natCast_zero] at h5 h10
 by_cases b1 : w.classes.any bigC = true
 ·rw [if_pos b1]
  simp only [b1, if_true] at h5
  simp (maxSteps := 100000000) only [ivc, anf, vop, vlen, vbuiltin, nilR, salloc, eq_self, Nat.reduceEqDiff, Nat.reduceLT, Nat.reduceLeDiff, Nat.reduceAdd, Nat.reduceBEq, reduceCtorEq, ↓reduceIte, tyb, wdV, a1, a2, a3, h5]
 rw [if_neg b1]
 have b1' : w.classes.any bigC = false := by simpa using b1
 simp only [b1', Bool.false_eq_true, if_false] at h5
 by_cases b2 : w.bodies.any bigB = true
 ·rw [if_pos b2]
  simp only [b2, if_true] at h10
  simp (maxSteps := 100000000) only [ivc, anf, vop, vlen, vbuiltin, nilR, salloc, eq_self, Nat.reduceEqDiff, Nat.reduceLT, Nat.reduceLeDiff, Nat.reduceAdd, Nat.reduceBEq, reduceCtorEq, ↓reduceIte, tyb, wdV, a1, a2, a3, h5, h10]
 rw [if_neg b2]
 have b2' : w.bodies.any bigB = false := by simpa using b2
 simp only [b2', Bool.false_eq_true, if_false] at h10
 have s1 : ∀ c ∈ w.classes, c.length ≤ 1000 := fun c hc => by
  have := List.any_eq_false.1 b1' c hc
  simp only [bigC, decide_eq_true_eq] at this
  omega
 have s2 : ∀ b ∈ w.bodies, b.ss.length ≤ 1000 /\ b.ms.length ≤ 1000 /\ b.cs.length ≤ 1000 := fun b hb => by
  have := List.any_eq_false.1 b2' b hb
  simp only [bigB, Bool.or_eq_true, decide_eq_true_eq] at this
  omega
 obtain ⟨x16, h16⟩ := rk16_loop (w := w) (by omega) (by omega) s1 w.classes [] rfl
 simp only [wO, wdV, List.length_nil, Int.natCast_zero] at h16
 by_cases c1 : ckCs w.bodies.length w.classes = 0
 ·rw [if_neg (by simpa using c1)]
  rw [c1] at h16
  simp only [if_true] at h16
  obtain ⟨x27, h27⟩ := rk27_loop (w := w) (by omega) s2 w.bodies [] rfl
  simp only [wO, wdV, List.length_nil, Int.natCast_zero] at h27
  by_cases c2 : w.bodies.any (badB w.bodies.length w.classes.length) = true
  ·rw [if_pos c2]
   simp only [c2, if_true] at h27
   simp (maxSteps := 100000000) only [ivc, anf, vop, vlen, vbuiltin, nilR, salloc, eq_self, Nat.reduceEqDiff, Nat.reduceLT, Nat.reduceLeDiff, Nat.reduceAdd, Nat.reduceBEq, reduceCtorEq, ↓reduceIte, tyb, wdV, a1, a2, a3, h5, h10, h16, h27]
  ·rw [if_neg c2]
   have c2' : w.bodies.any (badB w.bodies.length w.classes.length) = false := by simpa using c2
   simp only [c2', Bool.false_eq_true, if_false] at h27
   have g3 := below_ev (l := w.roots) (n := w.bodies.length) (by omega)
   by_cases c3 : w.roots.all (inR w.bodies.length) = true
   ·rw [if_pos c3]
    rw [c3] at g3
    simp (maxSteps := 100000000) only [ivc, anf, vop, vlen, vbuiltin, nilR, salloc, eq_self, Nat.reduceEqDiff, Nat.reduceLT, Nat.reduceLeDiff, Nat.reduceAdd, Nat.reduceBEq, reduceCtorEq, ↓reduceIte, tyb, wdV, a1, a2, a3, g3, h5, h10, h16, h27]
   ·rw [if_neg c3]
    have c3' : w.roots.all (inR w.bodies.length) = false := by simpa using c3
    rw [c3'] at g3
    simp (maxSteps := 100000000) only [ivc, anf, vop, vlen, vbuiltin, nilR, salloc, eq_self, Nat.reduceEqDiff, Nat.reduceLT, Nat.reduceLeDiff, Nat.reduceAdd, Nat.reduceBEq, reduceCtorEq, ↓reduceIte, tyb, wdV, a1, a2, a3, g3, h5, h10, h16, h27]
 ·rw [if_pos c1]
  rw [if_neg c1] at h16
  generalize ckCs w.bodies.length w.classes = er at h16 ⊢
  simp (maxSteps := 100000000) only [ivc, anf, vop, vlen, vbuiltin, nilR, salloc, eq_self, Nat.reduceEqDiff, Nat.reduceLT, Nat.reduceLeDiff, Nat.reduceAdd, Nat.reduceBEq, reduceCtorEq, ↓reduceIte, tyb, wdV, a1, a2, a3, h5, h10, h16]
end Go.Proofs.YtikppcfabnnhfaaDoor

