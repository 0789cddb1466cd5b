/- Pack: loops. -/
import Derived.Test.YtikppcfabnnhfaaDoorCNC21
namespace Go.Proofs.YtikppcfabnnhfaaDoor
open Go Go.Aw
set_option linter.unusedSimpArgs false
set_option linter.unusedVariables false
set_option maxRecDepth 100000
set_option maxHeartbeats 40000000
theorem getSl {l : List Et} {i : Nat} (h : i < l.length) : (l.map enV).getD i .junk = .agg [.int .i64 (l.getD i ⟨0, 0⟩).s, .int .i64 (l.getD i ⟨0, 0⟩).m] := by
  simp [List.getD_eq_getElem?_getD, List.getElem?_eq_getElem h, enV]
def okA (offs : List Int) (vec t : List Et) (a : Int) : Bool := !(offs.contains a) && fitL vec t a
def fAt (ok : Int → Bool) : Nat → Int → Int
  | 0, a => a
  | k + 1, a => if ok a = true then a else fAt ok k (a + 1)
theorem fitL_far {vec : List Et} : ∀ {r : List Et} {p : Int}, (vec.length : Int) ≤ p → fitL vec r p = true
  | [], _, _ => rfl
  | s :: r, p, h => by
    rw [fitL, if_neg (by omega)]
    exact fitL_far (r := r) (by omega)
def pkT (w : Wd) (offs : List Int) (vec t : List Et) : HL := [(60000, ⟨true, 3, [wdV w]⟩), (60001, ⟨true, 1, [.sl 60004 0 vec.length]⟩), (60002, iR offs), (60003, ⟨false, 2, t.map enV⟩), (60004, ⟨false, 2, vec.map enV⟩)]
def pkF : AV := .fn (Fn.func 57) [] [.ptr 60001 0 0]
theorem at_loop {w : Wd} {cs offs : List Int} {vec t : List Et} {nc ci : Int} {B : Int} (ho : ∀ o ∈ offs, o < B) (hv : vec.length ≤ B) (hB : B ≤ 900000) (hol : offs.length ≤ 1000) (htl : t.length ≤ 1000) : ∀ (k : Nat) (a : Int), 0 ≤ a → a + k = B →
    EP.L 24 13 [.ro 1 (cs.map (AV.int .i64)), .ptr 60000 0 0, .ptr 60001 0 0, .sl 60002 0 offs.length, pkF, .sl 60003 0 t.length, .int .i64 a, .int .i64 nc, .int .i64 ci] (pkT w offs vec t)
    = some ((.exit 2, [.ro 1 (cs.map (AV.int .i64)), .ptr 60000 0 0, .ptr 60001 0 0, .sl 60002 0 offs.length, pkF, .sl 60003 0 t.length, .int .i64 (fAt (okA offs vec t) k a), .int .i64 nc, .int .i64 ci], pkT w offs vec t), True) := by
  intro k
  induction k with
  | zero =>
    intro a h0 h
    have c1 := contains_ev (l := offs) (x := a) (by omega)
    have c2 := fits_ev (vec := vec) (t := t) (at0 := a) h0 (by omega) (by omega) (by omega)
    have d1 : offs.contains a = false := by
      cases hc : offs.contains a with
      | false => rfl
      | true =>
        have := ho a (by simpa using hc)
        omega
    rw [d1] at c1
    rw [fitL_far (by omega)] at c2
    rw [l24_13P]
    simp (maxSteps := 100000000) only [ivc, vop, eq_self, Nat.reduceEqDiff, Nat.reduceLT, Nat.reduceLeDiff, Nat.reduceAdd, Nat.reduceBEq, reduceCtorEq, ↓reduceIte, anfP, gv58P, gv57P, pkT, pkF, iR, wdV, c1, c2, fAt]
  | succ k ih =>
    intro a h0 h
    have c1 := contains_ev (l := offs) (x := a) (by omega)
    have c2 := fits_ev (vec := vec) (t := t) (at0 := a) h0 (by omega) (by omega) (by omega)
    have hw : IntKind.i64.wrap (a + 1) = a + 1 := wrap_id (by omega) (by omega)
    have ih' := ih (a + 1) (by omega) (by omega)
    simp only [pkT, pkF, iR, wdV] at ih'
    rw [l24_13P]
    cases d1 : offs.contains a with
    | true =>
      have e : fAt (okA offs vec t) (k + 1) a = fAt (okA offs vec t) k (a + 1) := by
        rw [fAt, if_neg]
        unfold okA
        rw [d1]
        simp
      rw [e]
      rw [d1] at c1
      simp (maxSteps := 100000000) only [ivc, vop, nilR, eq_self, Nat.reduceEqDiff, Nat.reduceLT, Nat.reduceLeDiff, Nat.reduceAdd, Nat.reduceBEq, reduceCtorEq, ↓reduceIte, anfP, gv58P, tyb, pkT, pkF, iR, wdV, c1, hw, ih']
    | false =>
      rw [d1] at c1
      cases d2 : fitL vec t a with
      | true =>
        have e : fAt (okA offs vec t) (k + 1) a = a := by
          rw [fAt, if_pos]
          unfold okA
          rw [d1, d2]
          rfl
        rw [e]
        rw [d2] at c2
        simp (maxSteps := 100000000) only [ivc, vop, eq_self, Nat.reduceEqDiff, Nat.reduceLT, Nat.reduceLeDiff, Nat.reduceAdd, Nat.reduceBEq, reduceCtorEq, ↓reduceIte, anfP, gv58P, gv57P, pkT, pkF, iR, wdV, c1, c2]
      | false =>
        have e : fAt (okA offs vec t) (k + 1) a = fAt (okA offs vec t) k (a + 1) := by
          rw [fAt, if_neg]
          unfold okA
          rw [d2]
          simp
        rw [e]
        rw [d2] at c2
        simp (maxSteps := 100000000) only [ivc, vop, nilR, eq_self, Nat.reduceEqDiff, Nat.reduceLT, Nat.reduceLeDiff, Nat.reduceAdd, Nat.reduceBEq, reduceCtorEq, ↓reduceIte, anfP, gv58P, gv57P, tyb, pkT, pkF, iR, wdV, c1, c2, hw, ih']
def putL : List Et → Int → List Et → List Et
  | [], _, v => v
  | s :: r, p, v => putL r (p + 1) (if 0 ≤ s.s then v.set p.toNat s else v)
theorem putL_len : ∀ {r : List Et} {p : Int} {v : List Et}, (putL r p v).length = v.length
  | [], _, _ => rfl
  | s :: r, p, v => by
    rw [putL, putL_len]
    split
    · exact List.length_set
    · rfl
theorem put_loop {w : Wd} {cs offs : List Int} {t : List Et} {nc ci a : Int} (h0 : 0 ≤ a) (hB : a ≤ 900000) (htl : t.length ≤ 1000) : ∀ (r m vec : List Et), t = m ++ r → (r = [] ∨ a + t.length ≤ vec.length) →
    EP.L 24 20 [.ro 1 (cs.map (AV.int .i64)), .ptr 60000 0 0, .ptr 60001 0 0, .sl 60002 0 offs.length, pkF, .int .i64 a, .int .i64 nc, .int .i64 ci, .sl 60003 0 t.length, .int .i64 t.length, .int .i64 m.length] (pkT w offs vec t)
    = some ((.exit 4, [.ro 1 (cs.map (AV.int .i64)), .ptr 60000 0 0, .ptr 60001 0 0, .sl 60002 0 offs.length, pkF, .int .i64 a, .int .i64 nc, .int .i64 ci, .sl 60003 0 t.length, .int .i64 t.length, .int .i64 t.length], pkT w offs (putL r (a + m.length) vec) t), True) := by
  intro r
  induction r with
  | nil =>
    intro m vec h hv
    rw [List.append_nil] at h
    subst h
    rw [l24_20P]
    simp (maxSteps := 100000000) only [ivc, nilR, eq_self, Nat.reduceEqDiff, Nat.reduceLT, Nat.reduceLeDiff, Nat.reduceAdd, Nat.reduceBEq, reduceCtorEq, ↓reduceIte, anfP, tyb, pkT, pkF, iR, wdV, Int.lt_irrefl, putL]
  | cons s r ih =>
    intro m vec h hv
    have hv' : a + t.length ≤ vec.length := hv.elim (fun h => by cases h) id
    have hn : m.length + (r.length + 1) = t.length := by rw [h]; simp
    have hi' : (m.length : Int) < t.length := by omega
    have hg := getD_map (f := enV) (show t[m.length]? = some s by rw [h]; simp)
    have hw : IntKind.i64.wrap ((m.length : Int) + 1) = m.length + 1 := wrap_id (by omega) (by omega)
    have hw2 : IntKind.i64.wrap (a + m.length) = a + m.length := wrap_id (by omega) (by omega)
    have hc : (0 ≤ (m.length : Int)) = True := eq_true (by omega)
    have hc2 : (0 ≤ a + (m.length : Int) ∧ a + (m.length : Int) < vec.length) = True := eq_true (by omega)
    have g2 := getSl (l := vec) (i := (a + (m.length : Int)).toNat) (by omega)
    have g3 : (vec.map enV).set (a + (m.length : Int)).toNat (.agg [.int .i64 s.s, .int .i64 s.m]) = (vec.set (a + (m.length : Int)).toNat s).map enV := set_map (f := enV)
    by_cases h1 : 0 ≤ s.s
    · have ih' := ih (m ++ [s]) (vec.set (a + m.length).toNat s) (by simp [h]) (.inr (by rw [List.length_set]; exact hv'))
      simp only [List.length_append, List.length_cons, List.length_nil, Nat.zero_add, Int.natCast_add, Int.cast_ofNat_Int, pkT, pkF, iR, wdV, List.length_set, putL_len, ← Int.add_assoc] at ih'
      rw [l24_20P]
      simp (maxSteps := 100000000) only [ivc, vop, nilR, salloc, eq_self, Nat.reduceEqDiff, Nat.reduceLT, Nat.reduceLeDiff, Nat.reduceAdd, Nat.reduceBEq, reduceCtorEq, ↓reduceIte, anfP, tyb, pkT, pkF, iR, wdV, enV, hi', hg, hw, hw2, hc, hc2, g2, g3, h1, ih', putL, putL_len, List.length_set]
    · have ih' := ih (m ++ [s]) vec (by simp [h]) (.inr hv')
      simp only [List.length_append, List.length_cons, List.length_nil, Nat.zero_add, Int.natCast_add, Int.cast_ofNat_Int, pkT, pkF, iR, wdV, putL_len, ← Int.add_assoc] at ih'
      rw [l24_20P]
      simp (maxSteps := 100000000) only [ivc, vop, nilR, salloc, eq_self, Nat.reduceEqDiff, Nat.reduceLT, Nat.reduceLeDiff, Nat.reduceAdd, Nat.reduceBEq, reduceCtorEq, ↓reduceIte, anfP, tyb, pkT, pkF, iR, wdV, enV, hi', hg, hw, hc, h1, ih', putL, putL_len]
end Go.Proofs.YtikppcfabnnhfaaDoor
