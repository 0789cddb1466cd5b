/- Contains, fits. -/
import Derived.Test.YtikppcfabnnhfaaDoorCNC19
namespace Go.Proofs.YtikppcfabnnhfaaDoor
open Go Go.Aw
set_option linter.unusedSimpArgs false
set_option linter.unusedVariables false
set_option maxRecDepth 100000
set_option maxHeartbeats 40000000
theorem index_loop {l : List Int} {x : Int} (hl : l.length ≤ 1000000) : ∀ (r m : List Int), l = m ++ r →
    ∃ v e : Int, E.L 84 3 [.ro 1 (l.map (AV.int .i64)), .int .i64 x, .int .i64 0, .int .i64 l.length, .int .i64 m.length] [] = some ((if r.contains x then .ret else .exit 0, [.ro 1 (l.map (AV.int .i64)), .int .i64 x, .int .i64 v, .int .i64 l.length, .int .i64 e], []), True) ∧ 0 ≤ v := by
  intro r
  induction r with
  | nil =>
    intro m h
    rw [List.append_nil] at h
    subst h
    refine ⟨0, l.length, ?_, by omega⟩
    rw [l84_3]
    simp (maxSteps := 100000000) only [ivc, anf, nilR, eq_self, Nat.reduceEqDiff, Nat.reduceLT, Nat.reduceBEq, reduceCtorEq, ↓reduceIte, tyb, Int.lt_irrefl, List.contains_nil]
  | cons y r ih =>
    intro m h
    have hn : m.length + (r.length + 1) = l.length := by rw [h]; simp
    have hi' : (m.length : Int) < l.length := by omega
    have hg := getD_map (f := AV.int .i64) (show l[m.length]? = some y by rw [h]; simp)
    have hw : IntKind.i64.wrap ((m.length : Int) + 1) = m.length + 1 := wrap_id (by omega) (by omega)
    have hc : (0 ≤ (m.length : Int)) = True := eq_true (by omega)
    by_cases hx : x = y
    · have hx' : (x == y) = true := by simp [hx]
      have hcc : (y :: r).contains x = true := by simp [hx]
      refine ⟨m.length, m.length, ?_, by omega⟩
      rw [hcc, l84_3]
      simp (maxSteps := 100000000) only [ivc, anf, nilR, eq_self, Nat.reduceEqDiff, Nat.reduceLT, Nat.reduceBEq, reduceCtorEq, ↓reduceIte, tyb, hi', hg, hc, hx']
    · have hx' : (x == y) = false := by simp [hx]
      have hcc : (y :: r).contains x = r.contains x := by simp [hx]
      obtain ⟨v, e, ih', hv⟩ := ih (m ++ [y]) (by simp [h])
      refine ⟨v, e, ?_, hv⟩
      simp only [List.length_append, List.length_cons, List.length_nil, Nat.zero_add, Int.natCast_add, Int.cast_ofNat_Int] at ih'
      rw [hcc, l84_3]
      simp (maxSteps := 100000000) only [ivc, anf, nilR, eq_self, Nat.reduceEqDiff, Nat.reduceLT, Nat.reduceBEq, reduceCtorEq, ↓reduceIte, tyb, hi', hg, hw, hc, hx', ih']
theorem contains_ev {l : List Int} {x : Int} (hl : l.length ≤ 1000000) : E.F 58 [.ro 1 (l.map (AV.int .i64)), .int .i64 x] [] = some ((.bool (l.contains x), []), True) := by
  obtain ⟨v, e, h, hv⟩ := index_loop (x := x) hl l [] rfl
  simp only [List.length_nil, Int.natCast_zero] at h
  have hv' : (decide (0 ≤ v)) = true := by simpa using hv
  rw [e58]
  by_cases ha : l.contains x = true
  · rw [ha]
    simp only [ha, if_true] at h
    simp (maxSteps := 100000000) only [ivc, anf, vlen, vbuiltin, nilR, eq_self, Nat.reduceEqDiff, Nat.reduceLT, Nat.reduceLeDiff, Nat.reduceAdd, Nat.reduceBEq, Int.reduceNeg, reduceCtorEq, ↓reduceIte, tyb, e84, h, hv']
  · have ha' : l.contains x = false := by simpa using ha
    rw [ha']
    simp only [ha', Bool.false_eq_true, if_false] at h
    simp (maxSteps := 100000000) only [ivc, anf, vlen, vbuiltin, nilR, eq_self, Nat.reduceEqDiff, Nat.reduceLT, Nat.reduceLeDiff, Nat.reduceAdd, Nat.reduceBEq, Int.reduceLE, Int.reduceNeg, reduceCtorEq, ↓reduceIte, tyb, e84, h]
def fitL (vec : List Et) : List Et → Int → Bool
  | [], _ => true
  | s :: r, p => if 0 ≤ s.s ∧ p < vec.length ∧ 0 ≤ (vec.getD p.toNat ⟨0, 0⟩).s then false else fitL vec r (p + 1)
theorem fits_loop {vec t : List Et} {at0 : Int} (ha : 0 ≤ at0) (hal : at0 ≤ 1000000) (hl : t.length ≤ 1000000) (hv : vec.length ≤ 1000000) : ∀ (r m : List Et), t = m ++ r →
    ∃ e : Int, E.L 57 3 [.int .i64 at0, .rop (.ro 2 (vec.map enV)) 0, .bool false, .ro 2 (t.map enV), .int .i64 t.length, .int .i64 m.length] [] = some ((if fitL vec r (at0 + m.length) then .exit 0 else .ret, [.int .i64 at0, .rop (.ro 2 (vec.map enV)) 0, .bool false, .ro 2 (t.map enV), .int .i64 t.length, .int .i64 e], []), True) := by
  intro r
  induction r with
  | nil =>
    intro m h
    rw [List.append_nil] at h
    subst h
    refine ⟨t.length, ?_⟩
    rw [l57_3]
    simp (maxSteps := 100000000) only [ivc, anf, nilR, eq_self, Nat.reduceEqDiff, Nat.reduceLT, Nat.reduceBEq, reduceCtorEq, ↓reduceIte, tyb, Int.lt_irrefl, fitL]
  | cons s r ih =>
    intro m h
    have hn : m.length + (r.length + 1) = t.length := by rw [h]; simp
    have hi' : (m.length : Int) < t.length := by omega
    have hg := getD_map (f := enV) (show t[m.length]? = some s by rw [h]; simp)
    have hw : IntKind.i64.wrap ((m.length : Int) + 1) = m.length + 1 := wrap_id (by omega) (by omega)
    have hw2 : IntKind.i64.wrap (at0 + m.length) = at0 + m.length := wrap_id (by omega) (by omega)
    have hc : (0 ≤ (m.length : Int)) = True := eq_true (by omega)
    have hc2 : (0 ≤ at0 + (m.length : Int)) = True := eq_true (by omega)
    by_cases h1 : 0 ≤ s.s
    · by_cases h2 : at0 + (m.length : Int) < vec.length
      · have gv : (vec.map enV).getD (at0 + (m.length : Int)).toNat .junk = .agg [.int .i64 (vec.getD (at0 + (m.length : Int)).toNat ⟨0, 0⟩).s, .int .i64 (vec.getD (at0 + (m.length : Int)).toNat ⟨0, 0⟩).m] := by
          have : (at0 + (m.length : Int)).toNat < vec.length := by omega
          simp [List.getD_eq_getElem?_getD, List.getElem?_eq_getElem this, enV]
        by_cases h3 : 0 ≤ (vec.getD (at0 + (m.length : Int)).toNat ⟨0, 0⟩).s
        · have hf : fitL vec (s :: r) (at0 + m.length) = false := by rw [fitL, if_pos ⟨h1, h2, h3⟩]
          refine ⟨m.length, ?_⟩
          rw [hf, l57_3]
          simp (maxSteps := 100000000) only [ivc, anf, vop, vlen, vbuiltin, nilR, salloc, eq_self, Nat.reduceEqDiff, Nat.reduceLT, Nat.reduceLeDiff, Nat.reduceAdd, Nat.reduceBEq, reduceCtorEq, ↓reduceIte, tyb, enV, hi', hg, hw2, hc, hc2, h1, h2, gv, h3]
        · have hf : fitL vec (s :: r) (at0 + m.length) = fitL vec r (at0 + m.length + 1) := by rw [fitL, if_neg (fun h => h3 h.2.2)]
          obtain ⟨e, ih'⟩ := ih (m ++ [s]) (by simp [h])
          refine ⟨e, ?_⟩
          simp only [List.length_append, List.length_cons, List.length_nil, Nat.zero_add, Int.natCast_add, Int.cast_ofNat_Int, ← Int.add_assoc] at ih'
          rw [hf, l57_3]
          simp (maxSteps := 100000000) only [ivc, anf, vop, vlen, vbuiltin, nilR, salloc, eq_self, Nat.reduceEqDiff, Nat.reduceLT, Nat.reduceLeDiff, Nat.reduceAdd, Nat.reduceBEq, reduceCtorEq, ↓reduceIte, tyb, enV, hi', hg, hw, hw2, hc, hc2, h1, h2, gv, h3, ih']
      · have hf : fitL vec (s :: r) (at0 + m.length) = fitL vec r (at0 + m.length + 1) := by rw [fitL, if_neg (fun h => h2 h.2.1)]
        obtain ⟨e, ih'⟩ := ih (m ++ [s]) (by simp [h])
        refine ⟨e, ?_⟩
        simp only [List.length_append, List.length_cons, List.length_nil, Nat.zero_add, Int.natCast_add, Int.cast_ofNat_Int, ← Int.add_assoc] at ih'
        rw [hf, l57_3]
        simp (maxSteps := 100000000) only [ivc, anf, vop, vlen, vbuiltin, nilR, salloc, eq_self, Nat.reduceEqDiff, Nat.reduceLT, Nat.reduceLeDiff, Nat.reduceAdd, Nat.reduceBEq, Int.reduceLE, reduceCtorEq, ↓reduceIte, tyb, enV, hi', hg, hw, hw2, hc, hc2, h1, h2, ih']
    · have hf : fitL vec (s :: r) (at0 + m.length) = fitL vec r (at0 + m.length + 1) := by rw [fitL, if_neg (fun h => h1 h.1)]
      obtain ⟨e, ih'⟩ := ih (m ++ [s]) (by simp [h])
      refine ⟨e, ?_⟩
      simp only [List.length_append, List.length_cons, List.length_nil, Nat.zero_add, Int.natCast_add, Int.cast_ofNat_Int, ← Int.add_assoc] at ih'
      rw [hf, l57_3]
      simp (maxSteps := 100000000) only [ivc, anf, vop, vlen, vbuiltin, nilR, salloc, eq_self, Nat.reduceEqDiff, Nat.reduceLT, Nat.reduceLeDiff, Nat.reduceAdd, Nat.reduceBEq, Int.reduceLE, reduceCtorEq, ↓reduceIte, tyb, enV, hi', hg, hw, hw2, hc, hc2, h1, ih']
theorem fits_ev {vec t : List Et} {at0 : Int} (ha : 0 ≤ at0) (hal : at0 ≤ 1000000) (hl : t.length ≤ 1000000) (hv : vec.length ≤ 1000000) : E.F 57 [.ro 2 (t.map enV), .int .i64 at0, .rop (.ro 2 (vec.map enV)) 0] [] = some ((.bool (fitL vec t at0), []), True) := by
  obtain ⟨e, h⟩ := fits_loop ha hal hl hv t [] rfl
  simp only [List.length_nil, Int.natCast_zero, Int.add_zero] at h
  rw [e57]
  by_cases hf : fitL vec t at0 = true
  · rw [hf]
    simp only [hf, if_true] at h
    simp (maxSteps := 100000000) only [ivc, anf, vlen, vbuiltin, eq_self, Nat.reduceEqDiff, Nat.reduceLT, Nat.reduceLeDiff, Nat.reduceAdd, Nat.reduceBEq, reduceCtorEq, ↓reduceIte, tyb, h]
  · have hf' : fitL vec t at0 = false := by simpa using hf
    rw [hf']
    simp only [hf', Bool.false_eq_true, if_false] at h
    simp (maxSteps := 100000000) only [ivc, anf, vlen, vbuiltin, eq_self, Nat.reduceEqDiff, Nat.reduceLT, Nat.reduceLeDiff, Nat.reduceAdd, Nat.reduceBEq, reduceCtorEq, ↓reduceIte, tyb, h]
end Go.Proofs.YtikppcfabnnhfaaDoor
