/- A part of the proof of ColourReachesCardSaid. -/
import Derived.Test.YtikppcfabnnhfaaDoorC3
/- Clone, the closure of Grow. -/
namespace Go.Proofs.YtikppcfabnnhfaaDoor
open Go Go.Aw
set_option linter.unusedSimpArgs false
set_option linter.unusedVariables false
set_option maxRecDepth 100000
set_option maxHeartbeats 40000000
theorem clone46_ev {l : List Int} (hl : l.length ≤ 1000000) : E.F 46 [.ro 1 (l.map (AV.int .i64))] [] = some ((.sl 200000 0 l.length, [(200000, iR l)]), True) := by
 rw [e46]
 simp (maxSteps := 100000000) only [ivc, anf, nilR, salloc, sappend, eq_self, Nat.reduceEqDiff, Nat.reduceLT, Nat.reduceLeDiff, Nat.reduceAdd, Nat.reduceBEq, reduceCtorEq, ↓reduceIte, tyb, iR]
 by_cases h0 : l.length = 0
 ·have e : l = [] := List.eq_nil_of_length_eq_zero h0
  subst e
  simp
 ·rw [if_neg h0]
  exact some_true (by omega)
theorem clone45_ev {l : List (List Et)} (hl : l.length ≤ 1000000) : E.F 45 [.ro 1 (l.map clV)] [] = some ((.sl 200000 0 l.length, [(200000, ⟨false, 1, l.map clV⟩)]), True) := by
 rw [e45]
 simp (maxSteps := 100000000) only [ivc, anf, nilR, salloc, sappend, eq_self, Nat.reduceEqDiff, Nat.reduceLT, Nat.reduceLeDiff, Nat.reduceAdd, Nat.reduceBEq, reduceCtorEq, ↓reduceIte, tyb]
 by_cases h0 : l.length = 0
 ·have e : l = [] := List.eq_nil_of_length_eq_zero h0
  subst e
  simp
 ·rw [if_neg h0]
  exact some_true (by omega)
theorem w49 {out : List Int} {c : Int} {e : Et} (he : 0 ≤ e.s /\ e.s < out.length) : E.F 49 [enV e, .rop (.ro 1 (out.map (AV.int .i64))) 0, .rop (.int .i64 c) 0] [] = some ((.bool (colAt out e.s == c), []), True) := by
 have q : (0 ≤ e.s /\ e.s < out.length) = True := eq_true he
 have g : (out.map (AV.int .i64)).getD e.s.toNat .junk = .int .i64 (colAt out e.s) := getI (by omega)
 rw [e49]
 simp (maxSteps := 100000000) only [ivc, anf, vop, nilR, salloc, eq_self, Nat.reduceEqDiff, Nat.reduceLT, Nat.reduceLeDiff, Nat.reduceAdd, Nat.reduceBEq, reduceCtorEq, ↓reduceIte, tyb, enV, q, g]
theorem idx81_loop {l : List Et} {out : List Int} {c : Int} (hl : l.length ≤ 1000000) (ho : ∀ e ∈ l, 0 ≤ e.s /\ e.s < out.length) : ∀ (r m : List Et), l = m ++ r ->
  ∃ v e : Int, E.L 81 3 [.ro 2 (l.map enV), .fn (Fn.func 49) [] [.rop (.ro 1 (out.map (AV.int .i64))) 0, .rop (.int .i64 c) 0], .int .i64 0, .int .i64 l.length, .int .i64 m.length] [] = some ((if r.any (fun e => colAt out e.s == c) then .ret else .exit 0, [.ro 2 (l.map enV), .fn (Fn.func 49) [] [.rop (.ro 1 (out.map (AV.int .i64))) 0, .rop (.int .i64 c) 0], .int .i64 v, .int .i64 l.length, .int .i64 e], []), True) /\ 0 ≤ v := by
 intro r
 induction r with
 | nil =>
  intro m h
  rw [List.append_nil] at h
  subst h
  refine ⟨0, l.length, ?_, by omega⟩
  rw [l81_3]
  simp (maxSteps := 100000000) only [ivc, anf, nilR, eq_self, Nat.reduceEqDiff, Nat.reduceLT, Nat.reduceBEq, reduceCtorEq, ↓reduceIte, tyb, Int.lt_irrefl, List.any_nil]
 | cons x r ih =>
  intro m h
  have hn : m.length + (r.length + 1) = l.length := by rw [h]; simp
  have hi' : (m.length : Int) < l.length := by omega
  have hg := getD_map (f := enV) (show l[m.length]? = some x by rw [h]; simp)
  have hw : IntKind.i64.wrap ((m.length : Int) + 1) = m.length + 1 := wrap_id (by omega) (by omega)
  have hc : (0 ≤ (m.length : Int)) = True := eq_true (by omega)
  have hb := w49 (c := c) (ho x (by rw [h]; simp))
  by_cases hx : (colAt out x.s == c) = true
  ·refine ⟨m.length, m.length, ?_, by omega⟩
   rw [hx] at hb
   simp only [enV] at hb
   rw [l81_3]
   simp (maxSteps := 100000000) only [ivc, anf, nilR, eq_self, Nat.reduceEqDiff, Nat.reduceLT, Nat.reduceLeDiff, Nat.reduceAdd, Nat.reduceMul, Nat.reduceBEq, reduceCtorEq, ↓reduceIte, tyb, enV, hi', hg, hc, hb, List.any_cons, hx]
  ·obtain ⟨v, e, ih', hv⟩ := ih (m ++ [x]) (by simp [h])
   refine ⟨v, e, ?_, hv⟩
   simp only [List.length_append, List.length_cons, List.length_nil, Nat.zero_add, Int.natCast_add, Int.cast_ofNat_Int] at ih'
   have hx' : (colAt out x.s == c) = false := by simpa using hx
   rw [hx'] at hb
   simp only [enV] at hb
   rw [l81_3]
   simp (maxSteps := 100000000) only [ivc, anf, nilR, eq_self, Nat.reduceEqDiff, Nat.reduceLT, Nat.reduceLeDiff, Nat.reduceAdd, Nat.reduceMul, Nat.reduceBEq, reduceCtorEq, ↓reduceIte, tyb, enV, hi', hg, hw, hc, hb, ih', List.any_cons, hx']
theorem any48_ev {l : List Et} {out : List Int} {c : Int} (hl : l.length ≤ 1000000) (ho : ∀ e ∈ l, 0 ≤ e.s /\ e.s < out.length) : E.F 48 [.ro 2 (l.map enV), .fn (Fn.func 49) [] [.rop (.ro 1 (out.map (AV.int .i64))) 0, .rop (.int .i64 c) 0]] [] = some ((.bool (l.any fun e => colAt out e.s == c), []), True) := by
 obtain ⟨v, e, h, hv⟩ := idx81_loop (c := c) hl ho l [] rfl
 simp only [List.length_nil, Int.natCast_zero] at h
 have hv' : (decide (0 ≤ v)) = true := by simpa using hv
 rw [e48]
 by_cases ha : l.any (fun e => colAt out e.s == c) = true
 ·rw [ha]
  simp only [ha, if_true] at h
  simp (maxSteps := 100000000) only [ivc, anf, vlen, vbuiltin, nilR, eq_self, Nat.reduceEqDiff, Nat.reduceLT, Nat.reduceLeDiff, Nat.reduceAdd, Nat.reduceBEq, Int.reduceNeg, reduceCtorEq, ↓reduceIte, tyb, e81, h, hv']
 ·have ha' : l.any (fun e => colAt out e.s == c) = false := by simpa using ha
  rw [ha']
  simp only [ha', Bool.false_eq_true, if_false] at h
  simp (maxSteps := 100000000) only [ivc, anf, vlen, vbuiltin, nilR, eq_self, Nat.reduceEqDiff, Nat.reduceLT, Nat.reduceLeDiff, Nat.reduceAdd, Nat.reduceBEq, Int.reduceLE, Int.reduceNeg, reduceCtorEq, ↓reduceIte, tyb, e81, h]
theorem index_loop {l : List Int} {x : Int} (hl : l.length ≤ 1000000) : ∀ (r m : List Int), l = m ++ r ->
  ∃ v e : Int, E.L 84 3 [.ro 1 (l.map (AV.int .i64)), .int .i64 x, .int .i64 0, .int .i64 l.length, .int .i64 m.length] [] = some ((if r.contains x then .ret else .exit 0, [.ro 1 (l.map (AV.int .i64)), .int .i64 x, .int .i64 v, .int .i64 l.length, .int .i64 e], []), True) /\ 0 ≤ v := by
 intro r
 induction r with
 | nil =>
  intro m h
  rw [List.append_nil] at h
  subst h
  refine ⟨0, l.length, ?_, by omega⟩
  rw [l84_3]
  simp (maxSteps := 100000000) only [ivc, anf, nilR, eq_self, Nat.reduceEqDiff, Nat.reduceLT, Nat.reduceBEq, reduceCtorEq, ↓reduceIte, tyb, Int.lt_irrefl, List.contains_nil]
 | cons y r ih =>
  intro m h
  have hn : m.length + (r.length + 1) = l.length := by rw [h]; simp
  have hi' : (m.length : Int) < l.length := by omega
  have hg := getD_map (f := AV.int .i64) (show l[m.length]? = some y by rw [h]; simp)
  have hw : IntKind.i64.wrap ((m.length : Int) + 1) = m.length + 1 := wrap_id (by omega) (by omega)
  have hc : (0 ≤ (m.length : Int)) = True := eq_true (by omega)
  by_cases hx : x = y
  ·have hx' : (x == y) = true := by simp [hx]
   have hcc : (y :: r).contains x = true := by simp [hx]
   refine ⟨m.length, m.length, ?_, by omega⟩
   rw [hcc, l84_3]
   simp (maxSteps := 100000000) only [ivc, anf, nilR, eq_self, Nat.reduceEqDiff, Nat.reduceLT, Nat.reduceBEq, reduceCtorEq, ↓reduceIte, tyb, hi', hg, hc, hx']
  ·have hx' : (x == y) = false := by simp [hx]
   have hcc : (y :: r).contains x = r.contains x := by simp [hx]
   obtain ⟨v, e, ih', hv⟩ := ih (m ++ [y]) (by simp [h])
   refine ⟨v, e, ?_, hv⟩
   simp only [List.length_append, List.length_cons, List.length_nil, Nat.zero_add, Int.natCast_add, Int.cast_ofNat_Int] at ih'
   rw [hcc, l84_3]
   simp (maxSteps := 100000000) only [ivc, anf, nilR, eq_self, Nat.reduceEqDiff, Nat.reduceLT, Nat.reduceBEq, reduceCtorEq, ↓reduceIte, tyb, hi', hg, hw, hc, hx', ih']
theorem contains_ev {l : List Int} {x : Int} (hl : l.length ≤ 1000000) : E.F 58 [.ro 1 (l.map (AV.int .i64)), .int .i64 x] [] = some ((.bool (l.contains x), []), True) := by
 obtain ⟨v, e, h, hv⟩ := index_loop (x := x) hl l [] rfl
 simp only [List.length_nil, Int.natCast_zero] at h
 have hv' : (decide (0 ≤ v)) = true := by simpa using hv
 rw [e58]
 by_cases ha : l.contains x = true
 ·rw [ha]
  simp only [ha, if_true] at h
  simp (maxSteps := 100000000) only [ivc, anf, vlen, vbuiltin, nilR, eq_self, Nat.reduceEqDiff, Nat.reduceLT, Nat.reduceLeDiff, Nat.reduceAdd, Nat.reduceBEq, Int.reduceNeg, reduceCtorEq, ↓reduceIte, tyb, e84, h, hv']
 ·have ha' : l.contains x = false := by simpa using ha
  rw [ha']
  simp only [ha', Bool.false_eq_true, if_false] at h
  simp (maxSteps := 100000000) only [ivc, anf, vlen, vbuiltin, nilR, eq_self, Nat.reduceEqDiff, Nat.reduceLT, Nat.reduceLeDiff, Nat.reduceAdd, Nat.reduceBEq, Int.reduceLE, Int.reduceNeg, reduceCtorEq, ↓reduceIte, tyb, e84, h]
def fitL (vec : List Et) : List Et -> Int -> Bool
 | [], _ => true
 | s :: r, p => if 0 ≤ s.s /\ p < vec.length /\ 0 ≤ (vec.getD p.toNat ⟨0, 0⟩).s then false else fitL vec r (p + 1)
theorem fits_loop {vec t : List Et} {at0 : Int} (ha : 0 ≤ at0) (hal : at0 ≤ 1000000) (hl : t.length ≤ 1000000) (hv : vec.length ≤ 1000000) : ∀ (r m : List Et), t = m ++ r ->
  ∃ e : Int, E.L 57 3 [.int .i64 at0, .rop (.ro 2 (vec.map enV)) 0, .bool false, .ro 2 (t.map enV), .int .i64 t.length, .int .i64 m.length] [] = some ((if fitL vec r (at0 + m.length) then .exit 0 else .ret, [.int .i64 at0, .rop (.ro 2 (vec.map enV)) 0, .bool false, .ro 2 (t.map enV), .int .i64 t.length, .int .i64 e], []), True) := by
 intro r
 induction r with
 | nil =>
  intro m h
  rw [List.append_nil] at h
  subst h
  refine ⟨t.length, ?_⟩
  rw [l57_3]
  simp (maxSteps := 100000000) only [ivc, anf, nilR, eq_self, Nat.reduceEqDiff, Nat.reduceLT, Nat.reduceBEq, reduceCtorEq, ↓reduceIte, tyb, Int.lt_irrefl, fitL]
 | cons s r ih =>
  intro m h
  have hn : m.length + (r.length + 1) = t.length := by rw [h]; simp
  have hi' : (m.length : Int) < t.length := by omega
  have hg := getD_map (f := enV) (show t[m.length]? = some s by rw [h]; simp)
  have hw : IntKind.i64.wrap ((m.length : Int) + 1) = m.length + 1 := wrap_id (by omega) (by omega)
  have hw2 : IntKind.i64.wrap (at0 + m.length) = at0 + m.length := wrap_id (by omega) (by omega)
  have hc : (0 ≤ (m.length : Int)) = True := eq_true (by omega)
  have hc2 : (0 ≤ at0 + (m.length : Int)) = True := eq_true (by omega)
  by_cases h1 : 0 ≤ s.s
  ·by_cases h2 : at0 + (m.length : Int) < vec.length
   ·have gv : (vec.map enV).getD (at0 + (m.length : Int)).toNat .junk = .agg [.int .i64 (vec.getD (at0 + (m.length : Int)).toNat ⟨0, 0⟩).s, .int .i64 (vec.getD (at0 + (m.length : Int)).toNat ⟨0, 0⟩).m] := by
     have : (at0 + (m.length : Int)).toNat < vec.length := by omega
     simp [List.getD_eq_getElem?_getD, List.getElem?_eq_getElem this, enV]
    by_cases h3 : 0 ≤ (vec.getD (at0 + (m.length : Int)).toNat ⟨0, 0⟩).s
    ·have hf : fitL vec (s :: r) (at0 + m.length) = false := by rw [fitL, if_pos ⟨h1, h2, h3⟩]
     refine ⟨m.length, ?_⟩
     rw [hf, l57_3]
     simp (maxSteps := 100000000) only [ivc, anf, vop, vlen, vbuiltin, nilR, salloc, eq_self, Nat.reduceEqDiff, Nat.reduceLT, Nat.reduceLeDiff, Nat.reduceAdd, Nat.reduceBEq, reduceCtorEq, ↓reduceIte, tyb, enV, hi', hg, hw2, hc, hc2, h1, h2, gv, h3]
    ·have hf : fitL vec (s :: r) (at0 + m.length) = fitL vec r (at0 + m.length + 1) := by rw [fitL, if_neg (fun h => h3 h.2.2)]
     obtain ⟨e, ih'⟩ := ih (m ++ [s]) (by simp [h])
     refine ⟨e, ?_⟩
     simp only [List.length_append, List.length_cons, List.length_nil, Nat.zero_add, Int.natCast_add, Int.cast_ofNat_Int, <- Int.add_assoc] at ih'
     rw [hf, l57_3]
     simp (maxSteps := 100000000) only [ivc, anf, vop, vlen, vbuiltin, nilR, salloc, eq_self, Nat.reduceEqDiff, Nat.reduceLT, Nat.reduceLeDiff, Nat.reduceAdd, Nat.reduceBEq, reduceCtorEq, ↓reduceIte, tyb, enV, hi', hg, hw, hw2, hc, hc2, h1, h2, gv, h3, ih']
   ·have hf : fitL vec (s :: r) (at0 + m.length) = fitL vec r (at0 + m.length + 1) := by rw [fitL, if_neg (fun h => h2 h.2.1)]
    obtain ⟨e, ih'⟩ := ih (m ++ [s]) (by simp [h])
    refine ⟨e, ?_⟩
    simp only [List.length_append, List.length_cons, List.length_nil, Nat.zero_add, Int.natCast_add, Int.cast_ofNat_Int, <- Int.add_assoc] at ih'
    rw [hf, l57_3]
    simp (maxSteps := 100000000) only [ivc, anf, vop, vlen, vbuiltin, nilR, salloc, eq_self, Nat.reduceEqDiff, Nat.reduceLT, Nat.reduceLeDiff, Nat.reduceAdd, Nat.reduceBEq, Int.reduceLE, reduceCtorEq, ↓reduceIte, tyb, enV, hi', hg, hw, hw2, hc, hc2, h1, h2, ih']
  ·have hf : fitL vec (s :: r) (at0 + m.length) = fitL vec r (at0 + m.length + 1) := by rw [fitL, if_neg (fun h => h1 h.1)]
   obtain ⟨e, ih'⟩ := ih (m ++ [s]) (by simp [h])
   refine ⟨e, ?_⟩
   simp only [List.length_append, List.length_cons, List.length_nil, Nat.zero_add, Int.natCast_add, Int.cast_ofNat_Int, <- Int.add_assoc] at ih'
   rw [hf, l57_3]
   simp (maxSteps := 100000000) only [ivc, anf, vop, vlen, vbuiltin, nilR, salloc, eq_self, Nat.reduceEqDiff, Nat.reduceLT, Nat.reduceLeDiff, Nat.reduceAdd, Nat.reduceBEq, Int.reduceLE, reduceCtorEq, ↓reduceIte, tyb, enV, hi', hg, hw, hw2, hc, hc2, h1, ih']
theorem fits_ev {vec t : List Et} {at0 : Int} (ha : 0 ≤ at0) (hal : at0 ≤ 1000000) (hl : t.length ≤ 1000000) (hv : vec.length ≤ 1000000) : E.F 57 [.ro 2 (t.map enV), .int .i64 at0, .rop (.ro 2 (vec.map enV)) 0] [] = some ((.bool (fitL vec t at0), []), True) := by
 obtain ⟨e, h⟩ := fits_loop ha hal hl hv t [] rfl
 simp only [List.length_nil, Int.natCast_zero, Int.add_zero] at h
 rw [e57]
 by_cases hf : fitL vec t at0 = true
 ·rw [hf]
  simp only [hf, if_true] at h
  simp (maxSteps := 100000000) only [ivc, anf, vlen, vbuiltin, eq_self, Nat.reduceEqDiff, Nat.reduceLT, Nat.reduceLeDiff, Nat.reduceAdd, Nat.reduceBEq, reduceCtorEq, ↓reduceIte, tyb, h]
 ·have hf' : fitL vec t at0 = false := by simpa using hf
  rw [hf']
  simp only [hf', Bool.false_eq_true, if_false] at h
  simp (maxSteps := 100000000) only [ivc, anf, vlen, vbuiltin, eq_self, Nat.reduceEqDiff, Nat.reduceLT, Nat.reduceLeDiff, Nat.reduceAdd, Nat.reduceBEq, reduceCtorEq, ↓reduceIte, tyb, h]
end Go.Proofs.YtikppcfabnnhfaaDoor

namespace Go.Proofs.YtikppcfabnnhfaaDoor
open Go Go.Aw
noncomputable def givP : FuncId -> List AV -> HL -> Option ((AV × HL) × Prop) := fun f a l => E.F f a l
noncomputable def ANP : Go.Aw.An := mkAn [12, 13, 20, 23, 26, 27, 30, 32, 33, 38, 41, 42, 47, 48, 50, 54, 57, 58, 60, 61, 62, 65, 67, 69, 71, 72, 75, 80, 81, 84, 85, 86, 87, 93] [15, 28, 31, 36, 37, 53, 63, 66, 78, 82, 83] [59]
 [24, 59]
 [(24, 20, [1, 2, 8, 9, 10, 13, 26, 27, 72, 73, 74]), (24, 13, [1, 2, 8, 9, 10, 12, 13, 26, 27]), (24, 9, [1, 2, 8, 9, 10, 26, 27]), (59, 9, [7, 8])]
 [(24, 20, [(0, [], 1), (3, [], 1), (8, [], 2), (2, [0], 2)]), (24, 13, [(0, [], 1), (3, [], 1), (5, [], 2), (2, [0], 2)]), (24, 9, [(0, [], 1), (3, [], 1), (2, [0], 2)]), (59, 9, [(0, [], 2)])]
 []
 [(24, [(0, [], 2), (1, [], 1)]), (59, [(0, [], 2)])]
 [24, 59]
 [(24, 17, ([65, 1000014, 1000066], false, [8], [some 66])), (59, 9, ([], false, [], []))] [] [(59, 7), (59, 9)] givP
noncomputable abbrev EP : Sig := ev Tryd.prog G ANP
theorem ok24P : fchk Tryd.prog ANP 24 = true := by kernel_rfl
theorem ok59P : fchk Tryd.prog ANP 59 = true := by kernel_rfl
theorem evokP : EvOk Tryd.prog G ANP where
 chk f h := by
  have h : [24, 59].contains f = true := h
  have h := List.contains_iff_mem.1 h
  simp only [List.mem_cons, List.mem_nil_iff, or_false] at h
  rcases h with rfl | rfl
  ·exact ok24P
  ·exact ok59P
 pureG g := by
  by_cases h : g = 0
  ·subst h; exact .inl (by kernel_rfl)
  ·exact .inr (if_neg h)
 mixed := by kernel_rfl
 giv f a l r l' φ h hφ := ev_sound evok h hφ
theorem acpP : ∀ f k, ANP.cp f k = has2 f k [(59, 7), (59, 9)] := fun _ _ => rfl
set_option maxRecDepth 100000
theorem anf0P : (ANP.bor 24 = false) /\ (ANP.pur 24 = false) /\ (ANP.ro 24 = false) /\ (ANP.frz 24 = true) /\ (ANP.fra 24 = false) /\ (ANP.res 24 = [(0, [], 2), (1, [], 1)]) /\ (ANP.bor 26 = true) /\ (ANP.pur 26 = false) /\ (ANP.ro 26 = false) /\ (ANP.frz 26 = false) /\ (ANP.fra 26 = false) /\ (ANP.res 26 = []) /\ (ANP.bor 55 = false) /\ (ANP.pur 55 = false) /\ (ANP.ro 55 = false) /\ (ANP.frz 55 = false) /\ (ANP.fra 55 = false) /\ (ANP.res 55 = []) /\ (ANP.bor 57 = true) /\ (ANP.pur 57 = false) /\ (ANP.ro 57 = false) /\ (ANP.frz 57 = false) /\ (ANP.fra 57 = false) /\ (ANP.res 57 = []) /\ (ANP.bor 58 = true) /\ (ANP.pur 58 = false) /\ (ANP.ro 58 = false) /\ (ANP.frz 58 = false) /\ (ANP.fra 58 = false) /\ (ANP.res 58 = []) /\ (ANP.bor 59 = false) /\ (ANP.pur 59 = false) /\ (ANP.ro 59 = true) /\ (ANP.frz 59 = true) /\ (ANP.fra 59 = false) /\ (ANP.res 59 = [(0, [], 2)]) /\ (ANP.bor 79 = false) /\ (ANP.pur 79 = false) /\ (ANP.ro 79 = false) /\ (ANP.frz 79 = false) /\ (ANP.fra 79 = false) /\ (ANP.res 79 = []) /\ (ANP.dr 24 17 = some ([65, 1000014, 1000066], false, [8], [some 66])) /\ (ANP.dr 59 9 = some ([], false, [], [])) /\ (ANP.keep 24 20 = some [1, 2, 8, 9, 10, 13, 26, 27, 72, 73, 74]) /\ (ANP.fix 24 20 = [(0, [], 1), (3, [], 1), (8, [], 2), (2, [0], 2)]) /\ (ANP.frl 24 20 = false) /\ (ANP.keep 24 13 = some [1, 2, 8, 9, 10, 12, 13, 26, 27]) /\ (ANP.fix 24 13 = [(0, [], 1), (3, [], 1), (5, [], 2), (2, [0], 2)]) /\ (ANP.frl 24 13 = false) /\ (ANP.keep 24 9 = some [1, 2, 8, 9, 10, 26, 27]) /\ (ANP.fix 24 9 = [(0, [], 1), (3, [], 1), (2, [0], 2)]) /\ (ANP.frl 24 9 = false) /\ (ANP.keep 59 9 = some [7, 8]) /\ (ANP.fix 59 9 = [(0, [], 2)]) /\ (ANP.frl 59 9 = false) := by and_intros <;> kernel_rfl
theorem anfP : type_of% @anf0P /\ type_of% @acpP := ⟨@anf0P, @acpP⟩
variable (a v : List AV) (l : HL)
theorem l24_20P : type_of% (ev_lp ANP G 24 20 92 [1, 2, 8, 9, 10, 13, 26, 27, 72, 73, 74] (by kernel_rfl) Tryd.func24 rfl rfl rfl (by kernel_rfl) v l) :=
 ev_lp ANP G 24 20 92 [1, 2, 8, 9, 10, 13, 26, 27, 72, 73, 74] (by kernel_rfl) Tryd.func24 rfl rfl rfl (by kernel_rfl) v l
theorem l24_13P : type_of% (ev_lp ANP G 24 13 92 [1, 2, 8, 9, 10, 12, 13, 26, 27] (by kernel_rfl) Tryd.func24 rfl rfl rfl (by kernel_rfl) v l) :=
 ev_lp ANP G 24 13 92 [1, 2, 8, 9, 10, 12, 13, 26, 27] (by kernel_rfl) Tryd.func24 rfl rfl rfl (by kernel_rfl) v l
theorem l24_9P : type_of% (ev_lp ANP G 24 9 92 [1, 2, 8, 9, 10, 26, 27] (by kernel_rfl) Tryd.func24 rfl rfl rfl (by kernel_rfl) v l) :=
 ev_lp ANP G 24 9 92 [1, 2, 8, 9, 10, 26, 27] (by kernel_rfl) Tryd.func24 rfl rfl rfl (by kernel_rfl) v l
theorem l59_9P : type_of% (ev_lp ANP G 59 9 48 [7, 8] (by kernel_rfl) Tryd.func59 rfl rfl rfl (by kernel_rfl) v l) :=
 ev_lp ANP G 59 9 48 [7, 8] (by kernel_rfl) Tryd.func59 rfl rfl rfl (by kernel_rfl) v l
theorem e24P : type_of% (ev_fn ANP G 24 92 [.tmp 4, .tmp 5, .tmp 6] (by kernel_rfl) Tryd.func24 rfl rfl rfl a l) :=
 ev_fn ANP G 24 92 [.tmp 4, .tmp 5, .tmp 6] (by kernel_rfl) Tryd.func24 rfl rfl rfl a l
theorem e59P : type_of% (ev_fn ANP G 59 48 [.tmp 4] (by kernel_rfl) Tryd.func59 rfl rfl rfl a l) :=
 ev_fn ANP G 59 48 [.tmp 4] (by kernel_rfl) Tryd.func59 rfl rfl rfl a l
theorem gv26P : EP.F 26 a l = E.F 26 a l := ev_giv (by kernel_rfl) a l
theorem gv55P : EP.F 55 a l = E.F 55 a l := ev_giv (by kernel_rfl) a l
theorem gv57P : EP.F 57 a l = E.F 57 a l := ev_giv (by kernel_rfl) a l
theorem gv58P : EP.F 58 a l = E.F 58 a l := ev_giv (by kernel_rfl) a l
theorem gv79P : EP.F 79 a l = E.F 79 a l := ev_giv (by kernel_rfl) a l
end Go.Proofs.YtikppcfabnnhfaaDoor

/- Pack. -/
namespace Go.Proofs.YtikppcfabnnhfaaDoor
open Go Go.Aw
set_option linter.unusedSimpArgs false
set_option linter.unusedVariables false
set_option maxRecDepth 100000
set_option maxHeartbeats 40000000
theorem rep2P_loop {x : Et} {n : Nat} (hn : n ≤ 1000000) : ∀ (s k d : Nat), k ≤ s -> d + k = n -> (k = 0 \/ 1 ≤ d) ->
  EP.L 59 9 [.sl 60000 0 n, .int .i64 d] (rp2H x d k) = some ((.exit 0, [.sl 60000 0 n, .int .i64 n], rp2H x n 0), True) := by
 intro s
 induction s with
 | zero =>
  intro k d hk h hd
  have hk0 : k = 0 := by omega
  subst hk0
  have hd0 : d = n := by omega
  subst hd0
  have q : ((d : Int) < d) = False := eq_false (by omega)
  rw [l59_9P]
  simp (maxSteps := 100000000) only [ivc, vlen, vbuiltin, nilR, eq_self, Nat.reduceEqDiff, Nat.reduceLT, Nat.reduceLeDiff, Nat.reduceAdd, Nat.reduceBEq, reduceCtorEq, ↓reduceIte, anfP, tyb, rp2H, q]
 | succ s ih =>
  intro k d hk h hd
  by_cases hk0 : k = 0
  ·exact ih k d (by omega) h hd
  have hlen := rpL_len (x := x) (z := (⟨0, 0⟩ : Et)) (d := d) (k := k)
  have q : ((d : Int) < n) = True := eq_true (by omega)
  have q2 : (0 ≤ (d : Int)) = True := eq_true (by omega)
  have q3 : ((d : Int) ≤ n) = True := eq_true (by omega)
  have nd : n - d = k := by omega
  have hw : IntKind.i64.wrap ((d : Int) + (min d k : Nat)) = d + (min d k : Nat) := wrap_id (by omega) (by omega)
  have ih' := ih (k - min d k) (d + min d k) (by omega) (by omega) (by omega)
  simp only [rp2H, Int.natCast_add] at ih'
  have hd' : 1 ≤ d := by omega
  rw [l59_9P]
  simp (maxSteps := 100000000) only [ivc, vop, vslice, vlen, vbuiltin, nilR, eq_self, Nat.reduceEqDiff, Nat.reduceLT, Nat.reduceLeDiff, Nat.reduceAdd, Nat.reduceBEq, Int.reduceLE, Int.reduceToNat, reduceCtorEq, implies_true, ↓reduceIte, anfP, tyb, rp2H, q, q2, q3, nd, hw, cp_en, rp_take, rp_take2, rp_drop, rp_join, List.length_replicate, ih']
  exact some_true (by omega)
theorem rep2P_ev {x : Et} {n : Nat} (hn : n ≤ 1000000) : EP.F 59 [.sl 100000 0 1, .int .i64 n] [(100000, ⟨false, 2, [.agg [.int .i64 x.s, .int .i64 x.m]]⟩)] = some ((.ro 2 ((List.replicate n x).map enV), [(100000, ⟨false, 2, [.agg [.int .i64 x.s, .int .i64 x.m]]⟩)]), True) := by
 have a := mul79_ev (y := n) (by omega) (by omega)
 have q : ((n : Int) < 0) = False := eq_false (by omega)
 have q2 : ((9223372036854775807 : Int) < n) = False := eq_false (by omega)
 have w1 := u64id (y := n) (by omega) (by omega)
 have w2 : IntKind.i64.wrap n = n := wrap_id (by omega) (by omega)
 have h := rep2P_loop (x := x) hn n (n - min 1 n) (min 1 n) (by omega) (by omega) (by omega)
 simp only [rp2H, rp_done] at h
 have f1 : List.take n [AV.agg [.int .i64 x.s, .int .i64 x.m]] ++ List.drop (min 1 n) (List.replicate n (AV.agg [.int .i64 0, .int .i64 0])) = _ := rp_first (f := enV) (x := x) (z := (⟨0, 0⟩ : Et)) (n := n)
 have w3 := u64id (y := 1) (by omega) (by omega)
 have tk : List.take n (List.map enV (List.replicate n x)) = List.map enV (List.replicate n x) := List.take_of_length_le (by simp)
 rw [e59P]
 simp (maxSteps := 100000000) only [ivc, vop, vlen, vbuiltin, nilR, salloc, eq_self, Nat.reduceEqDiff, Nat.reduceLT, Nat.reduceLeDiff, Nat.reduceAdd, Nat.reduceMul, Nat.reduceBEq, Int.reduceLT, reduceCtorEq, ↓reduceIte, anfP, gv79P, tyb, q, q2, a, w1, w2, w3, f1, h, tk]
 refine some_true ?_
 exact ⟨by omega, fun e he => by rw [List.eq_of_mem_replicate he]; rfl⟩
theorem getSl {l : List Et} {i : Nat} (h : i < l.length) : (l.map enV).getD i .junk = .agg [.int .i64 (l.getD i ⟨0, 0⟩).s, .int .i64 (l.getD i ⟨0, 0⟩).m] := by
 simp [List.getD_eq_getElem?_getD, List.getElem?_eq_getElem h, enV]
def okA (offs : List Int) (vec t : List Et) (a : Int) : Bool := !(offs.contains a) && fitL vec t a
def fAt (ok : Int -> Bool) : Nat -> Int -> Int
 | 0, a => a
 | k + 1, a => if ok a = true then a else fAt ok k (a + 1)
theorem fitL_far {vec : List Et} : ∀ {r : List Et} {p : Int}, (vec.length : Int) ≤ p -> fitL vec r p = true
 | [], _, _ => rfl
 | s :: r, p, h => by
  rw [fitL, if_neg (by omega)]
  exact fitL_far (r := r) (by omega)
def pkT (w : Wd) (offs : List Int) (vec t : List Et) : HL := [(60000, ⟨true, 3, [wdV w]⟩), (60001, ⟨true, 1, [.sl 60004 0 vec.length]⟩), (60002, iR offs), (60003, ⟨false, 2, t.map enV⟩), (60004, ⟨false, 2, vec.map enV⟩)]
def pkF : AV := .fn (Fn.func 57) [] [.ptr 60001 0 0]
theorem at_loop {w : Wd} {cs offs : List Int} {vec t : List Et} {nc ci : Int} {B : Int} (ho : ∀ o ∈ offs, o < B) (hv : vec.length ≤ B) (hB : B ≤ 900000) (hol : offs.length ≤ 1000) (htl : t.length ≤ 1000) : ∀ (k : Nat) (a : Int), 0 ≤ a -> a + k = B ->
  EP.L 24 13 [.ro 1 (cs.map (AV.int .i64)), .ptr 60000 0 0, .ptr 60001 0 0, .sl 60002 0 offs.length, pkF, .sl 60003 0 t.length, .int .i64 a, .int .i64 nc, .int .i64 ci] (pkT w offs vec t)
  = some ((.exit 2, [.ro 1 (cs.map (AV.int .i64)), .ptr 60000 0 0, .ptr 60001 0 0, .sl 60002 0 offs.length, pkF, .sl 60003 0 t.length, .int .i64 (fAt (okA offs vec t) k a), .int .i64 nc, .int .i64 ci], pkT w offs vec t), True) := by
 intro k
 induction k with
 | zero =>
  intro a h0 h
  have c1 := contains_ev (l := offs) (x := a) (by omega)
  have c2 := fits_ev (vec := vec) (t := t) (at0 := a) h0 (by omega) (by omega) (by omega)
  have d1 : offs.contains a = false := by
   cases hc : offs.contains a with
   | false => rfl
   | true =>
    have := ho a (by simpa using hc)
    omega
  rw [d1] at c1
  rw [fitL_far (by omega)] at c2
  rw [l24_13P]
  simp (maxSteps := 100000000) only [ivc, vop, eq_self, Nat.reduceEqDiff, Nat.reduceLT, Nat.reduceLeDiff, Nat.reduceAdd, Nat.reduceBEq, reduceCtorEq, ↓reduceIte, anfP, gv58P, gv57P, pkT, pkF, iR, wdV, c1, c2, fAt]
 | succ k ih =>
  intro a h0 h
  have c1 := contains_ev (l := offs) (x := a) (by omega)
  have c2 := fits_ev (vec := vec) (t := t) (at0 := a) h0 (by omega) (by omega) (by omega)
  have hw : IntKind.i64.wrap (a + 1) = a + 1 := wrap_id (by omega) (by omega)
  have ih' := ih (a + 1) (by omega) (by omega)
  simp only [pkT, pkF, iR, wdV] at ih'
  rw [l24_13P]
  cases d1 : offs.contains a with
  | true =>
   have e : fAt (okA offs vec t) (k + 1) a = fAt (okA offs vec t) k (a + 1) := by
    rw [fAt, if_neg]
    unfold okA
    rw [d1]
    simp
   rw [e]
   rw [d1] at c1
   simp (maxSteps := 100000000) only [ivc, vop, nilR, eq_self, Nat.reduceEqDiff, Nat.reduceLT, Nat.reduceLeDiff, Nat.reduceAdd, Nat.reduceBEq, reduceCtorEq, ↓reduceIte, anfP, gv58P, tyb, pkT, pkF, iR, wdV, c1, hw, ih']
  | false =>
   rw [d1] at c1
   cases d2 : fitL vec t a with
   | true =>
    have e : fAt (okA offs vec t) (k + 1) a = a := by
     rw [fAt, if_pos]
     unfold okA
     rw [d1, d2]
     rfl
    rw [e]
    rw [d2] at c2
    simp (maxSteps := 100000000) only [ivc, vop, eq_self, Nat.reduceEqDiff, Nat.reduceLT, Nat.reduceLeDiff, Nat.reduceAdd, Nat.reduceBEq, reduceCtorEq, ↓reduceIte, anfP, gv58P, gv57P, pkT, pkF, iR, wdV, c1, c2]
   | false =>
    have e : fAt (okA offs vec t) (k + 1) a = fAt (okA offs vec t) k (a + 1) := by
     rw [fAt, if_neg]
     unfold okA
     rw [d2]
     simp
    rw [e]
    rw [d2] at c2
    simp (maxSteps := 100000000) only [ivc, vop, nilR, eq_self, Nat.reduceEqDiff, Nat.reduceLT, Nat.reduceLeDiff, Nat.reduceAdd, Nat.reduceBEq, reduceCtorEq, ↓reduceIte, anfP, gv58P, gv57P, tyb, pkT, pkF, iR, wdV, c1, c2, hw, ih']
def putL : List Et -> Int -> List Et -> List Et
 | [], _, v => v
 | s :: r, p, v => putL r (p + 1) (if 0 ≤ s.s then v.set p.toNat s else v)
theorem putL_len : ∀ {r : List Et} {p : Int} {v : List Et}, (putL r p v).length = v.length
 | [], _, _ => rfl
 | s :: r, p, v => by
  rw [putL, putL_len]
  split
  ·exact List.length_set
  ·rfl
theorem put_loop {w : Wd} {cs offs : List Int} {t : List Et} {nc ci a : Int} (h0 : 0 ≤ a) (hB : a ≤ 900000) (htl : t.length ≤ 1000) : ∀ (r m vec : List Et), t = m ++ r -> (r = [] \/ a + t.length ≤ vec.length) ->
  EP.L 24 20 [.ro 1 (cs.map (AV.int .i64)), .ptr 60000 0 0, .ptr 60001 0 0, .sl 60002 0 offs.length, pkF, .int .i64 a, .int .i64 nc, .int .i64 ci, .sl 60003 0 t.length, .int .i64 t.length, .int .i64 m.length] (pkT w offs vec t)
  = some ((.exit 4, [.ro 1 (cs.map (AV.int .i64)), .ptr 60000 0 0, .ptr 60001 0 0, .sl 60002 0 offs.length, pkF, .int .i64 a, .int .i64 nc, .int .i64 ci, .sl 60003 0 t.length, .int .i64 t.length, .int .i64 t.length], pkT w offs (putL r (a + m.length) vec) t), True) := by
 intro r
 induction r with
 | nil =>
  intro m vec h hv
  rw [List.append_nil] at h
  subst h
  rw [l24_20P]
  simp (maxSteps := 100000000) only [ivc, nilR, eq_self, Nat.reduceEqDiff, Nat.reduceLT, Nat.reduceLeDiff, Nat.reduceAdd, Nat.reduceBEq, reduceCtorEq, ↓reduceIte, anfP, tyb, pkT, pkF, iR, wdV, Int.lt_irrefl, putL]
 | cons s r ih =>
  intro m vec h hv
  have hv' : a + t.length ≤ vec.length := hv.elim (fun h => by cases h) id
  have hn : m.length + (r.length + 1) = t.length := by rw [h]; simp
  have hi' : (m.length : Int) < t.length := by omega
  have hg := getD_map (f := enV) (show t[m.length]? = some s by rw [h]; simp)
  have hw : IntKind.i64.wrap ((m.length : Int) + 1) = m.length + 1 := wrap_id (by omega) (by omega)
  have hw2 : IntKind.i64.wrap (a + m.length) = a + m.length := wrap_id (by omega) (by omega)
  have hc : (0 ≤ (m.length : Int)) = True := eq_true (by omega)
  have hc2 : (0 ≤ a + (m.length : Int) /\ a + (m.length : Int) < vec.length) = True := eq_true (by omega)
  have g2 := getSl (l := vec) (i := (a + (m.length : Int)).toNat) (by omega)
  have g3 : (vec.map enV).set (a + (m.length : Int)).toNat (.agg [.int .i64 s.s, .int .i64 s.m]) = (vec.set (a + (m.length : Int)).toNat s).map enV := set_map (f := enV)
  by_cases h1 : 0 ≤ s.s
  ·have ih' := ih (m ++ [s]) (vec.set (a + m.length).toNat s) (by simp [h]) (.inr (by rw [List.length_set]; exact hv'))
   simp only [List.length_append, List.length_cons, List.length_nil, Nat.zero_add, Int.natCast_add, Int.cast_ofNat_Int, pkT, pkF, iR, wdV, List.length_set, putL_len, <- Int.add_assoc] at ih'
   rw [l24_20P]
   simp (maxSteps := 100000000) only [ivc, vop, nilR, salloc, eq_self, Nat.reduceEqDiff, Nat.reduceLT, Nat.reduceLeDiff, Nat.reduceAdd, Nat.reduceBEq, reduceCtorEq, ↓reduceIte, anfP, tyb, pkT, pkF, iR, wdV, enV, hi', hg, hw, hw2, hc, hc2, g2, g3, h1, ih', putL, putL_len, List.length_set]
  ·have ih' := ih (m ++ [s]) vec (by simp [h]) (.inr hv')
   simp only [List.length_append, List.length_cons, List.length_nil, Nat.zero_add, Int.natCast_add, Int.cast_ofNat_Int, pkT, pkF, iR, wdV, putL_len, <- Int.add_assoc] at ih'
   rw [l24_20P]
   simp (maxSteps := 100000000) only [ivc, vop, nilR, salloc, eq_self, Nat.reduceEqDiff, Nat.reduceLT, Nat.reduceLeDiff, Nat.reduceAdd, Nat.reduceBEq, reduceCtorEq, ↓reduceIte, anfP, tyb, pkT, pkF, iR, wdV, enV, hi', hg, hw, hc, h1, ih', putL, putL_len]
def topM (offs : List Int) (vec : List Et) : Int := offs.foldl (fun n o => max n (o + 1)) vec.length
theorem top_fold : ∀ {offs : List Int} {n : Int}, n ≤ offs.foldl (fun n o => max n (o + 1)) n /\ ∀ o ∈ offs, o < offs.foldl (fun n o => max n (o + 1)) n
 | [], n => ⟨Int.le_refl _, fun _ h => by cases h⟩
 | x :: offs, n => by
  obtain ⟨h1, h2⟩ := top_fold (offs := offs) (n := max n (x + 1))
  rw [List.foldl_cons]
  refine ⟨by omega, fun o ho => ?_⟩
  rcases List.mem_cons.1 ho with rfl | ho
  ·omega
  ·exact h2 o ho
theorem top_le {N : Int} : ∀ {offs : List Int} {n : Int}, n ≤ N -> (∀ o ∈ offs, o < N) -> offs.foldl (fun n o => max n (o + 1)) n ≤ N
 | [], _, h, _ => h
 | x :: offs, n, h, ho => by
  rw [List.foldl_cons]
  exact top_le (offs := offs) (by have := ho x (by simp); omega) (fun o h => ho o (by simp [h]))
theorem fAt_rng {ok : Int -> Bool} : ∀ {k : Nat} {a : Int}, a ≤ fAt ok k a /\ fAt ok k a ≤ a + k
 | 0, a => by simp [fAt]
 | k + 1, a => by
  obtain ⟨h1, h2⟩ := fAt_rng (ok := ok) (k := k) (a := a + 1)
  rw [fAt]
  split <;> omega
def growM (vec t : List Et) (a : Int) : List Et := if 0 < t.length /\ (vec.length : Int) < a + t.length then vec ++ reN (a + t.length - vec.length).toNat else vec
def placeA (offs : List Int) (vec t : List Et) : Int := fAt (okA offs vec t) (topM offs vec).toNat 0
def packM (cs : List Int) : List (List Et) -> List Et × List Int -> List Et × List Int
 | [], p => p
 | c :: r, p => packM cs r (putL (tblM cs c) (placeA p.2 p.1 (tblM cs c)) (growM p.1 (tblM cs c) (placeA p.2 p.1 (tblM cs c))), p.2 ++ [placeA p.2 p.1 (tblM cs c)])
theorem growM_len {vec t : List Et} {a : Int} (h0 : 0 ≤ a) : (vec.length ≤ (growM vec t a).length) /\ (t = [] \/ a + t.length ≤ ((growM vec t a).length : Int)) /\ ((growM vec t a).length : Int) ≤ max (vec.length : Int) (a + t.length) := by
 unfold growM
 split
 ·simp only [List.length_append, reN, List.length_replicate]
  omega
 ·rename_i h
  refine ⟨Nat.le_refl _, ?_, by omega⟩
  by_cases ht : t.length = 0
  ·exact .inl (List.eq_nil_of_length_eq_zero ht)
  ·exact .inr (by omega)
theorem tbl_len {cs : List Int} {c : List Et} (h : ∀ e ∈ c, hasC cs e) : (tblM cs c).length ≤ 500 := by
 obtain ⟨_, a2, _⟩ := tsM_rng (n := 0) h (by omega) (by omega)
 rw [tblM, tuM_len, reN, List.length_replicate]
 omega
def pkH (w : Wd) (offs : List Int) (vec : List Et) : HL := [(60000, ⟨true, 3, [wdV w]⟩), (60001, ⟨true, 1, [.sl 60003 0 vec.length]⟩), (60002, iR offs), (60003, ⟨false, 2, vec.map enV⟩)]
theorem pack_loop {w : Wd} {cs : List Int} (hcl : w.classes.length ≤ 200) (hc : ∀ c ∈ w.classes, c.length ≤ 100 /\ ∀ e ∈ c, hasC cs e) : ∀ (r m : List (List Et)) (vec : List Et) (offs : List Int), w.classes = m ++ r -> offs.length = m.length -> (∀ o ∈ offs, 0 ≤ o) -> topM offs vec ≤ 501 * m.length ->
  EP.L 24 9 [.ro 1 (cs.map (AV.int .i64)), .ptr 60000 0 0, .ptr 60001 0 0, .sl 60002 0 offs.length, pkF, .int .i64 w.classes.length, .int .i64 m.length] (pkH w offs vec)
  = some ((.exit 0, [.ro 1 (cs.map (AV.int .i64)), .ptr 60000 0 0, .ptr 60001 0 0, .sl 60002 0 (packM cs r (vec, offs)).2.length, pkF, .int .i64 w.classes.length, .int .i64 w.classes.length], pkH w (packM cs r (vec, offs)).2 (packM cs r (vec, offs)).1), True) := by
 intro r
 induction r with
 | nil =>
  intro m vec offs h hol ho0 hT
  rw [List.append_nil] at h
  have q : ((w.classes.length : Int) < w.classes.length) = False := eq_false (by omega)
  rw [<- h, l24_9P]
  simp (maxSteps := 100000000) only [ivc, nilR, eq_self, Nat.reduceEqDiff, Nat.reduceLT, Nat.reduceLeDiff, Nat.reduceAdd, Nat.reduceBEq, Int.reduceNeg, reduceCtorEq, ↓reduceIte, anfP, tyb, pkH, pkF, iR, wdV, q, packM]
 | cons c r ih =>
  intro m vec offs h hol ho0 hT
  have hn : m.length + (r.length + 1) = w.classes.length := by rw [h]; simp
  have hi' : (m.length : Int) < w.classes.length := by omega
  have hm : w.classes[m.length]? = some c := by rw [h]; simp
  obtain ⟨c1, c2⟩ := hc c (List.mem_of_getElem? hm)
  have tb := table_ev (w := w) hm (by omega) c2 (by omega)
  have tl := tbl_len c2
  have hw : IntKind.i64.wrap ((m.length : Int) + 1) = m.length + 1 := wrap_id (by omega) (by omega)
  obtain ⟨t1, t2⟩ := top_fold (offs := offs) (n := (vec.length : Int))
  change (vec.length : Int) ≤ topM offs vec at t1
  change ∀ o ∈ offs, o < topM offs vec at t2
  have hpk : packM cs (c :: r) (vec, offs) = packM cs r (putL (tblM cs c) (placeA offs vec (tblM cs c)) (growM vec (tblM cs c) (placeA offs vec (tblM cs c))), offs ++ [placeA offs vec (tblM cs c)]) := rfl
  rw [hpk]
  generalize tblM cs c = t at tb tl ⊢
  have al := at_loop (w := w) (cs := cs) (nc := w.classes.length) (ci := m.length) t2 t1 (by omega) (by omega) (t := t) (by omega) (topM offs vec).toNat 0 (by omega) (by omega)
  have ar := fAt_rng (ok := okA offs vec t) (k := (topM offs vec).toNat) (a := 0)
  change EP.L 24 13 _ _ = some ((.exit 2, [_, _, _, _, _, _, .int .i64 (placeA offs vec t), _, _], _), True) at al
  change 0 ≤ placeA offs vec t /\ placeA offs vec t ≤ 0 + (topM offs vec).toNat at ar
  generalize placeA offs vec t = a at al ar ⊢
  obtain ⟨g1, g2, g3⟩ := growM_len (vec := vec) (t := t) ar.1
  have pl := put_loop (w := w) (cs := cs) (offs := offs ++ [a]) (nc := w.classes.length) (ci := m.length) (a := a) (t := t) ar.1 (by omega) (by omega) t [] (growM vec t a) rfl g2
  have ih' := ih (m ++ [c]) (putL t a (growM vec t a)) (offs ++ [a]) (by simp [h]) (by simp [hol]) (fun o ho => by
   rcases List.mem_append.1 ho with ho | ho
   ·exact ho0 o ho
   ·rw [List.mem_singleton] at ho
    omega) (by
   refine top_le (by rw [putL_len]; simp; omega) (fun o ho => ?_)
   rcases List.mem_append.1 ho with ho | ho
   ·have := t2 o ho
    simp; omega
   ·rw [List.mem_singleton] at ho
    simp; omega)
  simp only [List.length_append, List.length_cons, List.length_nil, Nat.zero_add, Int.natCast_add, Int.cast_ofNat_Int, pkH, pkF, iR, wdV, putL_len, List.map_append, List.map_cons, List.map_nil] at ih'
  simp only [List.length_append, List.length_cons, List.length_nil, Nat.zero_add, Int.add_zero, Int.cast_ofNat_Int, pkT, pkF, iR, wdV, putL_len, List.map_append, List.map_cons, List.map_nil] at pl al
  simp only [wdV] at tb
  have hw2 : IntKind.i64.wrap (a + t.length) = a + t.length := wrap_id (by omega) (by omega)
  rw [l24_9P]
  by_cases z1 : 0 < t.length
  ·have z1' : (0 < (t.length : Int)) = True := eq_true (by omega)
   by_cases z2 : (vec.length : Int) < a + t.length
   ·have hg : growM vec t a = vec ++ reN (a + t.length - vec.length).toNat := by unfold growM; rw [if_pos ⟨z1, z2⟩]
    have hw3 : IntKind.i64.wrap (a + t.length - vec.length) = a + t.length - vec.length := wrap_id (by omega) (by omega)
    have rp := rep2P_ev (x := noE) (n := (a + t.length - vec.length).toNat) (by omega)
    rw [show (((a + t.length - vec.length).toNat : Nat) : Int) = a + t.length - vec.length by omega] at rp
    change EP.F 59 [.sl 100000 0 1, _] [(100000, ⟨false, 2, [.agg [.int .i64 (-1), .int .i64 (-1)]]⟩)] = some ((.ro 2 ((reN (a + t.length - vec.length).toNat).map enV), [(100000, ⟨false, 2, [.agg [.int .i64 (-1), .int .i64 (-1)]]⟩)]), True) at rp
    have hrl : (reN (a + t.length - vec.length).toNat).length = (a + t.length - vec.length).toNat := by rw [reN, List.length_replicate]
    rw [hg] at pl ih' ⊢
    generalize reN (a + t.length - vec.length).toNat = R at rp pl ih' hrl ⊢
    simp only [List.length_append, List.map_append] at pl ih'
    simp (maxSteps := 100000000) only [ivc, vop, vlen, vbuiltin, nilR, salloc, sappend, eq_self, Nat.reduceEqDiff, Nat.reduceLT, Nat.reduceLeDiff, Nat.reduceAdd, Nat.reduceMul, Nat.reduceSub, Nat.reduceBEq, Int.reduceNeg, reduceCtorEq, ↓reduceIte, anfP, gv55P, tyb, pkH, pkF, iR, wdV, hi', hw, hw2, hw3, tb, al, z1', z2, rp, pl, ih']
    exact some_true (by omega)
   ·have hg : growM vec t a = vec := by unfold growM; rw [if_neg (fun h => z2 h.2)]
    rw [hg] at pl ih' ⊢
    simp (maxSteps := 100000000) only [ivc, vlen, vbuiltin, nilR, salloc, sappend, eq_self, Nat.reduceEqDiff, Nat.reduceLT, Nat.reduceLeDiff, Nat.reduceAdd, Nat.reduceMul, Nat.reduceBEq, Int.reduceNeg, reduceCtorEq, ↓reduceIte, anfP, gv55P, tyb, pkH, pkF, iR, wdV, hi', hw, hw2, tb, al, z1', z2, pl, ih']
    exact some_true (by omega)
  ·have z1' : (0 < (t.length : Int)) = False := eq_false (by omega)
   have hg : growM vec t a = vec := by unfold growM; rw [if_neg (fun h => z1 h.1)]
   rw [hg] at pl ih' ⊢
   simp (maxSteps := 100000000) only [ivc, vlen, vbuiltin, nilR, salloc, sappend, eq_self, Nat.reduceEqDiff, Nat.reduceLT, Nat.reduceLeDiff, Nat.reduceAdd, Nat.reduceMul, Nat.reduceBEq, Int.reduceNeg, reduceCtorEq, ↓reduceIte, anfP, gv55P, tyb, pkH, pkF, iR, wdV, hi', hw, hw2, tb, al, z1', pl, ih']
   exact some_true (by omega)
theorem pack_ev {w : Wd} {cs : List Int} (ok : ckM w = 0 -> okW w) (hcc : ckM w = 0 -> ccW (graphW w) cs = 0 -> ∀ c ∈ w.classes, ∀ e ∈ c, hasC cs e) :
  EP.F 24 [wdV w, .ro 1 (cs.map (AV.int .i64))] [] = some ((if ckM w = 0 then if ccW (graphW w) cs = 0 then .tup [.ro 2 ((packM cs w.classes ([], [])).1.map enV), .ro 1 ((packM cs w.classes ([], [])).2.map (AV.int .i64)), .int .i64 0] else .tup [.ro 2 [], .ro 1 [], .int .i64 (ccW (graphW w) cs)] else .tup [.ro 2 [], .ro 1 [], .int .i64 (ckM w)], []), True) := by
 have h1 := cc_ev (cs := cs) ok
 simp only [wdV] at h1
 by_cases h : ckM w = 0
 ·rw [if_pos h] at h1 ⊢
  by_cases h2 : ccW (graphW w) cs = 0
  ·rw [if_pos h2]
   rw [h2] at h1
   obtain ⟨o1, o2⟩ := ok h
   have lp := pack_loop (cs := cs) o1 (fun c hc => ⟨(o2 c hc).1, hcc h h2 c hc⟩) w.classes [] [] [] rfl rfl (fun o ho => by cases ho) (by simp [topM])
   generalize packM cs w.classes ([], []) = p at lp ⊢
   simp only [pkH, pkF, iR, wdV, List.length_nil, List.map_nil, Int.natCast_zero] at lp
   rw [e24P]
   simp (maxSteps := 100000000) only [ivc, vop, vlen, vbuiltin, nilR, salloc, eq_self, Nat.reduceEqDiff, Nat.reduceLT, Nat.reduceLeDiff, Nat.reduceAdd, Nat.reduceBEq, Int.reduceNeg, reduceCtorEq, ↓reduceIte, anfP, gv26P, tyb, wdV, h1, lp]
  ·rw [if_neg h2]
   have h' : (ccW (graphW w) cs != 0) = true := by simp [h2]
   generalize ccW (graphW w) cs = v at h1 h' ⊢
   rw [e24P]
   simp (maxSteps := 100000000) only [ivc, nilR, salloc, eq_self, Nat.reduceEqDiff, Nat.reduceLT, Nat.reduceLeDiff, Nat.reduceAdd, Nat.reduceBEq, Int.reduceNeg, ↓reduceIte, anfP, gv26P, tyb, wdV, h1, h']
 ·rw [if_neg h] at h1 ⊢
  have h' : (ckM w != 0) = true := by simp [h]
  rw [e24P]
  simp (maxSteps := 100000000) only [ivc, nilR, salloc, eq_self, Nat.reduceEqDiff, Nat.reduceLT, Nat.reduceLeDiff, Nat.reduceAdd, Nat.reduceBEq, Int.reduceNeg, ↓reduceIte, anfP, gv26P, tyb, wdV, h1, h']
def gwM (g : List Int) : List Et -> List Et -> List Int -> List Int -> Option (List Int × List Int)
 | [], _, out, chg => some (out, chg)
 | x :: r, p, out, chg =>
  if 0 ≤ colAt out x.s /\ (p.any fun e => colAt out e.s == colAt out x.s) = false then gwM g r (p ++ [x]) out chg
  else if 500 ≤ leastL (takW g x.s out) 0 then none
  else gwM g r (p ++ [x]) (out.set x.s.toNat (leastL (takW g x.s out) 0)) (if 0 ≤ colAt out x.s then chg ++ [x.s] else chg)
def gwV (cl : List Et) (n : Nat) (i : Int) (k : Nat) : List AV := [.ro 2 (cl.map enV), .sl 60000 0 0, .sl 60001 0 k, .int .i64 0, .ptr 60002 0 0, .ptr 60003 0 0, .ro 2 (cl.map enV), .int .i64 cl.length, .int .i64 i]
def gwH (g out chg : List Int) : HL := [(60000, iR []), (60001, iR chg), (60002, gO g), (60003, ⟨true, 1, [.sl 60004 0 out.length]⟩), (60004, iR out)]
theorem gw_loop {g : List Int} {cl : List Et} (hg : g.length = 4008) (hcl : cl.length ≤ 100) : ∀ (r m : List Et) (out chg : List Int), cl = m ++ r -> out.length ≤ 500 -> (∀ c ∈ out, c < 500) -> (∀ e ∈ cl, 0 ≤ e.s /\ e.s < out.length) -> chg.length ≤ m.length ->
  ∀ o' c', gwM g r m out chg = some (o', c') -> E.L 17 13 (gwV cl out.length m.length chg.length) (gwH g out chg) = some ((.exit 0, gwV cl out.length cl.length c'.length, gwH g o' c'), True) := by
 intro r
 induction r with
 | nil =>
  intro m out chg h ho hc hs hl o' c' hr
  cases hr
  rw [List.append_nil] at h
  have q : ((cl.length : Int) < cl.length) = False := eq_false (by omega)
  rw [<- h, l17_13]
  simp (maxSteps := 100000000) only [ivc, anf, nilR, eq_self, Nat.reduceEqDiff, Nat.reduceLT, Nat.reduceLeDiff, Nat.reduceAdd, Nat.reduceBEq, reduceCtorEq, ↓reduceIte, tyb, gwV, gwH, gO, iR, ldb, q]
 | cons x r ih =>
  intro m out chg h ho hc hs hl o' c' hr
  have hn : m.length + (r.length + 1) = cl.length := by rw [h]; simp
  have hi' : (m.length : Int) < cl.length := by omega
  have hg0 := getD_map (f := enV) (show cl[m.length]? = some x by rw [h]; simp)
  have hw : IntKind.i64.wrap ((m.length : Int) + 1) = m.length + 1 := wrap_id (by omega) (by omega)
  have hc0 : (0 ≤ (m.length : Int)) = True := eq_true (by omega)
  have hx := hs x (by rw [h]; simp)
  have q := eq_true hx
  have k1 := getI (l := out) (i := x.s.toNat) (by omega)
  have htk : cl.take m.length = m := by rw [h]; simp
  have htm : (cl.map enV).take m.length = m.map enV := by rw [<- List.map_take, htk]
  have q5 : (0 ≤ (m.length : Int) /\ (m.length : Int) ≤ cl.length) = True := eq_true (by omega)
  have a := any48_ev (l := m) (out := out) (c := colAt out x.s) (by omega) (fun e he => hs e (by rw [h]; simp [he]))
  rw [gwM] at hr
  by_cases b1 : 0 ≤ colAt out x.s /\ (m.any fun e => colAt out e.s == colAt out x.s) = false
  ·rw [if_pos b1] at hr
   have ih' := ih (m ++ [x]) out chg (by simp [h]) ho hc hs (by simp; omega) o' c' hr
   simp only [List.length_append, List.length_cons, List.length_nil, Nat.zero_add, Int.natCast_add, Int.cast_ofNat_Int, gwV, gwH, gO, iR, List.map_nil] at ih'
   have b11 := b1.1
   rw [b1.2] at a
   simp only [colAt] at a b11
   rw [l17_13]
   simp (maxSteps := 100000000) only [ivc, anf, vop, vslice, nilR, salloc, eq_self, Nat.reduceEqDiff, Nat.reduceLT, Nat.reduceLeDiff, Nat.reduceAdd, Nat.reduceBEq, Int.reduceLE, Int.reduceToNat, reduceCtorEq, implies_true, ↓reduceIte, tyb, gwV, gwH, gO, iR, enV, ldb, hi', hg0, hw, hc0, q, k1, htm, a, b11, ih']
   exact some_true (by omega)
  ·rw [if_neg b1] at hr
   split at hr
   ·cases hr
   rename_i b2
   have tk := taken_ev (g := g) (cs := out) (s := x.s) hg ⟨hx.1, by omega⟩ (by omega) (fun c h => by have := hc c h; omega)
   have hT8 : (takW g x.s out).length = 8 := takW_len
   generalize takW g x.s out = T at hr tk hT8 b2
   have le := least_ev hT8
   generalize leastL T 0 = n at hr le b2
   have t1 := take8 hT8
   have t2 := put8 hT8
   have ih' := ih (m ++ [x]) (out.set x.s.toNat n) (if 0 ≤ colAt out x.s then chg ++ [x.s] else chg) (by simp [h]) (by rw [List.length_set]; exact ho) (fun c hcc => by
    rcases List.mem_or_eq_of_mem_set hcc with hcc | hcc
    ·exact hc c hcc
    ·omega) (by rw [List.length_set]; exact hs) (by split <;> simp <;> omega) o' c' hr
   simp only [gR] at tk
   by_cases b3 : 0 ≤ colAt out x.s
   ·have b4 : (m.any fun e => colAt out e.s == colAt out x.s) = true := by
     cases hh : (m.any fun e => colAt out e.s == colAt out x.s) with
     | true => rfl
     | false => exact absurd ⟨b3, hh⟩ b1
    rw [if_pos b3] at ih'
    simp only [List.length_append, List.length_cons, List.length_nil, Nat.zero_add, Int.natCast_add, Int.cast_ofNat_Int, gwV, gwH, gO, iR, List.map_nil, List.length_set, List.map_append, List.map_cons] at ih'
    rw [b4] at a
    simp only [colAt] at a b3
    rw [l17_13]
    simp (maxSteps := 100000000) only [ivc, anf, vop, vslice, nilR, salloc, sappend, eq_self, Nat.reduceEqDiff, Nat.reduceLT, Nat.reduceLeDiff, Nat.reduceAdd, Nat.reduceMul, Nat.reduceBEq, Int.reduceLE, Int.reduceToNat, reduceCtorEq, implies_true, ↓reduceIte, tyb, ↓zrep, zs_len, t90z, gwV, gwH, gO, iR, enV, ldb, agg_flats, agg_imm, hi', hg0, hw, hc0, q, k1, htm, a, b2, b3, tk, hT8, t2, le, set_map, ih']
    exact some_true (by omega)
   ·rw [if_neg b3] at ih'
    simp only [List.length_append, List.length_cons, List.length_nil, Nat.zero_add, Int.natCast_add, Int.cast_ofNat_Int, gwV, gwH, gO, iR, List.map_nil, List.length_set] at ih'
    simp only [colAt] at a b3
    rw [l17_13]
    simp (maxSteps := 100000000) only [ivc, anf, vop, vslice, nilR, salloc, eq_self, Nat.reduceEqDiff, Nat.reduceLT, Nat.reduceLeDiff, Nat.reduceAdd, Nat.reduceMul, Nat.reduceBEq, Int.reduceLE, Int.reduceToNat, reduceCtorEq, implies_true, ↓reduceIte, tyb, ↓zrep, zs_len, t90z, gwV, gwH, gO, iR, enV, ldb, agg_flats, agg_imm, hi', hg0, hw, hc0, q, k1, htm, a, b2, b3, tk, hT8, t2, le, set_map, ih']
    exact some_true (by omega)
def moreW (w : Wd) (cl : List Et) : Wd := ⟨w.classes ++ [cl], w.bodies, w.roots⟩
def ms0 (w : Wd) (cl : List Et) (cs : List Int) : List Int := cs ++ ms (szM (graphW (moreW w cl)) 500 - cs.length)
theorem grow_ev {w : Wd} {cs : List Int} {cl : List Et} {o' c' : List Int} (hwl : w.classes.length ≤ 1000) (h1 : ckM w = 0) (ok : okW w) (h2 : ccW (graphW w) cs = 0) (h3 : ckM (moreW w cl) = 0) (ok2 : okW (moreW w cl)) (hsz : cs.length ≤ szM (graphW (moreW w cl)) 500) (hcs : ∀ c ∈ cs, c < 500) (hs : ∀ e ∈ cl, 0 ≤ e.s /\ e.s < szM (graphW (moreW w cl)) 500)
  (hr : gwM (graphW (moreW w cl)) cl [] (ms0 w cl cs) [] = some (o', c')) :
  E.F 17 [wdV w, .ro 1 (cs.map (AV.int .i64)), .ro 2 (cl.map enV)] [] = some ((.tup [.ro 1 (o'.map (AV.int .i64)), .ro 1 (c'.map (AV.int .i64)), .int .i64 0], []), True) := by
 have a1 := cc_ev (w := w) (cs := cs) (fun _ => ok)
 rw [if_pos h1, h2] at a1
 have a2 := clone45_ev (l := w.classes) (by omega)
 have a3 := check_ev (w := moreW w cl)
 rw [h3] at a3
 have a4 := graph_ev ok2
 have hg : (graphW (moreW w cl)).length = 4008 := graphW_len
 have hcl : cl.length ≤ 100 := (ok2.2 cl (by simp [moreW])).1
 have hz := szM_le (graphW (moreW w cl)) 500
 have a5 := clone46_ev (l := cs) (by omega)
 unfold ms0 at hr
 generalize graphW (moreW w cl) = g at a4 hg hr hsz hs hz
 have a6 := size_ev hg
 generalize szM g 500 = z at a6 hr hsz hs hz
 have a7 := rep_ms (n := z - cs.length) (by omega)
 have e1 : ((z - cs.length : Nat) : Int) = (z : Int) - cs.length := by omega
 have hol : (cs ++ ms (z - cs.length)).length = z := by rw [List.length_append, ms_len]; omega
 have lp := gw_loop hg hcl cl [] (cs ++ ms (z - cs.length)) [] rfl (by omega) (fun c h => by
  rcases List.mem_append.1 h with h | h
  ·exact hcs c h
  ·have := List.eq_of_mem_replicate h
   omega) (fun e he => by rw [hol]; exact hs e he) (Nat.le_refl _) o' c' hr
 rw [e1] at a7
 have hml : (ms (z - cs.length)).length = z - cs.length := ms_len
 generalize ms (z - cs.length) = M at a7 lp hml
 have hw : IntKind.i64.wrap ((z : Int) - cs.length) = z - cs.length := wrap_id (by omega) (by omega)
 have e2 : cs.length + M.length = z := by omega
 have e3 : cs.length + (z - cs.length) = z := by omega
 have tkM : List.take (z - cs.length) (M.map (AV.int .i64)) = M.map (AV.int .i64) := List.take_of_length_le (by simp [hml])
 have e4 : ((0 : Int) ≤ (z : Int) - cs.length) = True := eq_true (by omega)
 simp only [wdV] at a1
 simp only [wdV, moreW, clV, List.map_append, List.map_cons, List.map_nil] at a3 a4
 simp only [gwV, gwH, gO, gR, iR, List.length_nil, List.map_nil, Int.natCast_zero, List.length_append, List.map_append] at a4 a5 a6 a7 lp
 rw [e17]
 simp (maxSteps := 100000000) only [ivc, anf, vop, vlen, vbuiltin, nilR, salloc, sappend, eq_self, Nat.reduceEqDiff, Nat.reduceLT, Nat.reduceLeDiff, Nat.reduceAdd, Nat.reduceMul, Nat.reduceBEq, Int.reduceNeg, reduceCtorEq, ↓reduceIte, tyb, wdV, ldb, agg_imm, a1, a2, a3, a4, a5, a6, a7, lp, hw, tkM]
 exact some_true (by omega)
end Go.Proofs.YtikppcfabnnhfaaDoor

/- Plain: sizes, colours, the least one. -/
namespace Go.Proofs.YtikppcfabnnhfaaDoor
open Go Go.Aw
set_option linter.unusedSimpArgs false
set_option linter.unusedVariables false
theorem szM_spec {g : List Int} : ∀ {n : Nat}, (∀ m : Nat, szM g n ≤ m -> m < n -> hasW g 0 m = false) /\ (∀ m : Nat, szM g n = m + 1 -> hasW g 0 m = true)
 | 0 => ⟨fun m h1 h2 => by omega, fun m h => by cases h⟩
 | n + 1 => by
  by_cases h : hasW g 0 n = true
  ·have e : szM g (n + 1) = n + 1 := by rw [szM, if_pos h]
   rw [e]
   exact ⟨fun m h1 h2 => by omega, fun m hm => by cases hm; exact h⟩
  ·have e : szM g (n + 1) = szM g n := by rw [szM, if_neg h]
   obtain ⟨a, b⟩ := szM_spec (g := g) (n := n)
   rw [e]
   refine ⟨fun m h1 h2 => ?_, b⟩
   by_cases hm : m = n
   ·subst hm; simpa using h
   ·exact a m h1 (by omega)
theorem szM_lt {g : List Int} {n m : Nat} (h : hasW g 0 m = true) (hm : m < n) : m < szM g n := by
 cases Nat.lt_or_ge m (szM g n) with
 | inl h => exact h
 | inr h1 =>
  have := (szM_spec (g := g) (n := n)).1 m h1 hm
  rw [h] at this
  cases this
end Go.Proofs.YtikppcfabnnhfaaDoor

/- Plain: the least number that a set does not have. -/
namespace Go.Proofs.YtikppcfabnnhfaaDoor
open Go Go.Aw
set_option linter.unusedVariables false
set_option maxRecDepth 100000
end Go.Proofs.YtikppcfabnnhfaaDoor

/- Plain: the least number of colours. -/
namespace Go.Proofs.YtikppcfabnnhfaaDoor
open Go Go.Aw
set_option linter.unusedVariables false
def confG (g : List Int) (a b : Int) : Prop := hasW g (nb a) b = true
theorem get_D {cs : List Int} {i : Nat} (h : i < cs.length) : cs.getD i 0 = cs[i] := by
 rw [List.getD_eq_getElem?_getD, List.getElem?_eq_getElem h]; rfl
end Go.Proofs.YtikppcfabnnhfaaDoor

/- Colours. -/
namespace Go.Proofs.YtikppcfabnnhfaaDoor
open Go Go.Aw
set_option linter.unusedSimpArgs false
set_option linter.unusedVariables false
set_option maxRecDepth 100000
set_option maxHeartbeats 40000000
end Go.Proofs.YtikppcfabnnhfaaDoor

/- Plain: Least says the least number of colours. -/
namespace Go.Proofs.YtikppcfabnnhfaaDoor
open Go Go.Aw
set_option linter.unusedVariables false
structure GrOk (g : List Int) : Prop where
 sym : ∀ a b, selN a -> selN b -> confG g a b -> confG g b a
 irr : ∀ a, selN a -> ¬ confG g a a
theorem knW_le {g : List Int} : (knW g).length ≤ 500 := knI_len
/-! What the classes say. -/
theorem nodup_map_of {f : Int -> Int} : ∀ {l : List Int}, l.Nodup -> (∀ a ∈ l, ∀ b ∈ l, a ≠ b -> f a ≠ f b) -> (l.map f).Nodup
 | [], _, _ => List.nodup_nil
 | x :: l, h, hf => by
  rw [List.map_cons, List.nodup_cons]
  refine ⟨fun hm => ?_, nodup_map_of (List.nodup_cons.1 h).2 fun a ha b hb => hf a (by simp [ha]) b (by simp [hb])⟩
  obtain ⟨y, hy, he⟩ := List.mem_map.1 hm
  exact hf y (by simp [hy]) x (by simp) (fun e => (List.nodup_cons.1 h).1 (e ▸ hy)) he
end Go.Proofs.YtikppcfabnnhfaaDoor

/- Plain: how many bits a word has. -/
namespace Go.Proofs.YtikppcfabnnhfaaDoor
open Go Go.Aw
set_option linter.unusedVariables false
set_option maxRecDepth 100000
def mk (c : Nat) : Nat -> Nat
 | 0 => 0
 | n + 1 => c + 256 * mk c n
def s1 (u : Nat) : Nat := (u / 2 &&& 85) + (u &&& 85)
def s2 (u : Nat) : Nat := (u / 4 &&& 51) + (u &&& 51)
def s3 (u : Nat) : Nat := (u / 16 + u) % 16
theorem h1 : ∀ u, u < 512 -> u / 2 % 256 &&& 85 = (u % 256) / 2 &&& 85 := by decide +kernel
theorem h2 : ∀ u, u < 1024 -> u / 4 % 256 &&& 51 = (u % 256) / 4 &&& 51 := by decide +kernel
theorem h3 : ∀ v, v < 256 -> v &&& 15 = v % 16 := by decide +kernel
theorem d4 : ∀ u, u < 256 -> (s2 (s1 u) % 16 ≤ 4 /\ s2 (s1 u) / 16 ≤ 4) := by decide +kernel
end Go.Proofs.YtikppcfabnnhfaaDoor

/- Plain: how many selectors are understood. -/
namespace Go.Proofs.YtikppcfabnnhfaaDoor
open Go Go.Aw
set_option linter.unusedVariables false
set_option maxRecDepth 100000
set_option maxHeartbeats 4000000
theorem knI_app {g : List Int} : ∀ {k1 k2 : Nat} {a : Int}, knI g (k1 + k2) a = knI g k1 a ++ knI g k2 (a + k1)
 | 0, k2, a => by simp [knI]
 | k1 + 1, k2, a => by
  rw [show k1 + 1 + k2 = (k1 + k2) + 1 by omega, knI, knI_app, knI, List.append_assoc, show a + 1 + (k1 : Int) = a + ((k1 + 1 : Nat) : Int) by omega]
end Go.Proofs.YtikppcfabnnhfaaDoor

/- Plain: what a check takes; what ColourFew says. -/
namespace Go.Proofs.YtikppcfabnnhfaaDoor
open Go Go.Aw
set_option linter.unusedVariables false
structure ColsOk (g cs : List Int) : Prop where
 len : cs.length = szM g 500
 bd : ∀ c ∈ cs, -1 ≤ c /\ c < 500
 kn : ∀ i : Nat, i < cs.length -> (hasW g 0 i = true -> 0 ≤ cs.getD i 0)
 un : ∀ i : Nat, i < cs.length -> (hasW g 0 i = false -> cs.getD i 0 = -1)
 no : ∀ i j : Nat, i < cs.length -> j < cs.length -> 0 ≤ cs.getD i 0 -> cs.getD i 0 = cs.getD j 0 -> ¬ confG g i j
theorem getD_mem {l : List Int} {i : Nat} (h : i < l.length) : l.getD i 0 ∈ l := by
 rw [get_D h]; exact List.getElem_mem _
def cntO (v : List Et) : Nat := (v.filter fun e => decide (0 ≤ e.s)).length
theorem cnt_set : ∀ {v : List Et} {p : Nat} {x e : Et}, v[p]? = some e -> e.s < 0 -> 0 ≤ x.s -> cntO (v.set p x) = cntO v + 1
 | [], _, _, _, h, _, _ => by cases h
 | y :: v, 0, x, e, h, h1, h2 => by
  cases h
  simp only [cntO, List.set_cons_zero, List.filter_cons, decide_eq_true h2, decide_eq_false (show ¬ 0 ≤ y.s by omega), if_true]
  rfl
 | y :: v, p + 1, x, e, h, h1, h2 => by
  have := cnt_set (v := v) (p := p) (x := x) (e := e) (by simpa using h) h1 h2
  simp only [cntO, List.set_cons_succ, List.filter_cons] at this ⊢
  split
  ·simp only [List.length_cons, this]
  ·exact this
theorem cnt_app {v w : List Et} : cntO (v ++ w) = cntO v + cntO w := by simp [cntO, List.filter_append]
theorem cnt_no {n : Nat} : cntO (reN n) = 0 := by
 unfold cntO reN
 rw [List.length_eq_zero_iff, List.filter_eq_nil_iff]
 intro e he
 rw [List.eq_of_mem_replicate he]
 decide
theorem noE_get {n p : Nat} {e : Et} (h : (reN n)[p]? = some e) : e = noE := List.eq_of_mem_replicate (List.mem_of_getElem? h)
def injC (cs : List Int) (c : List Et) : Prop := c.Pairwise fun e f => colAt cs e.s ≠ colAt cs f.s
theorem tu_law {cs : List Int} : ∀ {r t m : List Et}, injC cs (m ++ r) -> (∀ e ∈ m ++ r, hasC cs e /\ (colAt cs e.s).toNat < t.length) ->
  (∀ e ∈ m, t[(colAt cs e.s).toNat]? = some e) -> (∀ (i : Nat) (e : Et), t[i]? = some e -> 0 ≤ e.s -> e ∈ m /\ (colAt cs e.s).toNat = i) ->
  (∀ e ∈ m ++ r, (tuM cs r t)[(colAt cs e.s).toNat]? = some e) /\ (∀ (i : Nat) (e : Et), (tuM cs r t)[i]? = some e -> 0 ≤ e.s -> e ∈ m ++ r /\ (colAt cs e.s).toNat = i) /\ cntO (tuM cs r t) = cntO t + r.length
 | [], t, m, _, _, h1, h2 => by
  rw [List.append_nil]
  exact ⟨h1, h2, rfl⟩
 | x :: r, t, m, hi, hh, h1, h2 => by
  have e1 : m ++ x :: r = (m ++ [x]) ++ r := by simp
  rw [tuM]
  rw [e1] at hi hh ⊢
  have hx := hh x (by simp)
  have hne : ∀ e ∈ m, (colAt cs e.s).toNat ≠ (colAt cs x.s).toNat := fun e he hc => by
   unfold injC at hi
   rw [List.pairwise_append] at hi
   have := (List.pairwise_append.1 hi.1).2.2 e he x (by simp)
   have a := (hh e (by simp [he])).1
   unfold hasC at a hx
   omega
  obtain ⟨k1, k2, k3⟩ := tu_law (r := r) (t := t.set (colAt cs x.s).toNat x) (m := m ++ [x]) hi (fun e he => by rw [List.length_set]; exact hh e he) (fun e he => by
    rw [List.getElem?_set]
    rcases List.mem_append.1 he with he | he
    ·rw [if_neg (fun h => hne e he h.symm)]
     exact h1 e he
    ·rw [List.mem_singleton.1 he, if_pos rfl, if_pos hx.2]) (fun i e he h0 => by
    rw [List.getElem?_set] at he
    split at he
    ·rename_i hi'
     split at he
     ·cases he
      exact ⟨by simp, hi'⟩
     ·cases he
    ·obtain ⟨a, b⟩ := h2 i e he h0
     exact ⟨by simp [a], b⟩)
  refine ⟨k1, k2, ?_⟩
  have hlt := hx.2
  have hs : (t[(colAt cs x.s).toNat]).s < 0 := by
   rcases Int.lt_or_le (t[(colAt cs x.s).toNat]).s 0 with h | h
   ·exact h
   ·obtain ⟨a, b⟩ := h2 _ _ (List.getElem?_eq_getElem hlt) h
    exact absurd b (hne _ a)
  rw [k3, cnt_set (List.getElem?_eq_getElem hlt) hs hx.1.1, List.length_cons]
  omega
structure TabOk (cs : List Int) (c t : List Et) : Prop where
 hit : ∀ e ∈ c, t[(colAt cs e.s).toNat]? = some e
 inv : ∀ (i : Nat) (e : Et), t[i]? = some e -> 0 ≤ e.s -> e ∈ c /\ (colAt cs e.s).toNat = i
 cnt : cntO t = c.length
theorem tab_law {cs : List Int} {c : List Et} (hi : injC cs c) (hh : ∀ e ∈ c, hasC cs e) : TabOk cs c (tblM cs c) := by
 obtain ⟨a, b, d⟩ := tsM_rng (n := 0) hh (by omega) (by omega)
 have := tu_law (cs := cs) (r := c) (t := reN (tsM cs c 0).toNat) (m := []) hi (fun e he => ⟨hh e he, by
  have := d e he
  have h2 := hh e he
  unfold hasC at h2
  simp only [reN, List.length_replicate]
  omega⟩) (by simp) (fun i e he h0 => by
  rw [noE_get he] at h0
  exact absurd h0 (by decide))
 rw [List.nil_append, cnt_no, Nat.zero_add] at this
 exact ⟨this.1, this.2.1, this.2.2⟩
theorem put_law : ∀ {r : List Et} {p : Nat} {v : List Et}, (r = [] \/ p + r.length ≤ v.length) -> (∀ (i : Nat) (s e : Et), r[i]? = some s -> 0 ≤ s.s -> v[p + i]? = some e -> e.s < 0) ->
  (∀ (i : Nat) (s : Et), r[i]? = some s -> 0 ≤ s.s -> (putL r p v)[p + i]? = some s) /\ (∀ (q : Nat), (∀ (i : Nat) (s : Et), r[i]? = some s -> 0 ≤ s.s -> q ≠ p + i) -> (putL r p v)[q]? = v[q]?) /\ cntO (putL r p v) = cntO v + cntO r
 | [], p, v, _, _ => by simp [putL, cntO]
 | x :: r, p, v, hl, hf => by
  have hl' : p + (r.length + 1) ≤ v.length := hl.resolve_left (by simp)
  have hp : p < v.length := by omega
  have e0 : ((p : Int)).toNat = p := by omega
  have e1 : (p : Int) + 1 = ((p + 1 : Nat) : Int) := by omega
  rw [putL, e0, e1]
  by_cases hx : 0 ≤ x.s
  ·rw [if_pos hx]
   have hfree := hf 0 x v[p] rfl hx (by rw [Nat.add_zero]; exact List.getElem?_eq_getElem hp)
   obtain ⟨k1, k2, k3⟩ := put_law (r := r) (p := p + 1) (v := v.set p x) (.inr (by rw [List.length_set]; omega)) (fun i s e hs h0 he => by
    rw [List.getElem?_set, if_neg (by omega)] at he
    exact hf (i + 1) s e (by simpa using hs) h0 (by rw [show p + (i + 1) = p + 1 + i by omega]; exact he))
   refine ⟨fun i s hs h0 => ?_, fun q hq => ?_, ?_⟩
   ·cases i with
    | zero =>
     cases hs
     have e := k2 p (fun i s _ _ => by omega)
     rw [List.getElem?_set, if_pos rfl, if_pos hp] at e
     exact e
    | succ i =>
     rw [show p + (i + 1) = p + 1 + i by omega]
     exact k1 i s (by simpa using hs) h0
   ·have hqp : q ≠ p := by have := hq 0 x rfl hx; omega
    rw [k2 q (fun i s hs h0 => by have := hq (i + 1) s (by simpa using hs) h0; omega), List.getElem?_set, if_neg (fun h => hqp h.symm)]
   ·rw [k3, cnt_set (List.getElem?_eq_getElem hp) hfree hx]
    have : cntO (x :: r) = cntO r + 1 := by simp [cntO, hx]
    omega
  ·rw [if_neg hx]
   obtain ⟨k1, k2, k3⟩ := put_law (r := r) (p := p + 1) (v := v) (.inr (by omega)) (fun i s e hs h0 he => hf (i + 1) s e (by simpa using hs) h0 (by rw [show p + (i + 1) = p + 1 + i by omega]; exact he))
   refine ⟨fun i s hs h0 => ?_, fun q hq => ?_, ?_⟩
   ·cases i with
    | zero => cases hs; exact absurd h0 hx
    | succ i =>
     rw [show p + (i + 1) = p + 1 + i by omega]
     exact k1 i s (by simpa using hs) h0
   ·exact k2 q (fun i s hs h0 => by have := hq (i + 1) s (by simpa using hs) h0; omega)
   ·rw [k3]
    have : cntO (x :: r) = cntO r := by simp [cntO, hx]
    omega
theorem fit_iff {vec : List Et} : ∀ {t : List Et} {p : Nat}, fitL vec t p = true ↔ ∀ (i : Nat) (s e : Et), t[i]? = some s -> 0 ≤ s.s -> vec[p + i]? = some e -> e.s < 0
 | [], p => by simp [fitL]
 | x :: t, p => by
  rw [fitL, show (p : Int) + 1 = ((p + 1 : Nat) : Int) by omega]
  have ih := fit_iff (vec := vec) (t := t) (p := p + 1)
  have e0 : ((p : Int)).toNat = p := by omega
  rw [e0]
  constructor
  ·intro h i s e hs h0 he
   split at h
   ·cases h
   ·rename_i hc
    cases i with
    | zero =>
     cases hs
     obtain ⟨hp, rfl⟩ := List.getElem?_eq_some_iff.1 he
     rw [Nat.add_zero] at hp
     have hg : vec.getD p ⟨0, 0⟩ = vec[p] := by rw [List.getD_eq_getElem?_getD, List.getElem?_eq_getElem hp]; rfl
     rw [hg] at hc
     have : ¬ 0 ≤ (vec[p]).s := fun h => hc ⟨h0, by omega, h⟩
     simp only [Nat.add_zero]
     omega
    | succ i => exact ih.1 h i s e (by simpa using hs) h0 (by rw [show p + 1 + i = p + (i + 1) by omega]; exact he)
  ·intro h
   rw [if_neg, ih]
   ·intro i s e hs h0 he
    exact h (i + 1) s e (by simpa using hs) h0 (by rw [show p + (i + 1) = p + 1 + i by omega]; exact he)
   ·rintro ⟨h0, hp, h1⟩
    have hp' : p < vec.length := by omega
    have hg : vec.getD p ⟨0, 0⟩ = vec[p] := by rw [List.getD_eq_getElem?_getD, List.getElem?_eq_getElem hp']; rfl
    rw [hg] at h1
    have := h 0 x vec[p] rfl h0 (List.getElem?_eq_getElem hp')
    omega
theorem fAt_ok {ok : Int -> Bool} : ∀ {k : Nat} {a : Int}, ok (a + k) = true -> ok (fAt ok k a) = true
 | 0, a, h => by simpa [fAt] using h
 | k + 1, a, h => by
  rw [fAt]
  split
  ·rename_i h; exact h
  ·exact fAt_ok (by rw [show a + 1 + (k : Int) = a + ((k + 1 : Nat) : Int) by omega]; exact h)
theorem place_ok {offs : List Int} {vec t : List Et} : okA offs vec t (placeA offs vec t) = true /\ 0 ≤ placeA offs vec t := by
 obtain ⟨h1, h2⟩ := top_fold (offs := offs) (n := vec.length)
 unfold placeA
 refine ⟨fAt_ok ?_, (fAt_rng (k := (topM offs vec).toNat) (a := 0)).1⟩
 have e : (0 : Int) + ((topM offs vec).toNat : Int) = topM offs vec := by unfold topM; omega
 rw [e, okA, Bool.and_eq_true]
 refine ⟨?_, fitL_far h1⟩
 rw [Bool.not_eq_true']
 cases hc : offs.contains (topM offs vec) with
 | false => rfl
 | true =>
  have := h2 _ (List.contains_iff_mem.1 hc)
  unfold topM at this
  omega
def sumL : List (List Et) -> Nat
 | [] => 0
 | c :: r => c.length + sumL r
theorem sumL_app : ∀ {a b : List (List Et)}, sumL (a ++ b) = sumL a + sumL b
 | [], b => by simp [sumL]
 | c :: a, b => by rw [List.cons_append, sumL, sumL, sumL_app]; omega
theorem nd_inj : ∀ {l : List Int} {i j : Nat} {x : Int}, l.Nodup -> l[i]? = some x -> l[j]? = some x -> i = j
 | y :: l, 0, 0, x, _, _, _ => rfl
 | y :: l, 0, j + 1, x, h, h1, h2 => by
  cases h1
  exact absurd (List.mem_of_getElem? (by simpa using h2)) (List.nodup_cons.1 h).1
 | y :: l, i + 1, 0, x, h, h1, h2 => by
  cases h2
  exact absurd (List.mem_of_getElem? (by simpa using h1)) (List.nodup_cons.1 h).1
 | y :: l, i + 1, j + 1, x, h, h1, h2 => congrArg (· + 1) (nd_inj (List.nodup_cons.1 h).2 (by simpa using h1) (by simpa using h2))
structure PkOk (cs : List Int) (d : List (List Et)) (v : List Et) (o : List Int) : Prop where
 len : o.length = d.length
 nd : o.Nodup
 nn : ∀ x ∈ o, 0 ≤ x
 sel : ∀ c ∈ d, ∀ e ∈ c, 0 ≤ e.s
 hit : ∀ (k : Nat) (c : List Et) (x : Int) (e : Et), d[k]? = some c -> o[k]? = some x -> e ∈ c -> v[x.toNat + (colAt cs e.s).toNat]? = some e
 inv : ∀ (p : Nat) (e : Et), v[p]? = some e -> 0 ≤ e.s -> ∃ (k : Nat) (c : List Et) (x : Int), d[k]? = some c /\ o[k]? = some x /\ e ∈ c /\ p = x.toNat + (colAt cs e.s).toNat
 cnt : cntO v = sumL d
theorem grow_get {vec t : List Et} {a : Int} {p : Nat} {e : Et} (h : (growM vec t a)[p]? = some e) : vec[p]? = some e \/ (vec.length ≤ p /\ e = noE) := by
 unfold growM at h
 split at h
 ·rw [List.getElem?_append] at h
  split at h
  ·exact .inl h
  ·exact .inr ⟨by omega, noE_get h⟩
 ·exact .inl h
theorem grow_old {vec t : List Et} {a : Int} {p : Nat} {e : Et} (h : vec[p]? = some e) : (growM vec t a)[p]? = some e := by
 unfold growM
 split
 ·rw [List.getElem?_append, if_pos (List.getElem?_eq_some_iff.1 h).1]; exact h
 ·exact h
theorem grow_cnt {vec t : List Et} {a : Int} : cntO (growM vec t a) = cntO vec := by
 unfold growM
 split
 ·rw [cnt_app, cnt_no, Nat.add_zero]
 ·rfl
theorem pk_step {cs : List Int} {d : List (List Et)} {v : List Et} {o : List Int} {c : List Et} (h : PkOk cs d v o) (hi : injC cs c) (hh : ∀ e ∈ c, hasC cs e) :
  PkOk cs (d ++ [c]) (putL (tblM cs c) (placeA o v (tblM cs c)) (growM v (tblM cs c) (placeA o v (tblM cs c)))) (o ++ [placeA o v (tblM cs c)]) := by
 have T := tab_law hi hh
 generalize tblM cs c = t at T ⊢
 obtain ⟨p1, p2⟩ := place_ok (offs := o) (vec := v) (t := t)
 generalize placeA o v t = a at p1 p2 ⊢
 obtain ⟨n, rfl⟩ : ∃ n : Nat, a = n := ⟨a.toNat, by omega⟩
 rw [okA, Bool.and_eq_true, Bool.not_eq_true'] at p1
 have hno : (n : Int) ∉ o := fun hm => by
  have := List.contains_iff_mem.2 hm
  rw [p1.1] at this; cases this
 have hfit := fit_iff.1 p1.2
 obtain ⟨g1, g2, g3⟩ := growM_len (vec := v) (t := t) (a := (n : Int)) (by omega)
 obtain ⟨k1, k2, k3⟩ := put_law (r := t) (p := n) (v := growM v t n) (g2.imp id fun h => by omega) (fun i s e hs h0 he => by
  rcases grow_get he with he | ⟨_, rfl⟩
  ·exact hfit i s e hs h0 he
  ·decide)
 have free : ∀ (q : Nat) (e : Et), v[q]? = some e -> 0 ≤ e.s -> ∀ (i : Nat) (s : Et), t[i]? = some s -> 0 ≤ s.s -> q ≠ n + i := fun q e he h0 i s hs hs0 hq => by
  have := hfit i s e hs hs0 (by rw [<- hq]; exact he)
  omega
 have hod : ∀ {k : Nat} {c' : List Et} {x : Int}, (d ++ [c])[k]? = some c' -> (o ++ [(n : Int)])[k]? = some x -> (d[k]? = some c' /\ o[k]? = some x) \/ (c' = c /\ x = n) := fun {k c' x} h1 h2 => by
  rw [List.getElem?_append] at h1 h2
  by_cases hk : k < d.length
  ·rw [if_pos hk] at h1
   rw [if_pos (by rw [h.len]; exact hk)] at h2
   exact .inl ⟨h1, h2⟩
  ·rw [if_neg hk] at h1
   rw [if_neg (by rw [h.len]; exact hk), h.len] at h2
   have : k - d.length = 0 := by
    have := (List.getElem?_eq_some_iff.1 h1).1
    simp at this
    omega
   rw [this] at h1 h2
   cases h1; cases h2
   exact .inr ⟨rfl, rfl⟩
 refine ⟨by simp [h.len], ?_, fun x hx => ?_, fun c' hc' e he => ?_, fun k c' x e h1 h2 he => ?_, fun p e hp h0 => ?_, ?_⟩
 ·rw [List.nodup_append]
  refine ⟨h.nd, by simp, fun x hx y hy => ?_⟩
  rw [List.mem_singleton.1 hy]
  exact fun e => hno (e ▸ hx)
 ·rcases List.mem_append.1 hx with hx | hx
  ·exact h.nn x hx
  ·rw [List.mem_singleton.1 hx]; omega
 ·rcases List.mem_append.1 hc' with hc' | hc'
  ·exact h.sel c' hc' e he
  ·rw [List.mem_singleton.1 hc'] at he
   exact (hh e he).1
 ·rcases hod h1 h2 with ⟨h1, h2⟩ | ⟨rfl, rfl⟩
  ·have hv := h.hit k c' x e h1 h2 he
   obtain ⟨_, hlt⟩ := List.getElem?_eq_some_iff.1 hv
   have he0 : 0 ≤ e.s := h.sel c' (List.mem_of_getElem? h1) e he
   rw [k2 _ (fun i s hs hs0 => free _ e hv he0 i s hs hs0)]
   exact grow_old hv
  ·rw [show ((n : Int)).toNat = n by omega]
   exact k1 _ e (T.hit e he) (hh e he).1
 ·by_cases hq : ∃ (i : Nat) (s : Et), t[i]? = some s /\ 0 ≤ s.s /\ p = n + i
  ·obtain ⟨i, s, hs, hs0, rfl⟩ := hq
   rw [k1 i s hs hs0] at hp
   cases hp
   obtain ⟨a1, a2⟩ := T.inv i _ hs hs0
   refine ⟨d.length, c, n, by simp, by rw [<- h.len]; simp, a1, ?_⟩
   rw [a2]; omega
  ·rw [k2 p (fun i s hs hs0 e => hq ⟨i, s, hs, hs0, e⟩)] at hp
   rcases grow_get hp with hp | ⟨_, rfl⟩
   ·obtain ⟨k, c', x, b1, b2, b3, b4⟩ := h.inv p e hp h0
    refine ⟨k, c', x, ?_, ?_, b3, b4⟩
    ·rw [List.getElem?_append, if_pos (List.getElem?_eq_some_iff.1 b1).1]; exact b1
    ·rw [List.getElem?_append, if_pos (List.getElem?_eq_some_iff.1 b2).1]; exact b2
   ·exact absurd h0 (by decide)
 ·rw [k3, grow_cnt, h.cnt, T.cnt, sumL_app]
  simp [sumL]
theorem pk_all {cs : List Int} : ∀ {r d : List (List Et)} {v : List Et} {o : List Int}, PkOk cs d v o -> (∀ c ∈ r, injC cs c /\ ∀ e ∈ c, hasC cs e) -> PkOk cs (d ++ r) (packM cs r (v, o)).1 (packM cs r (v, o)).2
 | [], d, v, o, h, _ => by rw [List.append_nil]; exact h
 | c :: r, d, v, o, h, hr => by
  have := pk_all (r := r) (pk_step h (hr c (by simp)).1 (hr c (by simp)).2) (fun c' hc' => hr c' (by simp [hc']))
  rw [List.append_assoc] at this
  exact this
theorem pk_nil {cs : List Int} : PkOk cs [] [] [] := ⟨rfl, List.nodup_nil, by simp, by simp, by simp, by simp, rfl⟩
theorem inj_of {w : Wd} {cs : List Int} (g : Good w) (h : ColsOk (graphW w) cs) {c : List Et} (hc : c ∈ w.classes) : injC cs c /\ ∀ e ∈ c, hasC cs e := by
 have hk := clsok_of g
 have hz := szM_le (graphW w) 500
 have has : ∀ e ∈ c, hasC cs e := fun e he => by
  obtain ⟨s1, s2⟩ := (hk c hc).1 e he
  have kn : hasW (graphW w) 0 e.s = true := (knownW ⟨s1, s2⟩ hk).2 ⟨c, hc, List.mem_map.2 ⟨e, he, rfl⟩⟩
  have hlt := szM_lt (g := graphW w) (n := 500) (m := e.s.toNat) (by rw [show ((e.s.toNat : Nat) : Int) = e.s by omega]; exact kn) (by omega)
  rw [<- h.len] at hlt
  have h0 := h.kn e.s.toNat hlt (by rw [show ((e.s.toNat : Nat) : Int) = e.s by omega]; exact kn)
  have hb := h.bd _ (getD_mem hlt)
  exact ⟨s1, by omega, h0, hb.2⟩
 refine ⟨?_, has⟩
 have hp := g.asc c hc
 rw [List.pairwise_map] at hp
 refine hp.imp_of_mem fun {a b} ha hb hab he => ?_
 have a1 := has a ha
 have b1 := has b hb
 unfold hasC at a1 b1
 have := h.no a.s.toNat b.s.toNat (by omega) (by omega) a1.2.2.1 he
 rw [show ((a.s.toNat : Nat) : Int) = a.s by omega, show ((b.s.toNat : Nat) : Int) = b.s by omega] at this
 exact this ((nearW ((hk c hc).1 a ha) ((hk c hc).1 b hb) hk).2 ⟨by omega, c, hc, List.mem_map.2 ⟨a, ha, rfl⟩, List.mem_map.2 ⟨b, hb, rfl⟩⟩)
def wantM : List Et -> Int -> Int -> Int
 | [], _, m => m
 | e :: r, s, m => wantM r s (if e.s = s then e.m else m)
theorem want_no {s : Int} : ∀ {c : List Et} {m : Int}, (∀ e ∈ c, e.s ≠ s) -> wantM c s m = m
 | [], _, _ => rfl
 | e :: c, m, h => by rw [wantM, if_neg (h e (by simp)), want_no fun e he => h e (by simp [he])]
theorem want_at {s : Int} : ∀ {c : List Et} {m : Int} {e : Et}, (c.map Et.s).Nodup -> e ∈ c -> e.s = s -> wantM c s m = e.m
 | x :: c, m, e, hnd, he, hs => by
  rw [List.map_cons, List.nodup_cons] at hnd
  rw [wantM]
  rcases List.mem_cons.1 he with rfl | he
  ·rw [if_pos hs, want_no fun y hy hys => hnd.1 (List.mem_map.2 ⟨y, hy, hys.trans hs.symm⟩)]
  ·exact want_at hnd.2 he hs
theorem finds {w : Wd} {cs : List Int} (g : Good w) (h : ColsOk (graphW w) cs) {k : Nat} {c : List Et} (hk : w.classes[k]? = some c) {s : Int} :
  lookM (packM cs w.classes ([], [])).1 (packM cs w.classes ([], [])).2 cs k s = wantM c s (-1) := by
 have hc := List.mem_of_getElem? hk
 have P := pk_all (r := w.classes) (pk_nil (cs := cs)) (fun c hc => inj_of g h hc)
 rw [List.nil_append] at P
 generalize (packM cs w.classes ([], [])).1 = v at P ⊢
 generalize (packM cs w.classes ([], [])).2 = o at P ⊢
 have hkl := (List.getElem?_eq_some_iff.1 hk).1
 have hol : k < o.length := by rw [P.len]; exact hkl
 have ho := List.getElem?_eq_getElem hol
 have hog : o.getD k 0 = o[k] := get_D hol
 have hnn := P.nn _ (List.getElem_mem hol)
 generalize o[k] = x at ho hog hnn
 have hkt : ((k : Int)).toNat = k := by omega
 have hnd := (clsok_of g c hc).2
 by_cases he : ∃ e ∈ c, e.s = s
 ·obtain ⟨e, he, rfl⟩ := he
  rw [want_at hnd he rfl]
  have hh := (inj_of g h hc).2 e he
  unfold hasC colAt at hh
  have hv := P.hit k c x e hk ho he
  obtain ⟨hlt, hge⟩ := List.getElem?_eq_some_iff.1 hv
  unfold colAt at hlt hge
  unfold lookM placeM
  rw [hkt, hog, if_neg (by omega), if_pos (by omega)]
  dsimp only
  have e2 : (x + cs.getD e.s.toNat 0).toNat = x.toNat + (cs.getD e.s.toNat 0).toNat := by omega
  rw [e2, List.getD_eq_getElem?_getD, List.getElem?_eq_getElem hlt, hge]
  exact if_pos rfl
 ·rw [want_no fun e h1 h2 => he ⟨e, h1, h2⟩]
  unfold lookM placeM
  rw [hkt, hog]
  by_cases b1 : (k : Int) < 0 \/ (o.length : Int) ≤ k \/ s < 0 \/ (cs.length : Int) ≤ s \/ cs.getD s.toNat 0 < 0
  ·rw [if_pos b1]
  rw [if_neg b1]
  by_cases b2 : 0 ≤ x + cs.getD s.toNat 0 /\ x + cs.getD s.toNat 0 < v.length /\ x ≤ v.length
  ·rw [if_pos b2]
   dsimp only
   have hlt : (x + cs.getD s.toNat 0).toNat < v.length := by omega
   rw [List.getD_eq_getElem?_getD, List.getElem?_eq_getElem hlt]
   show (if (v[(x + cs.getD s.toNat 0).toNat]).s = s then _ else _) = _
   rw [if_neg]
   intro hs
   obtain ⟨k', c', x', d1, d2, d3, d4⟩ := P.inv _ _ (List.getElem?_eq_getElem hlt) (by omega)
   unfold colAt at d4
   rw [hs] at d4
   have hx' := P.nn x' (List.mem_of_getElem? d2)
   have hxx : x' = x := by omega
   subst hxx
   have hkk : k' = k := by
    exact nd_inj P.nd d2 ho
   subst hkk
   rw [hk] at d1
   cases d1
   exact he ⟨_, d3, hs⟩
  ·rw [if_neg b2]
structure GwInv (w : Wd) (cl : List Et) (l p0 : List Int) (p : List Et) (out chg : List Int) : Prop where
 len : out.length = p0.length
 bd : ∀ c ∈ out, -1 ≤ c /\ c < 500
 old : ∀ i : Nat, i < out.length -> hasW (graphW w) 0 i = true -> 0 ≤ out.getD i 0
 un : ∀ i : Nat, i < out.length -> hasW (graphW (moreW w cl)) 0 i = false -> out.getD i 0 = -1
 pos : ∀ e ∈ p, 0 ≤ out.getD e.s.toNat 0
 noP : ∀ a ∈ p, ∀ b ∈ p, a.s ≠ b.s -> out.getD a.s.toNat 0 ≠ out.getD b.s.toNat 0
 noW : ∀ i j : Nat, i < out.length -> j < out.length -> confG (graphW w) i j -> 0 ≤ out.getD i 0 -> out.getD i 0 ≠ out.getD j 0
 keep : ∀ i : Nat, i < out.length -> (∀ e ∈ p, e.s ≠ i) -> out.getD i 0 = p0.getD i 0
 chgs : ∀ c ∈ chg, (∃ e ∈ p, e.s = c) /\ c.toNat < l.length /\ 0 ≤ l.getD c.toNat 0 /\ out.getD c.toNat 0 ≠ l.getD c.toNat 0
 same : ∀ s : Nat, s < l.length -> 0 ≤ l.getD s 0 -> (s : Int) ∉ chg -> out.getD s 0 = l.getD s 0
end Go.Proofs.YtikppcfabnnhfaaDoor

/- has, within; Grow with its errors. -/
namespace Go.Proofs.YtikppcfabnnhfaaDoor
open Go Go.Aw
set_option linter.unusedSimpArgs false
set_option linter.unusedVariables false
set_option maxRecDepth 100000
set_option maxHeartbeats 40000000
theorem w90 {x : Et} {n : Int} (h : i64r (x.s - n)) : E.F 90 [enV x, .int .i64 n] [] = some ((.int .i64 (x.s - n), []), True) := by
 have hw : IntKind.i64.wrap (x.s - n) = x.s - n := wrap_id h.1 h.2
 rw [e90]
 simp (maxSteps := 100000000) only [ivc, anf, vop, nilR, salloc, eq_self, Nat.reduceEqDiff, Nat.reduceLT, Nat.reduceLeDiff, Nat.reduceAdd, Nat.reduceBEq, reduceCtorEq, ↓reduceIte, tyb, enV, hw]
def lsM : List Bool -> Int -> List Int
 | [], _ => []
 | b :: r, n => (if b = true then [n] else []) ++ lsM r (n + 1)
def bR (l : List Bool) : Ob := ⟨false, 1, l.map AV.bool⟩
instance rf_bool : RowF AV.bool := ⟨fun _ => rfl, fun _ => rfl⟩
theorem ls_loop {l : List Bool} (hl : l.length ≤ 1000000) : ∀ (r m : List Bool) (o : List Int), l = m ++ r -> o.length ≤ m.length ->
  E.L 74 4 [.sl 60000 0 o.length, .sl 100000 0 l.length, .int .i64 l.length, .int .i64 m.length] [(60000, iR o), (100000, bR l)] = some ((.exit 0, [.sl 60000 0 (o ++ lsM r m.length).length, .sl 100000 0 l.length, .int .i64 l.length, .int .i64 l.length], [(60000, iR (o ++ lsM r m.length)), (100000, bR l)]), True) := by
 intro r
 induction r with
 | nil =>
  intro m o h ho
  rw [List.append_nil] at h
  subst h
  have q : ((l.length : Int) < l.length) = False := eq_false (by omega)
  rw [l74_4]
  simp (maxSteps := 100000000) only [ivc, anf, nilR, eq_self, Nat.reduceEqDiff, Nat.reduceLT, Nat.reduceLeDiff, Nat.reduceAdd, Nat.reduceBEq, reduceCtorEq, ↓reduceIte, tyb, iR, bR, q, lsM]
 | cons b r ih =>
  intro m o h ho
  have hn : m.length + (r.length + 1) = l.length := by rw [h]; simp
  have hi' : (m.length : Int) < l.length := by omega
  have hg := getD_map (f := AV.bool) (show l[m.length]? = some b by rw [h]; simp)
  have hw : IntKind.i64.wrap ((m.length : Int) + 1) = m.length + 1 := wrap_id (by omega) (by omega)
  have hc : (0 ≤ (m.length : Int) /\ (m.length : Int) < l.length) = True := eq_true (by omega)
  cases b with
  | true =>
   have ih' := ih (m ++ [true]) (o ++ [(m.length : Int)]) (by simp [h]) (by simp; omega)
   rw [show lsM (true :: r) (m.length : Int) = (m.length : Int) :: lsM r (m.length + 1) from rfl]
   rw [List.append_assoc] at ih'
   simp only [List.length_append, List.length_cons, List.length_nil, Nat.zero_add, Int.natCast_add, Int.cast_ofNat_Int, iR, bR, List.map_append, List.map_cons, List.map_nil, List.cons_append, List.nil_append] at ih'
   rw [l74_4]
   simp (maxSteps := 100000000) only [ivc, anf, nilR, salloc, sappend, eq_self, Nat.reduceEqDiff, Nat.reduceLT, Nat.reduceLeDiff, Nat.reduceAdd, Nat.reduceBEq, reduceCtorEq, ↓reduceIte, tyb, iR, bR, hi', hg, hw, ih']
   exact some_true (by omega)
  | false =>
   have ih' := ih (m ++ [false]) o (by simp [h]) (by simp; omega)
   rw [show lsM (false :: r) (m.length : Int) = lsM r (m.length + 1) from rfl]
   simp only [List.length_append, List.length_cons, List.length_nil, Nat.zero_add, Int.natCast_add, Int.cast_ofNat_Int, iR, bR] at ih'
   rw [l74_4]
   simp (maxSteps := 100000000) only [ivc, anf, nilR, eq_self, Nat.reduceEqDiff, Nat.reduceLT, Nat.reduceLeDiff, Nat.reduceAdd, Nat.reduceBEq, reduceCtorEq, ↓reduceIte, tyb, iR, bR, hi', hg, hw, ih']
   exact some_true (by omega)
theorem lsM_len : ∀ {l : List Bool} {n : Int}, (lsM l n).length ≤ l.length
 | [], _ => Nat.le_refl _
 | b :: r, n => by
  have := lsM_len (l := r) (n := n + 1)
  rw [lsM, List.length_append, List.length_cons]
  split <;> simp <;> omega
theorem list_ev {l : List Bool} (hl : l.length ≤ 1000000) : E.F 74 [.sl 100000 0 l.length] [(100000, bR l)] = some ((.sl 200000 0 (lsM l 0).length, [(200000, iR (lsM l 0)), (100000, bR l)]), True) := by
 have h := ls_loop hl l [] [] rfl (Nat.le_refl _)
 simp only [List.length_nil, Int.natCast_zero, List.nil_append, iR, bR, List.map_nil] at h
 rw [e74]
 simp (maxSteps := 100000000) only [ivc, anf, vlen, vbuiltin, eq_self, Nat.reduceEqDiff, Nat.reduceLT, Nat.reduceLeDiff, Nat.reduceAdd, Nat.reduceBEq, reduceCtorEq, ↓reduceIte, tyb, iR, bR, h]
theorem moL_rng : ∀ {c : List Et} {n : Int}, (∀ e ∈ c, 0 ≤ e.s /\ e.s < 500) -> 0 ≤ n -> n ≤ 500 -> n ≤ moL c n /\ moL c n ≤ 500 /\ ∀ e ∈ c, e.s < moL c n
 | [], n, _, h0, h1 => ⟨Int.le_refl _, h1, fun e he => by cases he⟩
 | x :: c, n, h, h0, h1 => by
  have hx := h x (by simp)
  have hm : n ≤ maxI n (x.s + 1) /\ maxI n (x.s + 1) ≤ 500 /\ x.s < maxI n (x.s + 1) := by
   unfold maxI
   split <;> omega
  obtain ⟨a1, a2, a3⟩ := moL_rng (c := c) (n := maxI n (x.s + 1)) (fun e he => h e (by simp [he])) (by omega) hm.2.1
  rw [show moL (x :: c) n = moL c (maxI n (x.s + 1)) from rfl]
  refine ⟨by omega, a2, fun e he => ?_⟩
  rcases List.mem_cons.1 he with rfl | he
  ·omega
  ·exact a3 e he
theorem moM_rng : ∀ {cs : List (List Et)} {n : Int}, (∀ c ∈ cs, ∀ e ∈ c, 0 ≤ e.s /\ e.s < 500) -> 0 ≤ n -> n ≤ 500 -> n ≤ moM cs n /\ moM cs n ≤ 500 /\ ∀ c ∈ cs, ∀ e ∈ c, e.s < moM cs n
 | [], n, _, h0, h1 => ⟨Int.le_refl _, h1, fun e he => by cases he⟩
 | x :: c, n, h, h0, h1 => by
  obtain ⟨b1, b2, b3⟩ := moL_rng (c := x) (n := n) (h x (by simp)) h0 h1
  obtain ⟨a1, a2, a3⟩ := moM_rng (cs := c) (n := moL x n) (fun e he => h e (by simp [he])) (by omega) b2
  rw [show moM (x :: c) n = moM c (moL x n) from rfl]
  refine ⟨by omega, a2, fun k hk e he => ?_⟩
  rcases List.mem_cons.1 hk with rfl | hk
  ·have := b3 e he
   omega
  ·exact a3 k hk e he
def unL (c : List Et) (u : List Bool) : List Bool := c.foldl (fun u e => u.set e.s.toNat true) u
def unM (cs : List (List Et)) (u : List Bool) : List Bool := cs.foldl (fun u c => unL c u) u
theorem unL_len : ∀ {c : List Et} {u : List Bool}, (unL c u).length = u.length
 | [], _ => rfl
 | x :: c, u => by
  rw [show unL (x :: c) u = unL c (u.set x.s.toNat true) from rfl, unL_len, List.length_set]
theorem unM_len : ∀ {cs : List (List Et)} {u : List Bool}, (unM cs u).length = u.length
 | [], _ => rfl
 | x :: c, u => by
  rw [show unM (x :: c) u = unM c (unL x u) from rfl, unM_len, unL_len]
def uH (w : Wd) (u : List Bool) : HL := [(60000, ⟨true, 3, [wdV w]⟩), (60001, bR u)]
theorem getBl {l : List Bool} {i : Nat} (h : i < l.length) : (l.map AV.bool).getD i .junk = .bool (l.getD i false) := by
 simp [List.getD_eq_getElem?_getD, List.getElem?_eq_getElem h]
theorem un7_loop {w : Wd} {k n : Nat} {c : List Et} (hk : w.classes[k]? = some c) (hn : w.classes.length ≤ 1000) (hl : c.length ≤ 1000) (hs : ∀ e ∈ c, 0 ≤ e.s /\ e.s < n) : ∀ (r m : List Et) (u : List Bool), c = m ++ r -> u.length = n ->
  E.L 63 7 [.ptr 60000 0 0, .sl 60001 0 n, .int .i64 k, .int .i64 m.length] (uH w u) = some ((.exit 2, [.ptr 60000 0 0, .sl 60001 0 n, .int .i64 k, .int .i64 c.length], uH w (unL r u)), True) := by
 have hkl := (List.getElem?_eq_some_iff.1 hk).1
 have hg2 := getD_map (f := clV) hk
 have q2 : (0 ≤ (k : Int) /\ (k : Int) < w.classes.length) = True := eq_true (by omega)
 intro r
 induction r with
 | nil =>
  intro m u h hu
  rw [List.append_nil] at h
  subst h
  have q : ((c.length : Int) < c.length) = False := eq_false (by omega)
  rw [l63_7]
  simp (maxSteps := 100000000) only [ivc, anf, vop, vlen, vbuiltin, nilR, eq_self, Nat.reduceEqDiff, Nat.reduceLT, Nat.reduceLeDiff, Nat.reduceAdd, Nat.reduceBEq, reduceCtorEq, ↓reduceIte, tyb, uH, bR, wdV, clV, hg2, q2, q, unL, List.foldl_nil]
 | cons x r ih =>
  intro m u h hu
  have hn : m.length + (r.length + 1) = c.length := by rw [h]; simp
  have hi' : (m.length : Int) < c.length := by omega
  have hg := getD_map (f := enV) (show c[m.length]? = some x by rw [h]; simp)
  have hx := hs x (by rw [h]; simp)
  have q3 : (0 ≤ x.s /\ x.s < n) = True := eq_true hx
  have g3 := getBl (l := u) (i := x.s.toNat) (by omega)
  have s3 : (u.map AV.bool).set x.s.toNat (.bool true) = (u.set x.s.toNat true).map AV.bool := List.map_set.symm
  have hw : IntKind.i64.wrap ((m.length : Int) + 1) = m.length + 1 := wrap_id (by omega) (by omega)
  have hc : (0 ≤ (m.length : Int) /\ (m.length : Int) < c.length) = True := eq_true (by omega)
  have ih' := ih (m ++ [x]) (u.set x.s.toNat true) (by simp [h]) (by rw [List.length_set, hu])
  rw [show unL (x :: r) u = unL r (u.set x.s.toNat true) from rfl]
  simp only [List.length_append, List.length_cons, List.length_nil, Nat.zero_add, Int.natCast_add, Int.cast_ofNat_Int, uH, bR, wdV] at ih'
  rw [l63_7]
  simp (maxSteps := 100000000) only [ivc, anf, vop, vlen, vbuiltin, nilR, eq_self, Nat.reduceEqDiff, Nat.reduceLT, Nat.reduceLeDiff, Nat.reduceAdd, Nat.reduceBEq, reduceCtorEq, ↓reduceIte, tyb, uH, bR, wdV, clV, enV, hg2, q2, hi', hg, hw, q3, g3, s3, ih']
  try exact some_true (by omega)
theorem un4_loop {w : Wd} {n : Nat} (hl : w.classes.length ≤ 1000) (hs : ∀ c ∈ w.classes, c.length ≤ 1000 /\ ∀ e ∈ c, 0 ≤ e.s /\ e.s < n) : ∀ (r m : List (List Et)) (u : List Bool), w.classes = m ++ r -> u.length = n ->
  E.L 63 4 [.ptr 60000 0 0, .sl 60001 0 n, .int .i64 m.length] (uH w u) = some ((.exit 0, [.ptr 60000 0 0, .sl 60001 0 n, .int .i64 w.classes.length], uH w (unM r u)), True) := by
 intro r
 induction r with
 | nil =>
  intro m u h hu
  rw [List.append_nil] at h
  rw [<- h, l63_4]
  simp (maxSteps := 100000000) only [ivc, anf, vop, vlen, vbuiltin, nilR, eq_self, Nat.reduceEqDiff, Nat.reduceLT, Nat.reduceLeDiff, Nat.reduceAdd, Nat.reduceBEq, reduceCtorEq, ↓reduceIte, tyb, uH, bR, wdV, Int.lt_irrefl, unM, List.foldl_nil]
 | cons x r ih =>
  intro m u h hu
  have hn : m.length + (r.length + 1) = w.classes.length := by rw [h]; simp
  have hi' : (m.length : Int) < w.classes.length := by omega
  have hm : w.classes[m.length]? = some x := by rw [h]; simp
  have hw : IntKind.i64.wrap ((m.length : Int) + 1) = m.length + 1 := wrap_id (by omega) (by omega)
  obtain ⟨x1, x2⟩ := hs x (List.mem_of_getElem? hm)
  have lp := un7_loop hm hl x1 x2 x [] u rfl hu
  have ih' := ih (m ++ [x]) (unL x u) (by simp [h]) (by rw [unL_len, hu])
  simp only [List.length_append, List.length_cons, List.length_nil, Nat.zero_add, Int.natCast_add, Int.cast_ofNat_Int, uH, bR, wdV] at ih' lp
  rw [show unM (x :: r) u = unM r (unL x u) from rfl, l63_4]
  simp (maxSteps := 100000000) only [ivc, anf, vop, vlen, vbuiltin, nilR, eq_self, Nat.reduceEqDiff, Nat.reduceLT, Nat.reduceLeDiff, Nat.reduceAdd, Nat.reduceBEq, reduceCtorEq, ↓reduceIte, tyb, uH, bR, wdV, hi', hw, lp, ih']
  try exact some_true (by omega)
def fals (n : Nat) : List Bool := List.replicate n false
theorem fals_map {n : Nat} : List.replicate n (AV.bool false) = (fals n).map AV.bool := by simp [fals]
def unW (w : Wd) : List Bool := unM w.classes (fals (moM w.classes 0).toNat)
theorem unW_len {w : Wd} : (unW w).length = (moM w.classes 0).toNat := by rw [unW, unM_len, fals, List.length_replicate]
theorem und_ev {w : Wd} (hl : w.classes.length ≤ 1000) (hs : ∀ c ∈ w.classes, c.length ≤ 1000 /\ ∀ e ∈ c, 0 ≤ e.s /\ e.s < 500) : E.F 63 [wdV w] [] = some ((.ro 1 ((unW w).map AV.bool), []), True) := by
 obtain ⟨a1, a2, a3⟩ := moM_rng (n := 0) (fun c hc => (hs c hc).2) (by omega) (by omega)
 have mo := most_ev hl hs
 have lp := un4_loop (n := (moM w.classes 0).toNat) hl (fun c hc => ⟨(hs c hc).1, fun e he => ⟨((hs c hc).2 e he).1, by have := a3 c hc e he; omega⟩⟩) w.classes [] (fals (moM w.classes 0).toNat) rfl (by rw [fals, List.length_replicate])
 have hlen := unW_len (w := w)
 unfold unW at hlen ⊢
 have e1 : moM w.classes 0 = ((moM w.classes 0).toNat : Nat) := by omega
 have e2 : (moM w.classes 0).toNat ≤ 500 := by omega
 rw [e1] at mo
 generalize (moM w.classes 0).toNat = N at mo lp hlen e2 ⊢
 generalize unM w.classes (fals N) = U at lp hlen ⊢
 have tk : (U.map AV.bool).take N = U.map AV.bool := List.take_of_length_le (by simp [hlen])
 simp only [List.length_nil, Int.natCast_zero, uH, bR, wdV] at lp
 simp only [wdV] at mo
 rw [e63]
 simp (maxSteps := 100000000) only [ivc, anf, salloc, eq_self, Nat.reduceEqDiff, Nat.reduceLT, Nat.reduceLeDiff, Nat.reduceAdd, Nat.reduceBEq, reduceCtorEq, ↓reduceIte, tyb, wdV, mo, fals_map, lp, tk]
 try exact some_true (by omega)
def bV (l : List Bool) : AV := .ro 1 (l.map AV.bool)
theorem nu_loop {l : List Bool} (hl : l.length ≤ 1000000) : ∀ (r m : List Bool) (o : List Int), l = m ++ r -> o.length ≤ m.length ->
  E.L 64 4 [bV l, .sl 60000 0 o.length, .int .i64 m.length] [(60000, iR o)] = some ((.exit 0, [bV l, .sl 60000 0 (o ++ lsM r m.length).length, .int .i64 l.length], [(60000, iR (o ++ lsM r m.length))]), True) := by
 intro r
 induction r with
 | nil =>
  intro m o h ho
  rw [List.append_nil] at h
  subst h
  have q : ((l.length : Int) < l.length) = False := eq_false (by omega)
  rw [l64_4]
  simp (maxSteps := 100000000) only [ivc, anf, vlen, vbuiltin, nilR, eq_self, Nat.reduceEqDiff, Nat.reduceLT, Nat.reduceLeDiff, Nat.reduceAdd, Nat.reduceBEq, reduceCtorEq, ↓reduceIte, tyb, iR, bV, q, lsM]
 | cons b r ih =>
  intro m o h ho
  have hn : m.length + (r.length + 1) = l.length := by rw [h]; simp
  have hi' : (m.length : Int) < l.length := by omega
  have hg := getD_map (f := AV.bool) (show l[m.length]? = some b by rw [h]; simp)
  have hw : IntKind.i64.wrap ((m.length : Int) + 1) = m.length + 1 := wrap_id (by omega) (by omega)
  have hc : (0 ≤ (m.length : Int) /\ (m.length : Int) < l.length) = True := eq_true (by omega)
  cases b with
  | true =>
   have ih' := ih (m ++ [true]) (o ++ [(m.length : Int)]) (by simp [h]) (by simp; omega)
   rw [show lsM (true :: r) (m.length : Int) = (m.length : Int) :: lsM r (m.length + 1) from rfl]
   rw [List.append_assoc] at ih'
   simp only [List.length_append, List.length_cons, List.length_nil, Nat.zero_add, Int.natCast_add, Int.cast_ofNat_Int, iR, bV, List.map_append, List.map_cons, List.map_nil, List.cons_append, List.nil_append] at ih'
   rw [l64_4]
   simp (maxSteps := 100000000) only [ivc, anf, vlen, vbuiltin, nilR, salloc, sappend, eq_self, Nat.reduceEqDiff, Nat.reduceLT, Nat.reduceLeDiff, Nat.reduceAdd, Nat.reduceBEq, reduceCtorEq, ↓reduceIte, tyb, iR, bV, hi', hg, hw, ih']
   exact some_true (by omega)
  | false =>
   have ih' := ih (m ++ [false]) o (by simp [h]) (by simp; omega)
   rw [show lsM (false :: r) (m.length : Int) = lsM r (m.length + 1) from rfl]
   simp only [List.length_append, List.length_cons, List.length_nil, Nat.zero_add, Int.natCast_add, Int.cast_ofNat_Int, iR, bV] at ih'
   rw [l64_4]
   simp (maxSteps := 100000000) only [ivc, anf, vlen, vbuiltin, nilR, eq_self, Nat.reduceEqDiff, Nat.reduceLT, Nat.reduceLeDiff, Nat.reduceAdd, Nat.reduceBEq, reduceCtorEq, ↓reduceIte, tyb, iR, bV, hi', hg, hw, ih']
   exact some_true (by omega)
theorem numbers_ev {l : List Bool} (hl : l.length ≤ 1000000) : E.F 64 [.ro 1 (l.map AV.bool)] [] = some ((.ro 1 ((lsM l 0).map (AV.int .i64)), []), True) := by
 have h := nu_loop hl l [] [] rfl (Nat.le_refl _)
 have hn := lsM_len (l := l) (n := 0)
 simp only [List.length_nil, Int.natCast_zero, List.nil_append, iR, bV, List.map_nil] at h
 generalize lsM l 0 = L at h hn ⊢
 have tk : (L.map (AV.int .i64)).take L.length = L.map (AV.int .i64) := List.take_of_length_le (by simp)
 rw [e64]
 simp (maxSteps := 100000000) only [ivc, anf, eq_self, Nat.reduceEqDiff, Nat.reduceLT, Nat.reduceLeDiff, Nat.reduceAdd, Nat.reduceBEq, reduceCtorEq, ↓reduceIte, h, tk]
 try exact some_true (by omega)
def lowM : List Et -> Int -> Nat
 | [], _ => 0
 | e :: r, n => if e.s < n then lowM r n + 1 else 0
theorem lowM_le {n : Int} : ∀ {c : List Et}, lowM c n ≤ c.length
 | [] => Nat.le_refl _
 | e :: r => by
  have := lowM_le (n := n) (c := r)
  rw [lowM, List.length_cons]
  split <;> omega
theorem lowM_iff {n : Int} : ∀ {c : List Et} {h : Nat} {e : Et}, (c.map Et.s).Pairwise (· < ·) -> c[h]? = some e -> (e.s < n ↔ h < lowM c n)
 | x :: r, 0, e, _, he => by
  cases he
  rw [lowM]
  split <;> omega
 | x :: r, h + 1, e, hp, he => by
  rw [List.map_cons, List.pairwise_cons] at hp
  have he' : r[h]? = some e := by simpa using he
  have ih := lowM_iff (n := n) hp.2 he'
  have hx := hp.1 e.s (List.mem_map.2 ⟨e, List.mem_of_getElem? he', rfl⟩)
  rw [lowM]
  split <;> omega
def fn90 : AV := .fn (Fn.func 90) [] []
theorem bs_loop {c : List Et} {n : Int} (hl : c.length ≤ 1000000) (hp : (c.map Et.s).Pairwise (· < ·)) (hr : ∀ e ∈ c, i64r (e.s - n)) : ∀ (k i j : Nat), j - i ≤ k -> i ≤ lowM c n -> lowM c n ≤ j -> j ≤ c.length ->
  E.L 89 4 [.ro 2 (c.map enV), .int .i64 n, fn90, .int .i64 c.length, .int .i64 i, .int .i64 j] [] = some ((.exit 0, [.ro 2 (c.map enV), .int .i64 n, fn90, .int .i64 c.length, .int .i64 (lowM c n), .int .i64 (lowM c n)], []), True) := by
 intro k
 induction k with
 | zero =>
  intro i j h1 h2 h3 h4
  have e1 : i = lowM c n := by omega
  have e2 : j = lowM c n := by omega
  subst e1
  subst e2
  generalize lowM c n = p
  have q : ((p : Int) < p) = False := eq_false (by omega)
  rw [l89_4]
  simp (maxSteps := 100000000) only [ivc, anf, nilR, eq_self, Nat.reduceEqDiff, Nat.reduceLT, Nat.reduceBEq, reduceCtorEq, ↓reduceIte, tyb, fn90, q]
 | succ k ih =>
  intro i j h1 h2 h3 h4
  by_cases hij : i = j
  ·have e1 : i = lowM c n := by omega
   have e2 : j = lowM c n := by omega
   subst e1
   subst e2
   exact ih (lowM c n) (lowM c n) (by omega) (by omega) (by omega) h4
  have hh : (i + j) / 2 < c.length := by omega
  have hx := List.getElem?_eq_getElem hh
  generalize c[(i + j) / 2] = x at hx
  have hg := getD_map (f := enV) hx
  have hlt := lowM_iff (n := n) hp hx
  have q : ((i : Int) < j) = True := eq_true (by omega)
  have w1 : IntKind.i64.wrap ((i : Int) + j) = i + j := wrap_id (by omega) (by omega)
  have w2 : IntKind.u64.wrap ((i : Int) + j) = i + j := u64id (by omega) (by omega)
  have w3 : ((i : Int) + j).fdiv (2 ^ min 1 IntKind.u64.bits) = (((i + j) / 2 : Nat) : Int) := by
   rw [show min 1 IntKind.u64.bits = 1 from rfl, Int.fdiv_eq_ediv_of_nonneg _ (by decide)]
   omega
  have hb := w90 (hr x (List.mem_of_getElem? hx))
  simp only [enV] at hb
  generalize hm : (i + j) / 2 = m at hh hx hg hlt w3
  have w4 : IntKind.u64.wrap (m : Int) = m := u64id (by omega) (by omega)
  have w5 : IntKind.i64.wrap (m : Int) = m := wrap_id (by omega) (by omega)
  have w6 : IntKind.i64.wrap ((m : Int) + 1) = m + 1 := wrap_id (by omega) (by omega)
  have q1 : (0 ≤ (m : Int) /\ (m : Int) < c.length) = True := eq_true (by omega)
  have q2 : ((m : Int)).toNat = m := by omega
  rw [l89_4]
  by_cases b : x.s - n < 0
  ·have ih' := ih (m + 1) j (by omega) (by omega) h3 h4
   simp only [fn90, Int.natCast_add, Int.cast_ofNat_Int] at ih'
   simp (maxSteps := 100000000) only [ivc, anf, vop, nilR, eq_self, Nat.reduceEqDiff, Nat.reduceLT, Nat.reduceLeDiff, Nat.reduceAdd, Nat.reduceMul, Nat.reduceBEq, Int.reduceLE, Int.reduceToNat, reduceCtorEq, ↓reduceIte, tyb, fn90, enV, q, w1, w2, w3, w5, w6, q1, q2, hg, hb, b, ih']
  ·have ih' := ih i m (by omega) h2 (by omega) (by omega)
   simp only [fn90] at ih'
   simp (maxSteps := 100000000) only [ivc, anf, vop, nilR, eq_self, Nat.reduceEqDiff, Nat.reduceLT, Nat.reduceLeDiff, Nat.reduceAdd, Nat.reduceMul, Nat.reduceBEq, Int.reduceLE, Int.reduceToNat, reduceCtorEq, ↓reduceIte, tyb, fn90, enV, q, w1, w2, w3, w5, q1, q2, hg, hb, b, ih']
def foundM (c : List Et) (n : Int) : Bool := match c[lowM c n]? with
 | some e => e.s == n
 | none => false
theorem bs_ev {c : List Et} {n : Int} (hl : c.length ≤ 1000000) (hp : (c.map Et.s).Pairwise (· < ·)) (hr : ∀ e ∈ c, i64r (e.s - n)) :
  E.F 89 [.ro 2 (c.map enV), .int .i64 n, fn90] [] = some ((.tup [.int .i64 (lowM c n), .bool (foundM c n)], []), True) := by
 have lp := bs_loop hl hp hr c.length 0 c.length (by omega) (by omega) lowM_le (Nat.le_refl _)
 simp only [fn90, Int.natCast_zero] at lp
 rw [e89]
 have hle := lowM_le (c := c) (n := n)
 by_cases hlt : lowM c n < c.length
 ·have hx := List.getElem?_eq_getElem hlt
  have hf : foundM c n = (c[lowM c n].s == n) := by unfold foundM; rw [hx]
  rw [hf]
  generalize c[lowM c n] = x at hx ⊢
  have hg := getD_map (f := enV) hx
  have hb := w90 (hr x (List.mem_of_getElem? hx))
  simp only [enV] at hb
  generalize lowM c n = p at *
  have q : ((p : Int) < c.length) = True := eq_true (by omega)
  have q1 : (0 ≤ (p : Int) /\ (p : Int) < c.length) = True := eq_true (by omega)
  have q2 : ((p : Int)).toNat = p := by omega
  have q3 : (x.s - n == 0) = (x.s == n) := by
   rw [Bool.eq_iff_iff, beq_iff_eq, beq_iff_eq]; omega
  simp (maxSteps := 100000000) only [ivc, anf, vlen, vbuiltin, nilR, eq_self, Nat.reduceEqDiff, Nat.reduceLT, Nat.reduceLeDiff, Nat.reduceAdd, Nat.reduceMul, Nat.reduceBEq, reduceCtorEq, ↓reduceIte, tyb, fn90, enV, lp, q, q2, hg, hb, q3]
  exact some_true (by omega)
 ·have hf : foundM c n = false := by unfold foundM; rw [List.getElem?_eq_none (by omega)]
  rw [hf]
  generalize lowM c n = p at *
  have q : ((p : Int) < c.length) = False := eq_false (by omega)
  simp (maxSteps := 100000000) only [ivc, anf, vlen, vbuiltin, nilR, eq_self, Nat.reduceEqDiff, Nat.reduceLT, Nat.reduceLeDiff, Nat.reduceAdd, Nat.reduceBEq, reduceCtorEq, ↓reduceIte, tyb, fn90, lp, q]
def methM (c : List Et) (n : Int) : Int := match c.find? (·.s == n) with
 | some e => e.m
 | none => -1
theorem find_low {n : Int} : ∀ {c : List Et}, (c.map Et.s).Pairwise (· < ·) -> (foundM c n = true -> ∃ e, c[lowM c n]? = some e /\ e.s = n /\ methM c n = e.m) /\ (foundM c n = false -> methM c n = -1)
 | [], _ => ⟨fun h => (by cases h), fun _ => rfl⟩
 | x :: r, hp => by
  rw [List.map_cons, List.pairwise_cons] at hp
  have ih := find_low (n := n) hp.2
  by_cases hx : x.s < n
  ·have e1 : lowM (x :: r) n = lowM r n + 1 := by rw [lowM, if_pos hx]
   have e2 : foundM (x :: r) n = foundM r n := by unfold foundM; rw [e1]; rfl
   have e3 : methM (x :: r) n = methM r n := by
    unfold methM
    rw [List.find?_cons_of_neg (by simp; omega)]
   rw [e1, e2, e3]
   exact ih
  ·have e1 : lowM (x :: r) n = 0 := by rw [lowM, if_neg hx]
   have e2 : foundM (x :: r) n = (x.s == n) := by unfold foundM; rw [e1]; rfl
   rw [e1, e2]
   refine ⟨fun h => ⟨x, rfl, beq_iff_eq.1 h, ?_⟩, fun h => ?_⟩
   ·unfold methM
    rw [List.find?_cons_of_pos (by simpa using h)]
   ·unfold methM
    have hn : (x :: r).find? (·.s == n) = none := by
     rw [List.find?_eq_none]
     intro y hy hys
     rcases List.mem_cons.1 hy with rfl | hy
     ·rw [h] at hys; cases hys
     ·have := hp.1 y.s (List.mem_map.2 ⟨y, hy, rfl⟩)
      have := beq_iff_eq.1 hys
      omega
    rw [hn]
theorem method_ev {w : Wd} {k : Nat} {c : List Et} {n : Int} (hk : w.classes[k]? = some c) (hl : c.length ≤ 1000000) (hp : (c.map Et.s).Pairwise (· < ·)) (hr : ∀ e ∈ c, i64r (e.s - n)) :
  E.F 75 [wdV w, .int .i64 k, .int .i64 n] [] = some ((.int .i64 (methM c n), []), True) := by
 have hkl := (List.getElem?_eq_some_iff.1 hk).1
 have hgk := getD_map (f := clV) hk
 have hck : (0 ≤ (k : Int) /\ (k : Int) < w.classes.length) = True := eq_true (by omega)
 have hkn : ((k : Int)).toNat = k := by omega
 have b := bs_ev hl hp hr
 obtain ⟨f1, f2⟩ := find_low (n := n) hp
 rw [e75]
 cases hf : foundM c n with
 | true =>
  rw [hf] at b
  obtain ⟨e, h1, h2, h3⟩ := f1 hf
  rw [h3]
  have hg := getD_map (f := enV) h1
  have hlt := (List.getElem?_eq_some_iff.1 h1).1
  generalize lowM c n = p at *
  have q1 : (0 ≤ (p : Int) /\ (p : Int) < c.length) = True := eq_true (by omega)
  have q2 : ((p : Int)).toNat = p := by omega
  simp only [fn90] at b
  simp (maxSteps := 100000000) only [ivc, anf, vop, salloc, eq_self, Nat.reduceEqDiff, Nat.reduceLT, Nat.reduceLeDiff, Nat.reduceAdd, Nat.reduceMul, Nat.reduceBEq, Int.reduceNeg, reduceCtorEq, ↓reduceIte, tyb, wdV, clV, enV, hgk, hck, hkn, b, hg, q1, q2]
 | false =>
  rw [hf] at b
  rw [f2 hf]
  simp only [fn90] at b
  simp (maxSteps := 100000000) only [ivc, anf, vop, salloc, eq_self, Nat.reduceEqDiff, Nat.reduceLT, Nat.reduceLeDiff, Nat.reduceAdd, Nat.reduceMul, Nat.reduceBEq, Int.reduceNeg, reduceCtorEq, ↓reduceIte, tyb, wdV, clV, hgk, hck, hkn, b]
def getB (M : List Bool) (n : Nat) : Bool := M.getD n false
theorem getBo {l : List Bool} {i : Nat} (h : i < l.length) : (l.map AV.bool).getD i .junk = .bool (getB l i) := by
 simp [getB, List.getD_eq_getElem?_getD, List.getElem?_eq_getElem h]
def bxH (M : List Bool) (lo : Nat) (R Q : List Int) : HL := [(100000, ⟨true, 1, [.sl 100002 0 M.length]⟩), (100001, ⟨true, 1, [.sl 100003 lo Q.length]⟩), (100002, bR M), (100003, iR R)]
def bxO (M : List Bool) (lo : Nat) (R Q : List Int) : HL := [(100000, ⟨true, 1, [.sl 200000 0 M.length]⟩), (100001, ⟨true, 1, [.sl 200001 lo Q.length]⟩), (200000, bR M), (200001, iR R)]
theorem rc73_no {n : Int} {M : List Bool} {lo : Nat} {R Q : List Int} (hn : n < M.length) (h : n < 0 \/ getB M n.toNat = true) :
  E.F 73 [.int .i64 n, .ptr 100000 0 0, .ptr 100001 0 0] (bxH M lo R Q) = some ((.tup [], bxO M lo R Q), True) := by
 rw [e73]
 by_cases h0 : 0 ≤ n
 ·have hb : getB M n.toNat = true := h.resolve_left (by omega)
  have k1 := getBo (l := M) (i := n.toNat) (by omega)
  rw [hb] at k1
  have q : (0 ≤ n /\ n < M.length) = True := eq_true ⟨h0, hn⟩
  simp (maxSteps := 100000000) only [ivc, anf, vop, nilR, eq_self, Nat.reduceEqDiff, Nat.reduceLT, Nat.reduceLeDiff, Nat.reduceAdd, Nat.reduceBEq, reduceCtorEq, ↓reduceIte, tyb, bxH, bxO, bR, iR, h0, k1]
  exact some_true (by omega)
 ·simp (maxSteps := 100000000) only [ivc, anf, vop, nilR, eq_self, Nat.reduceEqDiff, Nat.reduceLT, Nat.reduceLeDiff, Nat.reduceAdd, Nat.reduceBEq, Int.reduceNeg, reduceCtorEq, ↓reduceIte, tyb, bxH, bxO, bR, iR, h0]
theorem rc73_go {n : Int} {M : List Bool} {lo : Nat} {R Q : List Int} (hR : R.drop lo = Q) (hQ : R.length ≤ 1000000) (h0 : 0 ≤ n) (hn : n < M.length) (h : getB M n.toNat = false) :
  E.F 73 [.int .i64 n, .ptr 100000 0 0, .ptr 100001 0 0] (bxH M lo R Q) = some ((.tup [], bxO (M.set n.toNat true) 0 (Q ++ [n]) (Q ++ [n])), True) := by
 rw [e73]
 have k1 := getBo (l := M) (i := n.toNat) (by omega)
 rw [h] at k1
 have q : (0 ≤ n /\ n < M.length) = True := eq_true ⟨h0, hn⟩
 have tk : List.take Q.length (List.drop lo (R.map (AV.int .i64))) = Q.map (AV.int .i64) := by
  rw [<- List.map_drop, hR]; exact List.take_of_length_le (by simp)
 have hql : Q.length ≤ 1000000 := by rw [<- hR, List.length_drop]; omega
 simp (maxSteps := 100000000) only [ivc, anf, vop, nilR, salloc, sappend, eq_self, Nat.reduceEqDiff, Nat.reduceLT, Nat.reduceLeDiff, Nat.reduceAdd, Nat.reduceBEq, reduceCtorEq, ↓reduceIte, tyb, bxH, bxO, bR, iR, h0, k1, tk, set_map, List.length_set]
 exact some_true (by omega)
end Go.Proofs.YtikppcfabnnhfaaDoor

