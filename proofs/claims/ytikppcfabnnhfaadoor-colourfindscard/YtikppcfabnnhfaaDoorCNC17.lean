/- Least. -/
import Derived.Test.YtikppcfabnnhfaaDoorCNC16
namespace Go.Proofs.YtikppcfabnnhfaaDoor
open Go Go.Aw
set_option linter.unusedSimpArgs false
set_option linter.unusedVariables false
set_option maxRecDepth 100000
set_option maxHeartbeats 40000000
/-- The selectors that are understood, from a on. -/
def knI (g : List Int) : Nat → Int → List Int
  | 0, _ => []
  | k + 1, a => (if hasW g 0 a = true then [a] else []) ++ knI g k (a + 1)
def knW (g : List Int) : List Int := knI g 500 0
theorem knI_mem {g : List Int} {x : Int} : ∀ {k : Nat} {a : Int}, x ∈ knI g k a ↔ a ≤ x ∧ x < a + k ∧ hasW g 0 x = true := by
  intro k
  induction k with
  | zero => intro a; simp only [knI, List.not_mem_nil, false_iff]; omega
  | succ k ih =>
    intro a
    rw [knI, List.mem_append, ih]
    constructor
    · rintro (h | ⟨h1, h2, h3⟩)
      · split at h
        · rename_i hh
          rw [List.mem_singleton] at h
          subst h
          exact ⟨by omega, by omega, hh⟩
        · cases h
      · exact ⟨by omega, by omega, h3⟩
    · rintro ⟨h1, h2, h3⟩
      by_cases hx : x = a
      · subst hx
        rw [if_pos h3]
        exact .inl (by simp)
      · exact .inr ⟨by omega, by omega, h3⟩
theorem knI_nodup {g : List Int} : ∀ {k : Nat} {a : Int}, (knI g k a).Nodup := by
  intro k
  induction k with
  | zero => intro a; exact List.nodup_nil
  | succ k ih =>
    intro a
    rw [knI]
    split
    · exact List.nodup_cons.2 ⟨fun h => by have := (knI_mem.1 h).1; omega, ih⟩
    · exact ih
theorem knI_len {g : List Int} : ∀ {k : Nat} {a : Int}, (knI g k a).length ≤ k := by
  intro k
  induction k with
  | zero => intro a; exact Nat.le_refl 0
  | succ k ih =>
    intro a
    have := ih (a := a + 1)
    rw [knI, List.length_append]
    split <;> simp <;> omega
theorem kn_loop {g : List Int} (hg : g.length = 4008) : ∀ (k : Nat) (a : Int) (m : List Int), a + k = 500 → 0 ≤ a → m.length ≤ a →
    E.L 15 10 [.ptr 60000 0 0, .sl 60001 0 m.length, .int .i64 a] [(60000, gO g), (60001, iR m)] = some ((.exit 0, [.ptr 60000 0 0, .sl 60001 0 (m ++ knI g k a).length, .int .i64 500], [(60000, gO g), (60001, iR (m ++ knI g k a))]), True) := by
  intro k
  induction k with
  | zero =>
    intro a m h ha hm
    have h' : a = 500 := by omega
    subst h'
    rw [l15_10]
    simp (maxSteps := 100000000) only [ivc, anf, nilR, eq_self, Nat.reduceEqDiff, Nat.reduceLT, Nat.reduceLeDiff, Nat.reduceAdd, Nat.reduceBEq, Int.reduceLT, reduceCtorEq, ↓reduceIte, tyb, iR, gO, ldb, knI]
  | succ k ih =>
    intro a m h ha hm
    have q2 : a < 500 := by omega
    have hw : IntKind.i64.wrap (a + 1) = a + 1 := wrap_id (by omega) (by omega)
    have c := hasr_ev (l := g) (c := 0) (n := a) ha (by omega) (by omega)
    by_cases h1 : hasW g 0 a = true
    · have ih' := ih (a + 1) (m ++ [a]) (by omega) (by omega) (by simp; omega)
      simp only [iR, gO, List.map_append, List.map_cons, List.map_nil, List.length_append, List.length_cons, List.length_nil, Nat.zero_add, List.append_assoc, List.cons_append, List.nil_append] at ih'
      rw [l15_10]
      rw [h1] at c
      simp (maxSteps := 100000000) only [ivc, anf, vop, nilR, salloc, sappend, eq_self, Nat.reduceEqDiff, Nat.reduceLT, Nat.reduceLeDiff, Nat.reduceAdd, Nat.reduceBEq, reduceCtorEq, ↓reduceIte, tyb, iR, gO, ldb, agg_imm, knI, q2, hw, c, h1, ih']
      exact some_true (by omega)
    · have ih' := ih (a + 1) m (by omega) (by omega) (by omega)
      have h1' : hasW g 0 a = false := by simpa using h1
      simp only [iR, gO] at ih'
      rw [l15_10]
      rw [h1'] at c
      simp (maxSteps := 100000000) only [ivc, anf, vop, nilR, eq_self, Nat.reduceEqDiff, Nat.reduceLT, Nat.reduceLeDiff, Nat.reduceAdd, Nat.reduceBEq, reduceCtorEq, ↓reduceIte, tyb, iR, gO, ldb, agg_imm, knI, q2, hw, c, h1', ih']
theorem kn_all {g : List Int} (hg : g.length = 4008) : E.L 15 10 [.ptr 60000 0 0, .sl 60001 0 0, .int .i64 0] [(60000, gO g), (60001, iR [])] = some ((.exit 0, [.ptr 60000 0 0, .sl 60001 0 (knW g).length, .int .i64 500], [(60000, gO g), (60001, iR (knW g))]), True) := by
  have h := kn_loop hg 500 0 [] (by omega) (by omega) (by simp)
  rw [List.nil_append] at h
  exact h
/-- Colours, none yet. -/
def ms (n : Nat) : List Int := List.replicate n (-1)
theorem rep_ms {n : Nat} (hn : n ≤ 1000000) : E.F 43 [.sl 100000 0 1, .int .i64 n] [(100000, ⟨false, 1, [.int .i64 (-1)]⟩)] = some ((.sl 200000 0 n, [(200000, ⟨false, 1, (ms n).map (AV.int .i64)⟩), (100000, ⟨false, 1, [.int .i64 (-1)]⟩)]), True) := rep1_ev hn
theorem ms_len {n : Nat} : (ms n).length = n := by simp [ms]
theorem ms_ok : okC (ms 500) := ⟨ms_len, fun c hc => by have := List.eq_of_mem_replicate hc; omega⟩
theorem ms_get {n i : Nat} (h : i < n) : (ms n).getD i 0 = -1 := by
  simp [ms, List.getD_eq_getElem?_getD, h]
def minM (g L cs : List Int) : Nat → Int → Int
  | 0, m => m
  | k + 1, m => if (colM g m L cs).isSome = true then m else minM g L cs k (m + 1)
theorem min_loop {g L cs : List Int} (hg : g.length = 4008) (hl : L.length ≤ 500) (hL : ∀ s ∈ L, 0 ≤ s ∧ s < 500) (hnd : L.Nodup) (hcs : okC cs) (hneg : ∀ s ∈ L, cs.getD s.toNat 0 = -1) : ∀ (k : Nat) (m : Int), 0 ≤ m → m + k = L.length →
    ∃ cs', E.L 15 17 [.ptr 60000 0 0, .sl 60001 0 L.length, .sl 60002 0 500, .int .i64 m] [(60000, gO g), (60001, iR L), (60002, iR cs)] = some ((.exit 2, [.ptr 60000 0 0, .sl 60001 0 L.length, .sl 60002 0 500, .int .i64 (minM g L cs k m)], [(60000, gO g), (60001, iR L), (60002, iR cs')]), True) := by
  intro k
  induction k with
  | zero =>
    intro m h0 h
    refine ⟨cs, ?_⟩
    have q : (m < L.length) = False := eq_false (by omega)
    rw [l15_17]
    simp (maxSteps := 100000000) only [ivc, anf, vlen, vbuiltin, nilR, eq_self, Nat.reduceEqDiff, Nat.reduceLT, Nat.reduceLeDiff, Nat.reduceAdd, Nat.reduceBEq, reduceCtorEq, ↓reduceIte, tyb, iR, gO, ldb, minM, q]
  | succ k ih =>
    intro m h0 h
    have q : (m < L.length) = True := eq_true (by omega)
    have hw : IntKind.i64.wrap (m + 1) = m + 1 := wrap_id (by omega) (by omega)
    have c := col_ev (g := g) (L := L) (most := m) hg h0 (by omega) hl hL L [] cs rfl hnd hcs hneg
    cases hc : colM g m L cs with
    | none =>
      obtain ⟨cs', ih'⟩ := ih (m + 1) (by omega) (by omega)
      refine ⟨cs', ?_⟩
      rw [hc] at c
      have e : minM g L cs (k + 1) m = minM g L cs k (m + 1) := by rw [minM, hc]; rfl
      rw [e]
      simp only [coH, gO, iR, List.length_nil, Option.isSome_none, Option.getD_none] at c ih'
      rw [l15_17]
      simp (maxSteps := 100000000) only [ivc, anf, vlen, vbuiltin, nilR, eq_self, Nat.reduceEqDiff, Nat.reduceLT, Nat.reduceLeDiff, Nat.reduceAdd, Nat.reduceMul, Nat.reduceBEq, reduceCtorEq, ↓reduceIte, tyb, iR, gO, ldb, q, hw, c, ih']
    | some x =>
      refine ⟨x, ?_⟩
      rw [hc] at c
      have e : minM g L cs (k + 1) m = m := by rw [minM, hc]; rfl
      rw [e]
      simp only [coH, gO, iR, List.length_nil, Option.isSome_some, Option.getD_some] at c
      rw [l15_17]
      simp (maxSteps := 100000000) only [ivc, anf, vlen, vbuiltin, nilR, eq_self, Nat.reduceEqDiff, Nat.reduceLT, Nat.reduceLeDiff, Nat.reduceAdd, Nat.reduceMul, Nat.reduceBEq, reduceCtorEq, ↓reduceIte, tyb, iR, gO, ldb, q, c]
def leastW (g : List Int) : Int := minM g (knW g) (ms 500) (knW g).length 0
theorem least15_ev {w : Wd} (ok : ckM w = 0 → okW w) : E.F 15 [wdV w] [] = some ((if ckM w = 0 then if 12 < cntM (graphW w) 8 then .tup [.int .i64 0, .int .i64 8] else .tup [.int .i64 (leastW (graphW w)), .int .i64 0] else .tup [.int .i64 0, .int .i64 (ckM w)], []), True) := by
  have h1 := check_ev (w := w)
  rw [e15]
  by_cases h : ckM w = 0
  · rw [if_pos h]
    rw [h] at h1
    have h2 := graph_ev (ok h)
    have hg : (graphW w).length = 4008 := graphW_len
    generalize graphW w = g at h2 hg ⊢
    have h3 := count_ev hg
    have hk := kn_all hg
    have hL : ∀ s ∈ knW g, 0 ≤ s ∧ s < 500 := fun s hs => by have := knI_mem.1 hs; omega
    have hr := rep_ms (n := 500) (by omega)
    have hneg : ∀ s ∈ knW g, (ms 500).getD s.toNat 0 = -1 := fun s hs => by
      have := hL s hs
      exact ms_get (by omega)
    obtain ⟨cs', h4⟩ := min_loop (L := knW g) (cs := ms 500) hg knI_len hL knI_nodup ms_ok hneg (knW g).length 0 (by omega) (by omega)
    simp only [wdV] at h1 h2
    simp only [gO, gR, iR, List.map_nil, Int.cast_ofNat_Int] at h2 h3 hk hr h4
    by_cases hc : 12 < cntM g 8
    · rw [if_pos hc]
      simp (maxSteps := 100000000) only [ivc, anf, vop, nilR, salloc, eq_self, Nat.reduceEqDiff, Nat.reduceLT, Nat.reduceLeDiff, Nat.reduceAdd, Nat.reduceMul, Nat.reduceBEq, Int.reduceNeg, ↓reduceIte, tyb, wdV, ldb, agg_imm, h1, h2, h3, hc]
    · rw [if_neg hc]
      simp (maxSteps := 100000000) only [ivc, anf, vop, nilR, salloc, eq_self, Nat.reduceEqDiff, Nat.reduceLT, Nat.reduceLeDiff, Nat.reduceAdd, Nat.reduceMul, Nat.reduceBEq, Int.reduceNeg, reduceCtorEq, ↓reduceIte, tyb, wdV, ldb, agg_imm, h1, h2, h3, hc, hk, hr, h4, leastW]
  · rw [if_neg h]
    have h' : (ckM w != 0) = true := by simp [h]
    simp only [wdV] at h1
    simp (maxSteps := 100000000) only [ivc, anf, nilR, salloc, eq_self, Nat.reduceEqDiff, Nat.reduceLT, Nat.reduceLeDiff, Nat.reduceAdd, Nat.reduceBEq, Int.reduceNeg, ↓reduceIte, tyb, wdV, h1, h']
end Go.Proofs.YtikppcfabnnhfaaDoor
