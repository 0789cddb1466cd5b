/- ColourReaches: Check, Reach and Conflicts of any world return the results of the reference, or its error; for worlds as the statement’s guard lets them in. The package's table math/bits.deBruijn64tab is as the program's text lays it. -/
import Derived.Test.YtikppcfabnnhfaaDoorC5
/- Plain: the reference's CheckColours is the program's. -/
namespace Go.Proofs.YtikppcfabnnhfaaDoor
open Go Go.Aw
set_option linter.unusedSimpArgs false
set_option linter.unusedVariables false
set_option maxRecDepth 100000
theorem mth_pos {s : Int} : ∀ {c : List Et}, (∀ e ∈ c, 0 ≤ e.m) -> (0 ≤ mthL c s ↔ s ∈ c.map Et.s)
 | [], _ => by simp [mthL]
 | e :: r, h => by
  have ih := mth_pos (s := s) (c := r) (fun x hx => h x (by simp [hx]))
  have he := h e (by simp)
  rw [mthL, List.map_cons, List.mem_cons]
  by_cases b : e.s = s
  ·rw [if_pos (beq_iff_eq.2 b)]
   exact ⟨fun _ => .inl b.symm, fun _ => he⟩
  ·rw [if_neg (fun q => b (beq_iff_eq.1 q)), ih]
   exact ⟨.inr, fun q => q.elim (fun q => absurd q.symm b) id⟩
theorem cfB_iff {w : Wd} (g : Good w) {a b : Int} : cfB w a b = true ↔ a ≠ b /\ ∃ c ∈ w.classes, a ∈ c.map Et.s /\ b ∈ c.map Et.s := by
 unfold cfB
 rw [List.any_eq_true]
 constructor
 ·rintro ⟨c, hc, h⟩
  simp only [cf1, Bool.and_eq_true, decide_eq_true_eq, bne_iff_ne] at h
  have hm : ∀ e ∈ c, 0 ≤ e.m := fun e he => (g.ent c hc e he).2.1
  exact ⟨h.1, c, hc, (mth_pos hm).1 h.2.1, (mth_pos hm).1 h.2.2⟩
 ·rintro ⟨hne, c, hc, h1, h2⟩
  have hm : ∀ e ∈ c, 0 ≤ e.m := fun e he => (g.ent c hc e he).2.1
  refine ⟨c, hc, ?_⟩
  simp only [cf1, Bool.and_eq_true, decide_eq_true_eq, bne_iff_ne]
  exact ⟨hne, (mth_pos hm).2 h1, (mth_pos hm).2 h2⟩
theorem cfB_near {w : Wd} (g : Good w) {a b : Int} (ha : selN a) (hb : selN b) : cfB w a b = hasW (graphW w) (nb a) b :=
 Bool.eq_iff_iff.2 ((cfB_iff g).trans (nearW ha hb (clsok_of g)).symm)
theorem setB {l : List Bool} {n i : Nat} (h : n < l.length) : (l.set n true).getD i false = (decide (i = n) || l.getD i false) := by
 rw [List.getD_eq_getElem?_getD, List.getD_eq_getElem?_getD, List.getElem?_set]
 by_cases hi : n = i
 ·subst hi
  simp [h]
 ·simp [hi]
  exact fun q => absurd q.symm hi
theorem unL_get {i : Nat} : ∀ {c : List Et} {u : List Bool}, (∀ e ∈ c, e.s.toNat < u.length) -> ((unL c u).getD i false = true ↔ u.getD i false = true \/ ∃ e ∈ c, e.s.toNat = i)
 | [], u, _ => by simp [unL]
 | x :: c, u, h => by
  rw [show unL (x :: c) u = unL c (u.set x.s.toNat true) from rfl, unL_get (fun e he => by rw [List.length_set]; exact h e (by simp [he])), setB (h x (by simp)), Bool.or_eq_true, decide_eq_true_eq]
  constructor
  ·rintro ((h | h) | ⟨e, he, h⟩)
   ·exact .inr ⟨x, by simp, Eq.symm h⟩
   ·exact .inl h
   ·exact .inr ⟨e, by simp [he], h⟩
  ·rintro (h | ⟨e, he, h⟩)
   ·exact .inl (.inr h)
   ·rcases List.mem_cons.1 he with q | he
    ·exact .inl (.inl (q ▸ Eq.symm h))
    ·exact .inr ⟨e, he, h⟩
theorem unM_get {i : Nat} : ∀ {cs : List (List Et)} {u : List Bool}, (∀ c ∈ cs, ∀ e ∈ c, e.s.toNat < u.length) -> ((unM cs u).getD i false = true ↔ u.getD i false = true \/ ∃ c ∈ cs, ∃ e ∈ c, e.s.toNat = i)
 | [], u, _ => by simp [unM]
 | x :: c, u, h => by
  rw [show unM (x :: c) u = unM c (unL x u) from rfl, unM_get (fun k hk e he => by rw [unL_len]; exact h k (by simp [hk]) e he), unL_get (h x (by simp))]
  constructor
  ·rintro ((h | h) | ⟨k, hk, h⟩)
   ·exact .inl h
   ·exact .inr ⟨x, by simp, h⟩
   ·exact .inr ⟨k, by simp [hk], h⟩
  ·rintro (h | ⟨k, hk, h⟩)
   ·exact .inl (.inl h)
   ·rcases List.mem_cons.1 hk with q | hk
    ·exact .inl (.inr (q ▸ h))
    ·exact .inr ⟨k, hk, h⟩
theorem moL_at : ∀ {c : List Et} {n : Int}, moL c n = n \/ ∃ e ∈ c, moL c n = e.s + 1
 | [], n => .inl rfl
 | x :: c, n => by
  rw [show moL (x :: c) n = moL c (maxI n (x.s + 1)) from rfl]
  rcases moL_at (c := c) (n := maxI n (x.s + 1)) with h | ⟨e, he, h⟩
  ·rw [h]
   unfold maxI
   split
   ·exact .inr ⟨x, by simp, rfl⟩
   ·exact .inl rfl
  ·exact .inr ⟨e, by simp [he], h⟩
theorem moM_at : ∀ {cs : List (List Et)} {n : Int}, moM cs n = n \/ ∃ c ∈ cs, ∃ e ∈ c, moM cs n = e.s + 1
 | [], n => .inl rfl
 | x :: c, n => by
  rw [show moM (x :: c) n = moM c (moL x n) from rfl]
  rcases moM_at (cs := c) (n := moL x n) with h | ⟨k, hk, e, he, h⟩
  ·rw [h]
   rcases moL_at (c := x) (n := n) with h | ⟨e, he, h⟩
   ·exact .inl h
   ·exact .inr ⟨x, by simp, e, he, h⟩
  ·exact .inr ⟨k, by simp [hk], e, he, h⟩
theorem moM_sz {w : Wd} (g : Good w) : moM w.classes 0 = szM (graphW w) 500 := by
 have hs : ∀ c ∈ w.classes, ∀ e ∈ c, 0 ≤ e.s /\ e.s < 500 := fun c hc e he => (g.ent c hc e he).1
 obtain ⟨a1, a2, a3⟩ := moM_rng (n := 0) hs (by omega) (by omega)
 have z := szM_spec (g := graphW w) (n := 500)
 have hz := szM_le (graphW w) 500
 have h1 : (szM (graphW w) 500 : Int) ≤ moM w.classes 0 := by
  rcases Nat.eq_zero_or_pos (szM (graphW w) 500) with h | h
  ·omega
  ·have := z.2 (szM (graphW w) 500 - 1) (by omega)
   rw [knownW ⟨by omega, by omega⟩ (clsok_of g)] at this
   obtain ⟨c, hc, hm⟩ := this
   obtain ⟨e, he, h2⟩ := List.mem_map.1 hm
   have := a3 c hc e he
   omega
 rcases moM_at (cs := w.classes) (n := 0) with h | ⟨c, hc, e, he, h⟩
 ·omega
 ·have h5 := hs c hc e he
  have hk := (knownW (m := e.s) h5 (clsok_of g)).2 ⟨c, hc, List.mem_map.2 ⟨e, he, rfl⟩⟩
  rw [show e.s = ((e.s.toNat : Nat) : Int) by omega] at hk
  have := szM_lt hk (n := 500) (by omega)
  omega
theorem unW_sz {w : Wd} (g : Good w) : (unW w).length = szM (graphW w) 500 := by
 have := moM_sz g
 rw [unW_len]
 omega
theorem unW_get {w : Wd} (g : Good w) {i : Nat} (hi : i < (unW w).length) : (unW w).getD i false = hasW (graphW w) 0 i := by
 have hs : ∀ c ∈ w.classes, ∀ e ∈ c, 0 ≤ e.s /\ e.s < 500 := fun c hc e he => (g.ent c hc e he).1
 obtain ⟨a1, a2, a3⟩ := moM_rng (n := 0) hs (by omega) (by omega)
 rw [unW_len] at hi
 refine Bool.eq_iff_iff.2 ?_
 rw [knownW ⟨by omega, by omega⟩ (clsok_of g)]
 unfold unW
 rw [unM_get (fun c hc e he => by have := a3 c hc e he; have := hs c hc e he; rw [fals, List.length_replicate]; omega)]
 have : (fals (moM w.classes 0).toNat).getD i false = false := by
  rw [List.getD_eq_getElem?_getD, fals, List.getElem?_replicate]
  split <;> rfl
 rw [this]
 constructor
 ·rintro (h | ⟨c, hc, e, he, h⟩)
  ·cases h
  ·exact ⟨c, hc, List.mem_map.2 ⟨e, he, by have := hs c hc e he; omega⟩⟩
 ·rintro ⟨c, hc, hm⟩
  obtain ⟨e, he, h⟩ := List.mem_map.1 hm
  exact .inr ⟨c, hc, e, he, by omega⟩
structure Arr (m cs arr : List Int) : Prop where
 len : arr.length = 500
 same : ∀ j, j < m.length -> arr.getD (m.getD j 0).toNat 0 = cs.getD j 0
 only : ∀ i : Nat, i < 500 -> 0 ≤ arr.getD i 0 -> ∃ j, j < m.length /\ m.getD j 0 = i
 bd : ∀ c ∈ arr, -1 ≤ c /\ c < 500
theorem ls_kn {g : List Int} : ∀ {U : List Bool} {n : Int}, (∀ i, i < U.length -> U.getD i false = hasW g 0 (n + i)) -> lsM U n = knI g U.length n
 | [], _, _ => rfl
 | b :: U, n, h => by
  have h0 := h 0 (by simp)
  rw [show (b :: U).getD 0 false = b from rfl, Int.natCast_zero, Int.add_zero] at h0
  rw [lsM, List.length_cons, knI, h0, ls_kn (U := U) (n := n + 1) (fun i hi => by
   have := h (i + 1) (by simp; omega)
   rw [show (b :: U).getD (i + 1) false = U.getD i false from rfl] at this
   rw [this]
   congr 1
   omega)]
theorem knI_none {g : List Int} : ∀ {k : Nat} {a : Int}, (∀ x, a ≤ x -> x < a + k -> hasW g 0 x = false) -> knI g k a = []
 | 0, _, _ => rfl
 | k + 1, a, h => by
  rw [knI, h a (Int.le_refl _) (by omega), knI_none (fun x h1 h2 => h x (by omega) (by omega))]
  rfl
theorem knI_cut {g : List Int} {z : Nat} (hz : z ≤ 500) (h : ∀ x : Nat, z ≤ x -> x < 500 -> hasW g 0 x = false) : knI g z 0 = knI g 500 0 := by
 have e : 500 = z + (500 - z) := by omega
 rw [e, knI_app, knI_none (a := 0 + (z : Int)) fun x h1 h2 => ?_, List.append_nil]
 have := h x.toNat (by omega) (by omega)
 rw [show ((x.toNat : Nat) : Int) = x by omega] at this
 exact this
theorem nums_kn {w : Wd} (g : Good w) : lsM (unW w) 0 = knW (graphW w) := by
 have hz := szM_le (graphW w) 500
 have hl := unW_sz g
 rw [ls_kn (g := graphW w) (fun i hi => by rw [Int.zero_add]; exact unW_get g hi), hl]
 exact knI_cut hz fun x h1 h2 => (szM_spec (g := graphW w) (n := 500)).1 x h1 h2
end Go.Proofs.YtikppcfabnnhfaaDoor

/- The reference's Conflicts. -/
namespace Go.Proofs.YtikppcfabnnhfaaDoor
open Go Go.Aw
set_option linter.unusedSimpArgs false
set_option linter.unusedVariables false
set_option maxRecDepth 100000
set_option maxHeartbeats 40000000
def rowC (w : Wd) (a : Int) : List Int -> List (Int × Int)
 | [] => []
 | b :: r => (if cfB w a b = true then [(a, b)] else []) ++ rowC w a r
def allC (w : Wd) : List Int -> List (Int × Int)
 | [] => []
 | a :: r => rowC w a r ++ allC w r
theorem rowC_len {w : Wd} {a : Int} : ∀ {r : List Int}, (rowC w a r).length ≤ r.length
 | [] => Nat.le_refl _
 | b :: r => by
  have := rowC_len (w := w) (a := a) (r := r)
  rw [rowC, List.length_append, List.length_cons]
  split <;> simp <;> omega
def cfO (w : Wd) (o : List (Int × Int)) : HL := [(60000, ⟨true, 3, [wdV w]⟩), (60001, ⟨false, 2, o.map pV⟩)]
theorem rci_loop {w : Wd} {l : List Int} {i : Nat} {a : Int} (hl : l.length ≤ 1000) (ha : l[i]? = some a) (hcl : w.classes.length ≤ 1000) (hcs : ∀ c ∈ w.classes, c.length ≤ 1000) : ∀ (r m : List Int) (o : List (Int × Int)), l = m ++ r -> o.length ≤ 1000 * i + m.length ->
  E.L 37 11 [.ptr 60000 0 0, .ro 1 (l.map (AV.int .i64)), .sl 60001 0 o.length, .int .i64 i, .int .i64 m.length] (cfO w o) = some ((.exit 2, [.ptr 60000 0 0, .ro 1 (l.map (AV.int .i64)), .sl 60001 0 (o ++ rowC w a r).length, .int .i64 i, .int .i64 l.length], cfO w (o ++ rowC w a r)), True) := by
 have hil := (List.getElem?_eq_some_iff.1 ha).1
 have hga := getD_map (f := AV.int .i64) ha
 have r2 : ((i : Int) < l.length) = True := eq_true (by omega)
 have r3 : (0 ≤ (i : Int)) = True := eq_true (by omega)
 intro r
 induction r with
 | nil =>
  intro m o h ho
  rw [List.append_nil] at h
  subst h
  have q : ((l.length : Int) < l.length) = False := eq_false (by omega)
  rw [l37_11, rowC, List.append_nil]
  simp (maxSteps := 100000000) only [ivc, anf, vlen, vbuiltin, nilR, eq_self, Nat.reduceEqDiff, Nat.reduceLT, Nat.reduceLeDiff, Nat.reduceAdd, Nat.reduceBEq, reduceCtorEq, ↓reduceIte, tyb, cfO, wdV, q]
 | cons x r ih =>
  intro m o h ho
  have hn : m.length + (r.length + 1) = l.length := by rw [h]; simp
  have hi' : (m.length : Int) < l.length := by omega
  have hg := getD_map (f := AV.int .i64) (show l[m.length]? = some x by rw [h]; simp)
  have hw : IntKind.i64.wrap ((m.length : Int) + 1) = m.length + 1 := wrap_id (by omega) (by omega)
  have hc0 : (0 ≤ (m.length : Int)) = True := eq_true (by omega)
  have cv := conflict_ev (w := w) (a := a) (b := x) hcl hcs
  simp only [wdV] at cv
  cases b : cfB w a x with
  | true =>
   have ih' := ih (m ++ [x]) (o ++ [(a, x)]) (by simp [h]) (by simp; omega)
   rw [b] at cv
   rw [rowC, b, if_pos rfl, <- List.append_assoc]
   generalize o ++ [(a, x)] ++ rowC w a r = O at ih' ⊢
   simp only [List.length_append, List.length_cons, List.length_nil, Nat.zero_add, Int.natCast_add, Int.cast_ofNat_Int, cfO, wdV, pV, List.map_append, List.map_cons, List.map_nil] at ih'
   rw [l37_11]
   simp (maxSteps := 100000000) only [ivc, anf, vop, vlen, vbuiltin, nilR, salloc, sappend, eq_self, Nat.reduceEqDiff, Nat.reduceLT, Nat.reduceLeDiff, Nat.reduceAdd, Nat.reduceMul, Nat.reduceSub, Nat.reduceBEq, reduceCtorEq, ↓reduceIte, tyb, cfO, wdV, hga, r2, r3, hi', hg, hw, hc0, cv, ih']
   try exact some_true (by omega)
  | false =>
   have ih' := ih (m ++ [x]) o (by simp [h]) (by simp; omega)
   rw [b] at cv
   rw [rowC, b, if_neg (by simp), List.nil_append]
   generalize o ++ rowC w a r = O at ih' ⊢
   simp only [List.length_append, List.length_cons, List.length_nil, Nat.zero_add, Int.natCast_add, Int.cast_ofNat_Int, cfO, wdV] at ih'
   rw [l37_11]
   simp (maxSteps := 100000000) only [ivc, anf, vlen, vbuiltin, nilR, eq_self, Nat.reduceEqDiff, Nat.reduceLT, Nat.reduceLeDiff, Nat.reduceAdd, Nat.reduceBEq, reduceCtorEq, ↓reduceIte, tyb, cfO, wdV, hga, r2, r3, hi', hg, hw, hc0, cv, ih']
   try exact some_true (by omega)
theorem rco_loop {w : Wd} {l : List Int} (hl : l.length ≤ 1000) (hcl : w.classes.length ≤ 1000) (hcs : ∀ c ∈ w.classes, c.length ≤ 1000) : ∀ (r m : List Int) (o : List (Int × Int)), l = m ++ r -> o.length ≤ 1000 * m.length ->
  E.L 37 8 [.ptr 60000 0 0, .ro 1 (l.map (AV.int .i64)), .sl 60001 0 o.length, .int .i64 m.length] (cfO w o) = some ((.exit 0, [.ptr 60000 0 0, .ro 1 (l.map (AV.int .i64)), .sl 60001 0 (o ++ allC w r).length, .int .i64 l.length], cfO w (o ++ allC w r)), True) := by
 intro r
 induction r with
 | nil =>
  intro m o h ho
  rw [List.append_nil] at h
  subst h
  have q : ((l.length : Int) < l.length) = False := eq_false (by omega)
  rw [l37_8, allC, List.append_nil]
  simp (maxSteps := 100000000) only [ivc, anf, vlen, vbuiltin, nilR, eq_self, Nat.reduceEqDiff, Nat.reduceLT, Nat.reduceLeDiff, Nat.reduceAdd, Nat.reduceBEq, reduceCtorEq, ↓reduceIte, tyb, cfO, wdV, q]
 | cons x r ih =>
  intro m o h ho
  have hn : m.length + (r.length + 1) = l.length := by rw [h]; simp
  have hi' : (m.length : Int) < l.length := by omega
  have hm : l[m.length]? = some x := by rw [h]; simp
  have hw : IntKind.i64.wrap ((m.length : Int) + 1) = m.length + 1 := wrap_id (by omega) (by omega)
  have rl := rowC_len (w := w) (a := x) (r := r)
  have lp := rci_loop (w := w) hl hm hcl hcs r (m ++ [x]) o (by simp [h]) (by simp; omega)
  have ih' := ih (m ++ [x]) (o ++ rowC w x r) (by simp [h]) (by simp; omega)
  rw [List.append_assoc] at ih'
  rw [show allC w (x :: r) = rowC w x r ++ allC w r from rfl]
  generalize o ++ (rowC w x r ++ allC w r) = O at ih' ⊢
  generalize o ++ rowC w x r = P at ih' lp
  simp only [List.length_append, List.length_cons, List.length_nil, Nat.zero_add, Int.natCast_add, Int.cast_ofNat_Int, cfO, wdV] at ih' lp
  rw [l37_8]
  simp (maxSteps := 100000000) only [ivc, anf, vlen, vbuiltin, nilR, eq_self, Nat.reduceEqDiff, Nat.reduceLT, Nat.reduceLeDiff, Nat.reduceAdd, Nat.reduceBEq, reduceCtorEq, ↓reduceIte, tyb, cfO, wdV, hi', hw, lp, ih']
  try exact some_true (by omega)
theorem allC_len {w : Wd} {N : Nat} : ∀ {r : List Int}, r.length ≤ N -> (allC w r).length ≤ N * r.length
 | [], _ => Nat.zero_le _
 | x :: r, h => by
  have a := rowC_len (w := w) (a := x) (r := r)
  rw [List.length_cons] at h
  have b := allC_len (w := w) (N := N) (r := r) (by omega)
  rw [allC, List.length_append, List.length_cons, Nat.mul_add]
  omega
theorem near_kn {w : Wd} (g : Good w) {a b : Int} (ha : selN a) (hb : selN b) (h : hasW (graphW w) (nb a) b = true) : hasW (graphW w) 0 a = true /\ hasW (graphW w) 0 b = true := by
 obtain ⟨_, c, hc, h1, h2⟩ := (nearW ha hb (clsok_of g)).1 h
 exact ⟨(knownW ha (clsok_of g)).2 ⟨c, hc, h1⟩, (knownW hb (clsok_of g)).2 ⟨c, hc, h2⟩⟩
theorem row_same {w : Wd} (g : Good w) {a : Int} (ha : selN a) : ∀ {k : Nat} {b : Int}, 0 ≤ b -> b + k ≤ 500 -> rowC w a (knI (graphW w) k b) = rowI (graphW w) a k b
 | 0, _, _, _ => rfl
 | k + 1, b, h0, h => by
  have sb : selN b := ⟨h0, by omega⟩
  have ih := row_same g ha (k := k) (b := b + 1) (by omega) (by omega)
  rw [knI, rowI]
  cases hb : hasW (graphW w) 0 b with
  | true =>
   rw [if_pos rfl, List.cons_append, List.nil_append, rowC, ih, cfB_near g ha sb]
  | false =>
   rw [if_neg (by simp), List.nil_append, ih]
   cases hn : hasW (graphW w) (nb a) b with
   | false => rfl
   | true =>
    have := (near_kn g ha sb hn).2
    rw [hb] at this
    cases this
theorem row_none {w : Wd} (g : Good w) {a : Int} (ha : selN a) (hk : hasW (graphW w) 0 a = false) : ∀ {k : Nat} {b : Int}, 0 ≤ b -> b + k ≤ 500 -> rowI (graphW w) a k b = []
 | 0, _, _, _ => rfl
 | k + 1, b, h0, h => by
  have sb : selN b := ⟨h0, by omega⟩
  rw [rowI, row_none g ha hk (k := k) (b := b + 1) (by omega) (by omega)]
  cases hn : hasW (graphW w) (nb a) b with
  | false => rfl
  | true =>
   have := (near_kn g ha sb hn).1
   rw [hk] at this
   cases this
theorem all_same {w : Wd} (g : Good w) : ∀ {k : Nat} {a : Int}, 0 ≤ a -> a + k = 500 -> allC w (knI (graphW w) k a) = allI (graphW w) k a
 | 0, _, _, _ => rfl
 | k + 1, a, h0, h => by
  have sa : selN a := ⟨h0, by omega⟩
  have ih := all_same g (k := k) (a := a + 1) (by omega) (by omega)
  rw [knI, allI]
  cases ha : hasW (graphW w) 0 a with
  | true =>
   rw [if_pos rfl, List.cons_append, List.nil_append, allC, ih, row_same g sa (by omega) (by omega)]
  | false =>
   rw [if_neg (by simp), List.nil_append, ih, row_none g sa ha (by omega) (by omega), List.nil_append]
theorem conf_same {w : Wd} (g : Good w) : allC w (knW (graphW w)) = cfM (graphW w) := all_same g (by omega) (by omega)
theorem rconf_ev {w : Wd} : E.F 37 [wdV w] [] = some ((if ckM w = 0 then .tup [.ro 2 ((cfM (graphW w)).map pV), .int .i64 0] else .tup [.ro 2 [], .int .i64 (ckM w)], []), True) := by
 have h1 := rcheck_ev (w := w)
 rw [e37]
 by_cases h : ckM w = 0
 case neg =>
  rw [if_neg h]
  have h' : (ckM w != 0) = true := bne_iff_ne.2 h
  generalize ckM w = v at h1 h' ⊢
  simp only [wdV] at h1
  simp (maxSteps := 100000000) only [ivc, anf, nilR, salloc, eq_self, Nat.reduceEqDiff, Nat.reduceLT, Nat.reduceLeDiff, Nat.reduceAdd, Nat.reduceBEq, ↓reduceIte, tyb, wdV, h1, h']
 rw [if_pos h]
 rw [h] at h1
 have g := good_of h
 have gn := g.nc
 have gs : ∀ c ∈ w.classes, c.length ≤ 1000 /\ ∀ e ∈ c, 0 ≤ e.s /\ e.s < 500 := fun c hc => ⟨by have := g.len c hc; omega, fun e he => (g.ent c hc e he).1⟩
 have h2 := und_ev (w := w) (by omega) gs
 have h3 := numbers_ev (l := unW w) (by have := unW_sz g; have := szM_le (graphW w) 500; omega)
 rw [nums_kn g] at h3
 have kl := knW_le (g := graphW w)
 have lp := rco_loop (w := w) (l := knW (graphW w)) (by omega) (by omega) (fun c hc => (gs c hc).1) (knW (graphW w)) [] [] rfl (by simp)
 have al := allC_len (w := w) (N := 500) (r := knW (graphW w)) (by omega)
 rw [List.nil_append, conf_same g] at lp
 rw [conf_same g] at al
 generalize cfM (graphW w) = P at lp al ⊢
 generalize knW (graphW w) = K at h3 lp kl al
 generalize unW w = U at h2 h3
 have tk : (P.map pV).take P.length = P.map pV := List.take_of_length_le (by simp)
 have pl : P.length ≤ 250000 := by
  have : 500 * K.length ≤ 500 * 500 := Nat.mul_le_mul_left _ kl
  omega
 simp only [List.length_nil, Int.natCast_zero, wdV, cfO, List.map_nil] at h1 h2 lp
 simp (maxSteps := 100000000) only [ivc, anf, nilR, salloc, eq_self, Nat.reduceEqDiff, Nat.reduceLT, Nat.reduceLeDiff, Nat.reduceAdd, Nat.reduceMul, Nat.reduceBEq, reduceCtorEq, ↓reduceIte, tyb, wdV, h1, h2, h3, lp, tk]
 try exact some_true (by omega)
def eR (l : List Et) : Ob := ⟨false, 2, l.map enV⟩
end Go.Proofs.YtikppcfabnnhfaaDoor

/- The example's facts. -/
namespace Go.Proofs.YtikppcfabnnhfaaDoor
open Go Go.Aw
set_option linter.unusedSimpArgs false
set_option linter.unusedVariables false
set_option maxRecDepth 1000000
def exW : Wd := ⟨[[⟨0, 0⟩, ⟨1, 1⟩], [⟨1, 2⟩, ⟨2, 3⟩]], [⟨[], [], []⟩, ⟨[], [], []⟩, ⟨[], [], []⟩, ⟨[], [], []⟩], [0]⟩
def exC : List Et := [⟨0, 0⟩, ⟨2, 0⟩]
theorem ex_ck : ckM exW = 0 := by kernel_rfl
theorem ex_ck2 : ckM (moreW exW exC) = 0 := by kernel_rfl
theorem ex_cnt : cntM (graphW exW) 8 = 3 := by kernel_rfl
theorem ex_sz2 : szM (graphW (moreW exW exC)) 500 = 3 := by kernel_rfl
theorem ex_cc : ccW (graphW exW) [0, 1, 0] = 0 := by kernel_rfl
theorem ex_least : leastW (graphW exW) = 2 := by kernel_rfl
theorem ex_pack : packM [0, 1, 0] exW.classes ([], []) = ([⟨0, 0⟩, ⟨1, 1⟩, ⟨2, 3⟩, ⟨1, 2⟩], [0, 2]) := by kernel_rfl
theorem ex_grow : gwM (graphW (moreW exW exC)) exC [] (ms0 exW exC [0, 1, 0]) [] = some ([0, 1, 2], [2]) := by kernel_rfl
theorem ex_good : Good exW := good_of ex_ck
theorem ex_near {a b : Int} (ha : selN a) (hb : selN b) : hasW (graphW exW) (nb a) b = true ↔ a ≠ b /\ (((a = 0 \/ a = 1) /\ (b = 0 \/ b = 1)) \/ ((a = 1 \/ a = 2) /\ (b = 1 \/ b = 2))) := by
 rw [nearW ha hb (clsok_of ex_good)]
 refine and_congr_right fun _ => ?_
 simp [exW]
 omega
theorem rowI_nil {g : List Int} {a : Int} : ∀ {k : Nat} {b : Int}, (∀ x, b ≤ x -> x < b + k -> hasW g (nb a) x = false) -> rowI g a k b = []
 | 0, _, _ => rfl
 | k + 1, b, h => by
  rw [rowI, h b (by omega) (by omega), rowI_nil (fun x h1 h2 => h x (by omega) (by omega))]
  rfl
theorem allI_nil {g : List Int} : ∀ {k : Nat} {a : Int}, (∀ x y, a ≤ x -> x < y -> y < a + k -> hasW g (nb x) y = false) -> allI g k a = []
 | 0, _, _ => rfl
 | k + 1, a, h => by
  rw [allI, rowI_nil (fun x h1 h2 => h a x (by omega) (by omega) (by omega)), allI_nil (fun x y h1 h2 h3 => h x y (by omega) h2 (by omega))]
  rfl
theorem ex_no {a b : Int} (ha : selN a) (hb : selN b) (h : ¬ (a ≠ b /\ (((a = 0 \/ a = 1) /\ (b = 0 \/ b = 1)) \/ ((a = 1 \/ a = 2) /\ (b = 1 \/ b = 2))))) : hasW (graphW exW) (nb a) b = false := by
 cases hh : hasW (graphW exW) (nb a) b with
 | false => rfl
 | true => exact absurd ((ex_near ha hb).1 hh) h
theorem ex_conf : cfM (graphW exW) = [(0, 1), (1, 2)] := by
 have e0 : hasW (graphW exW) (nb 0) 1 = true := (ex_near (by unfold selN; omega) (by unfold selN; omega)).2 (by omega)
 have e1 : hasW (graphW exW) (nb 1) 2 = true := (ex_near (by unfold selN; omega) (by unfold selN; omega)).2 (by omega)
 have no : ∀ a b : Int, 0 ≤ a -> b < 500 -> a < b -> (a = 0 -> b ≠ 1) -> (a = 1 -> b ≠ 2) -> hasW (graphW exW) (nb a) b = false := fun a b h1 h2 h3 h4 h5 => ex_no (by unfold selN; omega) (by unfold selN; omega) (by omega)
 unfold cfM
 generalize graphW exW = g at e0 e1 no
 rw [show allI g 500 0 = rowI g 0 499 (0 + 1) ++ allI g 499 (0 + 1) from rfl, show rowI g 0 499 (0 + 1) = (if hasW g (nb 0) (0 + 1) = true then [((0 : Int), (0 : Int) + 1)] else []) ++ rowI g 0 498 (0 + 1 + 1) from rfl,
  show allI g 499 (0 + 1) = rowI g (0 + 1) 498 (0 + 1 + 1) ++ allI g 498 (0 + 1 + 1) from rfl, show rowI g (0 + 1) 498 (0 + 1 + 1) = (if hasW g (nb (0 + 1)) (0 + 1 + 1) = true then [((0 : Int) + 1, (0 : Int) + 1 + 1)] else []) ++ rowI g (0 + 1) 497 (0 + 1 + 1 + 1) from rfl]
 rw [rowI_nil (k := 498) (fun x h1 h2 => no 0 x (by omega) (by omega) (by omega) (by omega) (by omega)), rowI_nil (k := 497) (fun x h1 h2 => no (0 + 1) x (by omega) (by omega) (by omega) (by omega) (by omega)), allI_nil (fun x y h1 h2 h3 => no x y (by omega) (by omega) (by omega) (by omega) (by omega))]
 have z1 : ((0 : Int) + 1) = 1 := rfl
 have z2 : ((1 : Int) + 1) = 2 := rfl
 simp only [z1, z2, e0, e1, if_true, List.append_nil, List.cons_append, List.nil_append]
theorem ex_hasC : ∀ c ∈ exW.classes, ∀ e ∈ c, hasC [0, 1, 0] e := by
 have : ∀ c ∈ exW.classes, ∀ e ∈ c, (0 ≤ e.s /\ e.s < 3 /\ 0 ≤ colAt [0, 1, 0] e.s /\ colAt [0, 1, 0] e.s < 500) := by
  unfold exW
  decide
 exact this
end Go.Proofs.YtikppcfabnnhfaaDoor

namespace Go.Proofs.YtikppcfabnnhfaaDoor
open Go Go.Aw
noncomputable def givL : FuncId -> List AV -> HL -> Option ((AV × HL) × Prop) := fun f a l => if f = 24 then EP.F 24 a l else E.F f a l
noncomputable def ANL : Go.Aw.An := mkAn [12, 13, 15, 20, 23, 26, 27, 30, 32, 33, 38, 41, 42, 47, 48, 50, 54, 57, 58, 60, 61, 62, 65, 67, 69, 71, 72, 75, 80, 81, 84, 85, 86, 87, 93] [28, 31, 36, 37, 53, 63, 66, 78, 82, 83] [19]
 [3, 4, 5, 6, 7, 8, 9, 10, 11, 16, 18, 19, 52]
 [(3, 6, [0, 1, 2, 3, 4, 11, 12]), (4, 10, [1, 2, 4, 5, 7, 8]), (6, 27, [5, 6, 7, 10, 13, 15, 16, 17]), (6, 23, [4, 5, 6, 7, 10, 13, 15]), (6, 19, [5, 6, 7, 10, 13, 14]), (7, 25, [1, 3, 5, 6, 7, 9, 10, 11, 12]), (7, 21, [1, 2, 3, 5, 6, 7, 9, 10]), (7, 17, [1, 2, 3, 5, 6, 7, 9]), (7, 12, [1, 3, 5, 6, 7, 8]), (8, 24, [1, 2, 5, 7, 8, 11, 12, 13]), (8, 20, [1, 2, 4, 5, 7, 8, 11]), (8, 15, [1, 2, 4, 5, 7, 8, 10]), (9, 16, [2, 12, 13, 14]), (10, 20, [1, 2, 4, 5, 6, 7, 11, 12, 13]), (10, 16, [1, 2, 4, 5, 6, 7, 11]), (10, 10, [1, 2, 4, 5, 6, 7, 9]), (16, 8, [1, 2, 3, 5]), (16, 4, [1, 2, 3, 4]), (18, 32, [2, 10, 12, 14, 15, 16, 19, 20, 21]), (18, 29, [2, 10, 12, 14, 15, 16, 19, 20]), (18, 23, [2, 10, 12, 14, 15, 16, 17, 18]), (18, 18, [2, 10, 12, 14, 15]), (18, 11, [1, 2, 10, 12, 13]), (19, 4, [0, 3, 4]), (52, 4, [1, 2, 4, 5, 6])]
 [(3, 6, [(0, [], 2), (1, [], 1), (2, [], 1), (5, [], 2)]), (4, 10, [(0, [], 2), (4, [0], 1)]), (6, 27, [(3, [], 1)]), (6, 23, [(4, [], 1)]), (6, 19, [(3, [], 1)]), (7, 25, [(1, [], 1), (2, [], 2), (3, [], 1)]), (7, 21, [(2, [], 1), (3, [], 2), (4, [], 1)]), (7, 17, [(2, [], 1), (3, [], 2), (4, [], 1)]), (7, 12, [(1, [], 1), (2, [], 2), (3, [], 1)]), (8, 24, [(0, [], 2), (2, [], 1), (3, [], 1), (4, [], 1)]), (8, 20, [(0, [], 2), (3, [], 1), (4, [], 1), (5, [], 1)]), (8, 15, [(0, [], 2), (3, [], 1), (4, [], 1), (5, [], 1)]), (9, 16, [(1, [], 2), (2, [], 2)]), (10, 20, [(3, [], 1), (4, [], 1), (5, [], 1), (7, [], 2)]), (10, 16, [(3, [], 1), (4, [], 1), (5, [], 1)]), (10, 10, [(3, [], 1), (4, [], 1), (5, [], 1)]), (16, 8, [(2, [0], 1), (2, [1], 3)]), (16, 4, [(2, [0], 1)]), (18, 32, [(0, [], 2), (2, [], 1), (3, [], 1)]), (18, 29, [(0, [], 2), (2, [], 1), (3, [], 1)]), (18, 23, [(0, [], 2), (2, [], 1), (3, [], 1)]), (18, 18, [(0, [], 2), (2, [], 1), (3, [], 1)]), (18, 11, [(0, [], 1), (1, [], 2), (3, [], 1)]), (19, 4, [(0, [], 2), (1, [], 2)]), (52, 4, [(0, [], 2), (3, [0], 1)])]
 []
 [(16, [(0, [0], 1), (0, [1], 3), (0, [2], 1)]), (18, [(0, [], 1), (1, [], 1)]), (19, [(0, [], 2)]), (52, [(0, [0], 1), (0, [1], 3), (0, [2], 1)])]
 [15, 16, 17, 18, 19, 21, 22, 24, 25, 28, 29, 31, 34, 35, 36, 37, 39, 52, 53, 63, 64, 65, 66, 83]
 [(3, 7, ([45, 1000000, 1000034, 1000012, 1000035, 1000034, 1000035, 1000036, 1000036, 1000037, 1000000, 1000039, 1000012, 1000040, 1000039, 1000040, 1000041, 1000041, 1000042], false, [], [some 33, some 34, some 35, some 36, some 37, some 39, some 40, some 41, some 42])), (4, 11, ([53, 1000007, 1000046, 1000002, 1000048, 1000008, 1000050, 1000049, 1000050, 1000051, 1000007, 1000055], false, [7], [some 46, some 48, some 50, some 51, some 55])), (5, 5, ([1000003, 1000059, 1000061, 1000056], false, [], [some 58, some 59, some 56])), (6, 4, ([], false, [], [])), (8, 16, ([], false, [], [])), (8, 25, ([], false, [], [])), (8, 26, ([], false, [], [])), (8, 29, ([1000002, 1000168, 1000169, 1000170, 1000172, 1000165], false, [], [some 167, some 168, some 170, some 165])), (9, 4, ([], false, [], [])), (9, 17, ([], false, [], [])), (10, 11, ([10], false, [10], [])), (10, 17, ([], false, [], [])), (10, 26, ([119, 129, 1000002, 1000120, 1000001, 1000123, 1000002, 1000125, 1000014, 1000131, 888888, 600129], false, [14], [some 120, some 123, some 125, some 131])), (16, 5, ([25, 1000003, 1000017, 1000001, 1000019, 1000004, 1000021, 1000020, 1000021, 1000022, 1000003, 1000027], false, [3], [some 17, some 19, some 21, some 22, some 27])), (18, 24, ([], false, [], [])), (19, 5, ([23, 1000000, 1000012, 1000004, 1000013, 1000012, 1000013, 1000014, 1000014, 1000015, 1000000, 1000017, 1000004, 1000018, 1000017, 1000018, 1000019, 1000019, 1000020], false, [], [some 11, some 12, some 13, some 14, some 15, some 17, some 18, some 19, some 20])), (52, 5, ([26, 1000005, 1000019, 1000002, 1000021, 1000006, 1000023, 1000022, 1000023, 1000024, 1000005, 1000028], false, [5], [some 19, some 21, some 23, some 24, some 28]))] [17, 21, 24, 29, 34, 40] [] givL
noncomputable abbrev EL : Sig := ev Tryd.prog G ANL
theorem ok3L : fchk Tryd.prog ANL 3 = true := by kernel_rfl
theorem ok4L : fchk Tryd.prog ANL 4 = true := by kernel_rfl
theorem ok5L : fchk Tryd.prog ANL 5 = true := by kernel_rfl
theorem ok6L : fchk Tryd.prog ANL 6 = true := by kernel_rfl
theorem ok7L : fchk Tryd.prog ANL 7 = true := by kernel_rfl
theorem ok8L : fchk Tryd.prog ANL 8 = true := by kernel_rfl
theorem ok9L : fchk Tryd.prog ANL 9 = true := by kernel_rfl
theorem ok10L : fchk Tryd.prog ANL 10 = true := by kernel_rfl
theorem ok11L : fchk Tryd.prog ANL 11 = true := by kernel_rfl
theorem ok16L : fchk Tryd.prog ANL 16 = true := by kernel_rfl
theorem ok18L : fchk Tryd.prog ANL 18 = true := by kernel_rfl
theorem ok19L : fchk Tryd.prog ANL 19 = true := by kernel_rfl
theorem ok52L : fchk Tryd.prog ANL 52 = true := by kernel_rfl
theorem evokL : EvOk Tryd.prog G ANL where
 chk f h := by
  have h : [3, 4, 5, 6, 7, 8, 9, 10, 11, 16, 18, 19, 52].contains f = true := h
  have h := List.contains_iff_mem.1 h
  simp only [List.mem_cons, List.mem_nil_iff, or_false] at h
  rcases h with rfl | rfl | rfl | rfl | rfl | rfl | rfl | rfl | rfl | rfl | rfl | rfl | rfl
  ·exact ok3L
  ·exact ok4L
  ·exact ok5L
  ·exact ok6L
  ·exact ok7L
  ·exact ok8L
  ·exact ok9L
  ·exact ok10L
  ·exact ok11L
  ·exact ok16L
  ·exact ok18L
  ·exact ok19L
  ·exact ok52L
 pureG g := by
  by_cases h : g = 0
  ·subst h; exact .inl (by kernel_rfl)
  ·exact .inr (if_neg h)
 mixed := by kernel_rfl
 giv f a l r l' φ h hφ := by
  by_cases e : f = 24
  ·subst e; exact ev_sound evokP h hφ
  ·have h' : givL f a l = some ((r, l'), φ) := h
   rw [givL, if_neg e] at h'
   exact ev_sound evok h' hφ
theorem acpL : ∀ f k, ANL.cp f k = has2 f k [] := fun _ _ => rfl
set_option maxRecDepth 100000
theorem anf0L : (ANL.bor 9 = false) /\ (ANL.pur 9 = false) /\ (ANL.ro 9 = false) /\ (ANL.frz 9 = false) /\ (ANL.fra 9 = false) /\ (ANL.res 9 = []) /\ (ANL.bor 11 = false) /\ (ANL.pur 11 = false) /\ (ANL.ro 11 = false) /\ (ANL.frz 11 = false) /\ (ANL.fra 11 = false) /\ (ANL.res 11 = []) /\ (ANL.bor 12 = true) /\ (ANL.pur 12 = false) /\ (ANL.ro 12 = false) /\ (ANL.frz 12 = false) /\ (ANL.fra 12 = false) /\ (ANL.res 12 = []) /\ (ANL.bor 14 = false) /\ (ANL.pur 14 = false) /\ (ANL.ro 14 = false) /\ (ANL.frz 14 = false) /\ (ANL.fra 14 = false) /\ (ANL.res 14 = []) /\ (ANL.bor 15 = true) /\ (ANL.pur 15 = false) /\ (ANL.ro 15 = false) /\ (ANL.frz 15 = true) /\ (ANL.fra 15 = false) /\ (ANL.res 15 = []) /\ (ANL.bor 16 = false) /\ (ANL.pur 16 = false) /\ (ANL.ro 16 = false) /\ (ANL.frz 16 = true) /\ (ANL.fra 16 = false) /\ (ANL.res 16 = [(0, [0], 1), (0, [1], 3), (0, [2], 1)]) /\ (ANL.bor 17 = false) /\ (ANL.pur 17 = false) /\ (ANL.ro 17 = false) /\ (ANL.frz 17 = true) /\ (ANL.fra 17 = true) /\ (ANL.res 17 = []) /\ (ANL.bor 19 = false) /\ (ANL.pur 19 = false) /\ (ANL.ro 19 = true) /\ (ANL.frz 19 = true) /\ (ANL.fra 19 = false) /\ (ANL.res 19 = [(0, [], 2)]) /\ (ANL.bor 20 = true) /\ (ANL.pur 20 = false) /\ (ANL.ro 20 = false) /\ (ANL.frz 20 = false) /\ (ANL.fra 20 = false) /\ (ANL.res 20 = []) /\ (ANL.bor 24 = false) /\ (ANL.pur 24 = false) /\ (ANL.ro 24 = false) /\ (ANL.frz 24 = true) /\ (ANL.fra 24 = true) /\ (ANL.res 24 = []) /\ (ANL.bor 26 = true) /\ (ANL.pur 26 = false) /\ (ANL.ro 26 = false) /\ (ANL.frz 26 = false) /\ (ANL.fra 26 = false) /\ (ANL.res 26 = []) /\ (ANL.bor 30 = true) /\ (ANL.pur 30 = false) /\ (ANL.ro 30 = false) /\ (ANL.frz 30 = false) /\ (ANL.fra 30 = false) /\ (ANL.res 30 = []) /\ (ANL.bor 32 = true) /\ (ANL.pur 32 = false) /\ (ANL.ro 32 = false) /\ (ANL.frz 32 = false) /\ (ANL.fra 32 = false) /\ (ANL.res 32 = []) /\ (ANL.bor 34 = false) /\ (ANL.pur 34 = false) /\ (ANL.ro 34 = false) /\ (ANL.frz 34 = true) /\ (ANL.fra 34 = true) /\ (ANL.res 34 = []) /\ (ANL.bor 35 = false) /\ (ANL.pur 35 = false) /\ (ANL.ro 35 = false) /\ (ANL.frz 35 = true) /\ (ANL.fra 35 = false) /\ (ANL.res 35 = []) /\ (ANL.bor 36 = false) /\ (ANL.pur 36 = true) /\ (ANL.ro 36 = false) /\ (ANL.frz 36 = true) /\ (ANL.fra 36 = false) /\ (ANL.res 36 = []) /\ (ANL.bor 37 = false) /\ (ANL.pur 37 = true) /\ (ANL.ro 37 = false) /\ (ANL.frz 37 = true) /\ (ANL.fra 37 = false) /\ (ANL.res 37 = []) /\ (ANL.bor 39 = false) /\ (ANL.pur 39 = false) /\ (ANL.ro 39 = false) /\ (ANL.frz 39 = true) /\ (ANL.fra 39 = false) /\ (ANL.res 39 = []) /\ (ANL.bor 53 = false) /\ (ANL.pur 53 = true) /\ (ANL.ro 53 = false) /\ (ANL.frz 53 = true) /\ (ANL.fra 53 = false) /\ (ANL.res 53 = []) /\ (ANL.bor 54 = true) /\ (ANL.pur 54 = false) /\ (ANL.ro 54 = false) /\ (ANL.frz 54 = false) /\ (ANL.fra 54 = false) /\ (ANL.res 54 = []) /\ (ANL.dr 9 4 = some ([], false, [], [])) /\ (ANL.dr 9 17 = some ([], false, [], [])) /\ (ANL.dr 16 5 = some ([25, 1000003, 1000017, 1000001, 1000019, 1000004, 1000021, 1000020, 1000021, 1000022, 1000003, 1000027], false, [3], [some 17, some 19, some 21, some 22, some 27])) /\ (ANL.dr 19 5 = some ([23, 1000000, 1000012, 1000004, 1000013, 1000012, 1000013, 1000014, 1000014, 1000015, 1000000, 1000017, 1000004, 1000018, 1000017, 1000018, 1000019, 1000019, 1000020], false, [], [some 11, some 12, some 13, some 14, some 15, some 17, some 18, some 19, some 20])) /\ (ANL.keep 9 16 = some [2, 12, 13, 14]) /\ (ANL.fix 9 16 = [(1, [], 2), (2, [], 2)]) /\ (ANL.frl 9 16 = false) /\ (ANL.keep 16 8 = some [1, 2, 3, 5]) /\ (ANL.fix 16 8 = [(2, [0], 1), (2, [1], 3)]) /\ (ANL.frl 16 8 = false) /\ (ANL.keep 16 4 = some [1, 2, 3, 4]) /\ (ANL.fix 16 4 = [(2, [0], 1)]) /\ (ANL.frl 16 4 = false) /\ (ANL.keep 19 4 = some [0, 3, 4]) /\ (ANL.fix 19 4 = [(0, [], 2), (1, [], 2)]) /\ (ANL.frl 19 4 = false) := by and_intros <;> kernel_rfl
theorem anfL : type_of% @anf0L /\ type_of% @acpL := ⟨@anf0L, @acpL⟩
variable (a v : List AV) (l : HL)
theorem l9_16L : type_of% (ev_lp ANL G 9 16 97 [2, 12, 13, 14] (by kernel_rfl) Tryd.func9 rfl rfl rfl (by kernel_rfl) v l) :=
 ev_lp ANL G 9 16 97 [2, 12, 13, 14] (by kernel_rfl) Tryd.func9 rfl rfl rfl (by kernel_rfl) v l
theorem l16_8L : type_of% (ev_lp ANL G 16 8 53 [1, 2, 3, 5] (by kernel_rfl) Tryd.func16 rfl rfl rfl (by kernel_rfl) v l) :=
 ev_lp ANL G 16 8 53 [1, 2, 3, 5] (by kernel_rfl) Tryd.func16 rfl rfl rfl (by kernel_rfl) v l
theorem l16_4L : type_of% (ev_lp ANL G 16 4 53 [1, 2, 3, 4] (by kernel_rfl) Tryd.func16 rfl rfl rfl (by kernel_rfl) v l) :=
 ev_lp ANL G 16 4 53 [1, 2, 3, 4] (by kernel_rfl) Tryd.func16 rfl rfl rfl (by kernel_rfl) v l
theorem l19_4L : type_of% (ev_lp ANL G 19 4 26 [0, 3, 4] (by kernel_rfl) Tryd.func19 rfl rfl rfl (by kernel_rfl) v l) :=
 ev_lp ANL G 19 4 26 [0, 3, 4] (by kernel_rfl) Tryd.func19 rfl rfl rfl (by kernel_rfl) v l
theorem e9L : type_of% (ev_fn ANL G 9 97 [.tmp 2] (by kernel_rfl) Tryd.func9 rfl rfl rfl a l) :=
 ev_fn ANL G 9 97 [.tmp 2] (by kernel_rfl) Tryd.func9 rfl rfl rfl a l
theorem e11L : type_of% (ev_fn ANL G 11 97 [.tmp 0] (by kernel_rfl) Tryd.func11 rfl rfl rfl a l) :=
 ev_fn ANL G 11 97 [.tmp 0] (by kernel_rfl) Tryd.func11 rfl rfl rfl a l
theorem e16L : type_of% (ev_fn ANL G 16 53 [.cell 2 45] (by kernel_rfl) Tryd.func16 rfl rfl rfl a l) :=
 ev_fn ANL G 16 53 [.cell 2 45] (by kernel_rfl) Tryd.func16 rfl rfl rfl a l
theorem e19L : type_of% (ev_fn ANL G 19 26 [.tmp 2] (by kernel_rfl) Tryd.func19 rfl rfl rfl a l) :=
 ev_fn ANL G 19 26 [.tmp 2] (by kernel_rfl) Tryd.func19 rfl rfl rfl a l
theorem gv12L : EL.F 12 a l = E.F 12 a l := ev_giv (by kernel_rfl) a l
theorem gv14L : EL.F 14 a l = E.F 14 a l := ev_giv (by kernel_rfl) a l
theorem gv15L : EL.F 15 a l = E.F 15 a l := ev_giv (by kernel_rfl) a l
theorem gv17L : EL.F 17 a l = E.F 17 a l := ev_giv (by kernel_rfl) a l
theorem gv20L : EL.F 20 a l = E.F 20 a l := ev_giv (by kernel_rfl) a l
theorem gv30L : EL.F 30 a l = E.F 30 a l := ev_giv (by kernel_rfl) a l
theorem gv32L : EL.F 32 a l = E.F 32 a l := ev_giv (by kernel_rfl) a l
theorem gv34L : EL.F 34 a l = E.F 34 a l := ev_giv (by kernel_rfl) a l
theorem gv35L : EL.F 35 a l = E.F 35 a l := ev_giv (by kernel_rfl) a l
theorem gv36L : EL.F 36 a l = E.F 36 a l := ev_giv (by kernel_rfl) a l
theorem gv37L : EL.F 37 a l = E.F 37 a l := ev_giv (by kernel_rfl) a l
theorem gv39L : EL.F 39 a l = E.F 39 a l := ev_giv (by kernel_rfl) a l
end Go.Proofs.YtikppcfabnnhfaaDoor

/- awake. -/
namespace Go.Proofs.YtikppcfabnnhfaaDoor
open Go Go.Aw
set_option linter.unusedSimpArgs false
set_option linter.unusedVariables false
set_option maxRecDepth 100000
set_option maxHeartbeats 40000000
theorem same_loop {a b : List Int} (hl : a.length = b.length) (hla : a.length ≤ 1000000) : ∀ (r m q p : List Int), a = m ++ r -> b = p ++ q -> m.length = p.length ->
  ∃ e : Int, E.L 20 5 [.ro 1 (a.map (AV.int .i64)), .ro 1 (b.map (AV.int .i64)), .bool false, .int .i64 m.length] [] = some ((if r == q then .exit 0 else .ret, [.ro 1 (a.map (AV.int .i64)), .ro 1 (b.map (AV.int .i64)), .bool false, .int .i64 e], []), True) := by
 intro r
 induction r with
 | nil =>
  intro m q p h1 h2 h3
  have hq : q = [] := List.eq_nil_of_length_eq_zero (by have la := congrArg List.length h1; have lb := congrArg List.length h2; rw [List.length_append] at la lb; simp only [List.length_nil] at la; omega)
  subst hq
  have hn : m.length = a.length := by rw [h1]; simp
  refine ⟨a.length, ?_⟩
  have qq : ((a.length : Int) < a.length) = False := eq_false (by omega)
  rw [hn, l20_5]
  simp (maxSteps := 100000000) only [ivc, anf, vlen, vbuiltin, nilR, eq_self, Nat.reduceEqDiff, Nat.reduceLT, Nat.reduceAdd, Nat.reduceBEq, reduceCtorEq, ↓reduceIte, tyb, qq]
 | cons x r ih =>
  intro m q p h1 h2 h3
  have la := congrArg List.length h1
  have lb := congrArg List.length h2
  match q with
  | [] => simp at la lb; omega
  | y :: q =>
   simp only [List.length_append, List.length_cons] at la lb
   have hi' : (m.length : Int) < a.length := by omega
   have ga := getD_map (f := AV.int .i64) (show a[m.length]? = some x by rw [h1]; simp)
   have gb := getD_map (f := AV.int .i64) (show b[m.length]? = some y by rw [h2, h3]; simp)
   have hw : IntKind.i64.wrap ((m.length : Int) + 1) = m.length + 1 := wrap_id (by omega) (by omega)
   have c1 : (0 ≤ (m.length : Int) /\ (m.length : Int) < a.length) = True := eq_true (by omega)
   have c2 : (0 ≤ (m.length : Int) /\ (m.length : Int) < b.length) = True := eq_true (by omega)
   by_cases hx : x = y
   ·have hx' : (x != y) = false := by rw [hx]; simp
    have hb : ((x :: r) == (y :: q)) = (r == q) := by simp [hx]
    obtain ⟨e, ih'⟩ := ih (m ++ [x]) q (p ++ [y]) (by simp [h1]) (by simp [h2]) (by simp [h3])
    refine ⟨e, ?_⟩
    simp only [List.length_append, List.length_cons, List.length_nil, Nat.zero_add, Int.natCast_add, Int.cast_ofNat_Int] at ih'
    rw [hb, l20_5]
    simp (maxSteps := 100000000) only [ivc, anf, vlen, vbuiltin, nilR, eq_self, Nat.reduceEqDiff, Nat.reduceLT, Nat.reduceAdd, Nat.reduceBEq, reduceCtorEq, ↓reduceIte, tyb, hi', ga, gb, hw, c2, hx', ih']
    exact some_true (by omega)
   ·have hx' : (x != y) = true := bne_iff_ne.2 hx
    have hb : ((x :: r) == (y :: q)) = false := by simp [hx]
    refine ⟨m.length, ?_⟩
    rw [hb, l20_5]
    simp (maxSteps := 100000000) only [ivc, anf, vlen, vbuiltin, nilR, eq_self, Nat.reduceEqDiff, Nat.reduceLT, Nat.reduceAdd, Nat.reduceBEq, reduceCtorEq, ↓reduceIte, tyb, hi', ga, gb, c2, hx']
    exact some_true (by omega)
theorem same_ev {a b : List Int} (hla : a.length ≤ 1000000) : E.F 20 [.ro 1 (a.map (AV.int .i64)), .ro 1 (b.map (AV.int .i64))] [] = some ((.bool (a == b), []), True) := by
 rw [e20]
 by_cases h : a.length = b.length
 ·have hb : ((a.length : Int) != b.length) = false := by rw [h]; simp
  obtain ⟨e, lp⟩ := same_loop h hla a [] b [] rfl rfl rfl
  simp only [List.length_nil, Int.natCast_zero] at lp
  by_cases hab : (a == b) = true
  ·rw [hab]
   simp only [hab, if_true] at lp
   simp (maxSteps := 100000000) only [ivc, anf, vlen, vbuiltin, nilR, eq_self, Nat.reduceEqDiff, Nat.reduceLT, Nat.reduceLeDiff, Nat.reduceAdd, Nat.reduceBEq, reduceCtorEq, ↓reduceIte, tyb, hb, lp]
  ·have hab' : (a == b) = false := by simpa using hab
   rw [hab']
   simp only [hab', Bool.false_eq_true, if_false] at lp
   simp (maxSteps := 100000000) only [ivc, anf, vlen, vbuiltin, nilR, eq_self, Nat.reduceEqDiff, Nat.reduceLT, Nat.reduceLeDiff, Nat.reduceAdd, Nat.reduceBEq, reduceCtorEq, ↓reduceIte, tyb, hb, lp]
 ·have hb : ((a.length : Int) != b.length) = true := by simp; omega
  have hab' : (a == b) = false := by
   cases hh : a == b with
   | false => rfl
   | true => exact absurd (congrArg List.length (eq_of_beq hh)) h
  rw [hab']
  simp (maxSteps := 100000000) only [ivc, anf, vlen, vbuiltin, nilR, eq_self, Nat.reduceEqDiff, Nat.reduceLT, Nat.reduceLeDiff, Nat.reduceAdd, Nat.reduceBEq, reduceCtorEq, ↓reduceIte, tyb, hb]
theorem ex_ev : E.F 39 [] [] = some ((wdV exW, []), True) := by
 rw [e39]
 simp (maxSteps := 100000000) only [ivc, anf, vop, salloc, eq_self, Nat.reduceEqDiff, Nat.reduceLT, Nat.reduceLeDiff, Nat.reduceAdd, Nat.reduceMul, Nat.reduceBEq, Int.reduceLE, Int.reduceToNat, Int.reduceMul, reduceCtorEq, ↓reduceIte, tyb, exW, wdV, clV, enV, bdV]
theorem gv24L (a : List AV) (l : HL) : EL.F 24 a l = EP.F 24 a l := ev_giv (A := ANL) (by kernel_rfl) a l
theorem awake_ev : EL.F 11 [] [] = some ((.bool true, []), True) := by
 have a1 := ex_ev
 have a2 := conf_ev (w := exW) okW_of
 rw [if_pos ex_ck, ex_conf] at a2
 have a3 := least15_ev (w := exW) okW_of
 rw [if_pos ex_ck, ex_cnt, if_neg (by decide), ex_least] at a3
 have a4 := pack_ev (w := exW) (cs := [0, 1, 0]) okW_of (fun _ _ => ex_hasC)
 rw [if_pos ex_ck, if_pos ex_cc, ex_pack] at a4
 have a5 := grow_ev (w := exW) (cs := [0, 1, 0]) (cl := exC) (by decide) ex_ck (okW_of ex_ck) ex_cc ex_ck2 (okW_of ex_ck2) (by rw [ex_sz2]; decide) (by decide) (by rw [ex_sz2]; decide) ex_grow
 have s1 := same_ev (a := [0, 2]) (b := [0, 2]) (by decide)
 have s2 := same_ev (a := [0, 1, 2]) (b := [0, 1, 2]) (by decide)
 have s3 := same_ev (a := [2]) (b := [2]) (by decide)
 have s4 := look_ev (v := [⟨0, 0⟩, ⟨1, 1⟩, ⟨2, 3⟩, ⟨1, 2⟩]) (offs := [0, 2]) (l := [0, 1, 0]) (c := 1) (s := 2) (by decide) (by unfold i64r; decide) (by unfold i64r; decide)
 rw [show lookM [⟨0, 0⟩, ⟨1, 1⟩, ⟨2, 3⟩, ⟨1, 2⟩] [0, 2] [0, 1, 0] 1 2 = 3 from by kernel_rfl] at s4
 simp only [exW, exC, wdV, clV, enV, bdV, pV, List.map_cons, List.map_nil, beq_self_eq_true] at a1 a2 a3 a4 a5 s1 s2 s3 s4
 rw [e11L]
 simp (maxSteps := 100000000) only [ivc, vop, vlen, vbuiltin, nilR, salloc, eq_self, Nat.reduceEqDiff, Nat.reduceLT, Nat.reduceLeDiff, Nat.reduceAdd, Nat.reduceMul, Nat.reduceBEq, Int.reduceLT, Int.reduceLE, Int.reduceToNat, reduceCtorEq, ↓reduceIte, anfL, gv39L, gv36L, gv15L, gv24L, gv17L, gv20L, gv12L, tyb, a1, a2, a3, a4, a5, s1, s2, s3, s4]
theorem entr_loop {l : List Et} (hl : l.length ≤ 1000000) : ∀ (r m : List Et), l = m ++ r ->
  EL.L 19 4 [.ro 2 (l.map enV), .sl 60000 0 m.length, .int .i64 m.length] [(60000, eR m)] = some ((.exit 0, [.ro 2 (l.map enV), .sl 60000 0 l.length, .int .i64 l.length], [(60000, eR l)]), True) := by
 intro r
 induction r with
 | nil =>
  intro m h
  rw [List.append_nil] at h
  subst h
  have q : ((l.length : Int) < l.length) = False := eq_false (by omega)
  rw [l19_4L]
  simp (maxSteps := 100000000) only [ivc, vlen, vbuiltin, nilR, eq_self, Nat.reduceEqDiff, Nat.reduceLT, Nat.reduceLeDiff, Nat.reduceAdd, reduceCtorEq, ↓reduceIte, anfL, tyb, eR, q]
 | cons x r ih =>
  intro m h
  have hn : m.length + (r.length + 1) = l.length := by rw [h]; simp
  have hi' : (m.length : Int) < l.length := by omega
  have hg := getD_map (f := enV) (show l[m.length]? = some x by rw [h]; simp)
  have hw : IntKind.i64.wrap ((m.length : Int) + 1) = m.length + 1 := wrap_id (by omega) (by omega)
  have hc : (0 ≤ (m.length : Int) /\ (m.length : Int) < l.length) = True := eq_true (by omega)
  have ih' := ih (m ++ [x]) (by simp [h])
  simp only [List.length_append, List.length_cons, List.length_nil, Nat.zero_add, Int.natCast_add, Int.cast_ofNat_Int, eR, enV, List.map_append, List.map_cons, List.map_nil] at ih'
  rw [l19_4L]
  simp (maxSteps := 100000000) only [ivc, vop, vlen, vbuiltin, nilR, salloc, sappend, eq_self, Nat.reduceEqDiff, Nat.reduceLT, Nat.reduceLeDiff, Nat.reduceAdd, Nat.reduceMul, Nat.reduceSub, Nat.reduceBEq, reduceCtorEq, ↓reduceIte, anfL, tyb, eR, enV, hi', hg, hw, ih']
  try exact some_true (by omega)
theorem entries_ev {l : List Et} (hl : l.length ≤ 1000000) : EL.F 19 [.ro 2 (l.map enV)] [] = some ((.ro 2 (l.map enV), []), True) := by
 have lp := entr_loop hl l [] rfl
 simp only [List.length_nil, Int.natCast_zero, eR, List.map_nil] at lp
 have tk : (l.map enV).take l.length = l.map enV := List.take_of_length_le (by simp)
 rw [e19L]
 simp (maxSteps := 100000000) only [ivc, eq_self, Nat.reduceEqDiff, Nat.reduceLT, Nat.reduceLeDiff, Nat.reduceAdd, reduceCtorEq, ↓reduceIte, anfL, lp, tk]
 try exact some_true (by omega)
def zW : AV := .agg [.nilsl, .nilsl, .nilsl]
def wrH (w : Wd) (m : List (List Et)) : HL := [(60000, ⟨true, 3, [wdV w]⟩), (60001, ⟨true, 3, [zW]⟩), (60002, ⟨true, 3, [.agg [.sl 60003 0 m.length, .nilsl, .ro 1 (w.roots.map (AV.int .i64))]]⟩), (60003, ⟨false, 1, m.map clV⟩)]
theorem wr4_loop {w : Wd} (hl : w.classes.length ≤ 1000) (hs : ∀ c ∈ w.classes, c.length ≤ 1000000) : ∀ (r m : List (List Et)), w.classes = m ++ r ->
  EL.L 16 4 [.ptr 60000 0 0, .ptr 60001 0 0, .ptr 60002 0 0, .int .i64 m.length] (wrH w m) = some ((.exit 0, [.ptr 60000 0 0, .ptr 60001 0 0, .ptr 60002 0 0, .int .i64 w.classes.length], wrH w w.classes), True) := by
 intro r
 induction r with
 | nil =>
  intro m h
  rw [List.append_nil] at h
  have q : ((w.classes.length : Int) < w.classes.length) = False := eq_false (by omega)
  rw [<- h, l16_4L]
  simp (maxSteps := 100000000) only [ivc, vop, vlen, vbuiltin, nilR, eq_self, Nat.reduceEqDiff, Nat.reduceLT, Nat.reduceLeDiff, Nat.reduceAdd, Nat.reduceBEq, reduceCtorEq, ↓reduceIte, anfL, tyb, wrH, zW, wdV, q]
 | cons x r ih =>
  intro m h
  have hn : m.length + (r.length + 1) = w.classes.length := by rw [h]; simp
  have hi' : (m.length : Int) < w.classes.length := by omega
  have hm : w.classes[m.length]? = some x := by rw [h]; simp
  have hg := getD_map (f := clV) hm
  have hw : IntKind.i64.wrap ((m.length : Int) + 1) = m.length + 1 := wrap_id (by omega) (by omega)
  have hc : (0 ≤ (m.length : Int) /\ (m.length : Int) < w.classes.length) = True := eq_true (by omega)
  have en := entries_ev (l := x) (hs x (List.mem_of_getElem? hm))
  have ih' := ih (m ++ [x]) (by simp [h])
  simp only [List.length_append, List.length_cons, List.length_nil, Nat.zero_add, Int.natCast_add, Int.cast_ofNat_Int, wrH, zW, wdV, clV, List.map_append, List.map_cons, List.map_nil] at ih'
  rw [l16_4L]
  simp (maxSteps := 100000000) only [ivc, vop, vlen, vbuiltin, nilR, salloc, sappend, eq_self, Nat.reduceEqDiff, Nat.reduceLT, Nat.reduceLeDiff, Nat.reduceAdd, Nat.reduceMul, Nat.reduceSub, Nat.reduceBEq, reduceCtorEq, ↓reduceIte, anfL, tyb, wrH, zW, wdV, clV, hi', hg, hw, en, ih']
  try exact some_true (by omega)
def wqH (w : Wd) (m : List Bd) : HL := [(60000, ⟨true, 3, [wdV w]⟩), (60001, ⟨true, 3, [zW]⟩), (60002, ⟨true, 3, [.agg [.sl 60003 0 w.classes.length, .sl 60004 0 m.length, .ro 1 (w.roots.map (AV.int .i64))]]⟩), (60003, ⟨false, 1, w.classes.map clV⟩), (60004, ⟨false, 3, m.map bdV⟩)]
theorem wr8_loop {w : Wd} (hl : w.bodies.length ≤ 1000) : ∀ (r m : List Bd), w.bodies = m ++ r ->
  EL.L 16 8 [.ptr 60000 0 0, .ptr 60001 0 0, .ptr 60002 0 0, .int .i64 m.length] (wqH w m) = some ((.exit 2, [.ptr 60000 0 0, .ptr 60001 0 0, .ptr 60002 0 0, .int .i64 w.bodies.length], wqH w w.bodies), True) := by
 intro r
 induction r with
 | nil =>
  intro m h
  rw [List.append_nil] at h
  have q : ((w.bodies.length : Int) < w.bodies.length) = False := eq_false (by omega)
  rw [<- h, l16_8L]
  simp (maxSteps := 100000000) only [ivc, vop, vlen, vbuiltin, nilR, eq_self, Nat.reduceEqDiff, Nat.reduceLT, Nat.reduceLeDiff, Nat.reduceAdd, Nat.reduceBEq, reduceCtorEq, ↓reduceIte, anfL, tyb, wqH, zW, wdV, q]
 | cons x r ih =>
  intro m h
  have hn : m.length + (r.length + 1) = w.bodies.length := by rw [h]; simp
  have hi' : (m.length : Int) < w.bodies.length := by omega
  have hm : w.bodies[m.length]? = some x := by rw [h]; simp
  have hg := getD_map (f := bdV) hm
  have hw : IntKind.i64.wrap ((m.length : Int) + 1) = m.length + 1 := wrap_id (by omega) (by omega)
  have hc : (0 ≤ (m.length : Int) /\ (m.length : Int) < w.bodies.length) = True := eq_true (by omega)
  have ih' := ih (m ++ [x]) (by simp [h])
  simp only [List.length_append, List.length_cons, List.length_nil, Nat.zero_add, Int.natCast_add, Int.cast_ofNat_Int, wqH, zW, wdV, bdV, List.map_append, List.map_cons, List.map_nil] at ih'
  rw [l16_8L]
  simp (maxSteps := 100000000) only [ivc, vop, vlen, vbuiltin, nilR, salloc, sappend, eq_self, Nat.reduceEqDiff, Nat.reduceLT, Nat.reduceLeDiff, Nat.reduceAdd, Nat.reduceMul, Nat.reduceBEq, reduceCtorEq, ↓reduceIte, anfL, tyb, wqH, zW, wdV, bdV, hi', hg, hw, ih']
  try exact some_true (by omega)
theorem world_ev {w : Wd} (hl : w.classes.length ≤ 1000) (hb : w.bodies.length ≤ 1000) (hs : ∀ c ∈ w.classes, c.length ≤ 1000000) : EL.F 16 [wdV w] [] = some ((wdV w, []), True) := by
 have lp1 := wr4_loop hl hs w.classes [] rfl
 have lp2 := wr8_loop hb w.bodies [] rfl
 simp only [List.length_nil, Int.natCast_zero, wrH, wqH, zW, wdV, List.map_nil] at lp1 lp2
 rw [e16L]
 simp (maxSteps := 100000000) only [ivc, vop, salloc, eq_self, Nat.reduceEqDiff, Nat.reduceLT, Nat.reduceLeDiff, Nat.reduceAdd, Nat.reduceBEq, reduceCtorEq, ↓reduceIte, anfL, tyb, wdV, lp1, lp2]
 try exact some_true (by omega)
def gV (p : List Int × List Int × Int) : AV := .tup [.ro 1 (p.1.map (AV.int .i64)), .ro 1 (p.2.1.map (AV.int .i64)), .int .i64 p.2.2]
theorem lenS_mem : ∀ {cs : List (List Et)} {c : List Et}, c ∈ cs -> (c.length : Int) ≤ lenS cs
 | x :: cs, c, h => by
  have h0 : 0 ≤ lenS cs := by
   clear h
   induction cs with
   | nil => exact Int.le_refl _
   | cons y cs ih => rw [lenS]; omega
  rw [lenS]
  rcases List.mem_cons.1 h with rfl | h
  ·omega
  ·have := lenS_mem h
   omega
theorem small_len {w : Wd} (h : smallM w = true) : w.classes.length ≤ 210 /\ w.bodies.length ≤ 510 /\ ∀ c ∈ w.classes, c.length ≤ 500 := by
 unfold smallM at h
 split at h
 ·cases h
 rename_i n
 refine ⟨by omega, by omega, fun c hc => ?_⟩
 have hm := lenS_mem hc
 split at h
 ·simp only [Bool.and_eq_true, decide_eq_true_eq] at h
  omega
 ·simp only [Bool.and_eq_true, decide_eq_true_eq] at h
  omega
theorem pr_loop {P : List (Int × Int)} (hl : P.length ≤ 1000000) : ∀ (r m : List (Int × Int)), P = m ++ r ->
  EL.L 9 16 [.bool false, .ro 2 (P.map pV), .ro 2 (P.map pV), .int .i64 m.length] [] = some ((.exit 0, [.bool false, .ro 2 (P.map pV), .ro 2 (P.map pV), .int .i64 P.length], []), True) := by
 intro r
 induction r with
 | nil =>
  intro m h
  rw [List.append_nil] at h
  subst h
  have q : ((P.length : Int) < P.length) = False := eq_false (by omega)
  rw [l9_16L]
  simp (maxSteps := 100000000) only [ivc, vlen, vbuiltin, nilR, eq_self, Nat.reduceEqDiff, Nat.reduceLT, Nat.reduceAdd, reduceCtorEq, ↓reduceIte, anfL, tyb, q]
 | cons x r ih =>
  intro m h
  have hn : m.length + (r.length + 1) = P.length := by rw [h]; simp
  have hi' : (m.length : Int) < P.length := by omega
  have hg := getD_map (f := pV) (show P[m.length]? = some x by rw [h]; simp)
  have hw : IntKind.i64.wrap ((m.length : Int) + 1) = m.length + 1 := wrap_id (by omega) (by omega)
  have hc0 : (0 ≤ (m.length : Int)) = True := eq_true (by omega)
  have n2 : ∀ y : Int, (y == y) = true := fun y => by simp
  have n1 : ∀ y : Int, (y != y) = false := fun y => by simp
  have ih' := ih (m ++ [x]) (by simp [h])
  simp only [List.length_append, List.length_cons, List.length_nil, Nat.zero_add, Int.natCast_add, Int.cast_ofNat_Int] at ih'
  rw [l9_16L]
  simp (maxSteps := 100000000) only [ivc, vlen, vbuiltin, nilR, eq_self, Nat.reduceEqDiff, Nat.reduceLT, Nat.reduceLeDiff, Nat.reduceAdd, reduceCtorEq, ↓reduceIte, anfL, tyb, pV, hi', hg, hw, hc0, ih']
  try exact some_true (by omega)
theorem rM_len {w : Wd} (g : Good w) : (lsM (reaM w).z.M 0).length ≤ 500 /\ (lsM (reaM w).C 0).length ≤ 500 /\ (lsM (reaM w).S 0).length ≤ 500 := by
 have I := (rea_inv g).ok
 have gn := g.nc
 have gb := g.nb
 have a := lsM_len (l := (reaM w).z.M) (n := 0)
 have b := lsM_len (l := (reaM w).C) (n := 0)
 have c := lsM_len (l := (reaM w).S) (n := 0)
 have i1 := I.m
 have i2 := I.c
 have i3 := I.s
 exact ⟨by omega, by omega, by omega⟩
theorem cfM_len {w : Wd} (g : Good w) : (cfM (graphW w)).length ≤ 250000 := by
 have kl := knW_le (g := graphW w)
 have al := allC_len (w := w) (N := 500) (r := knW (graphW w)) (by omega)
 rw [conf_same g] at al
 have : 500 * (knW (graphW w)).length ≤ 500 * 500 := Nat.mul_le_mul_left _ kl
 omega
theorem reaches_out {w : Wd} (hw : inpW w) (hs : smallM w = false) : EL.F 9 [wdV w] [] = some ((.bool true, []), True) := by
 have aw := awake_ev
 have sm := small_ev hw
 rw [e9L]
 rw [hs] at sm
 simp only [wdV] at sm
 simp (maxSteps := 100000000) only [ivc, vop, salloc, eq_self, Nat.reduceEqDiff, Nat.reduceLT, Nat.reduceLeDiff, Nat.reduceAdd, Nat.reduceMul, reduceCtorEq, ↓reduceIte, anfL, gv14L, tyb, wdV, sm, aw]
theorem reaches_bad {w : Wd} (hw : inpW w) (hs : smallM w = true) (c1 : ckM w ≠ 0) : EL.F 9 [wdV w] [] = some ((.bool true, []), True) := by
 have aw := awake_ev
 have sm := small_ev hw
 rw [hs] at sm
 obtain ⟨s1, s2, s3⟩ := small_len hs
 have v1 := world_ev (w := w) (by omega) (by omega) (fun c hc => by have := s3 c hc; omega)
 have v2 := check_ev (w := w)
 have v3 := rcheck_ev (w := w)
 have v4 := reach_ev (w := w)
 have v5 := rreach_ev (w := w)
 have v6 := conf_ev (w := w) okW_of
 have v7 := rconf_ev (w := w)
 have n1 : ∀ y : Int, (y != y) = false := fun y => by simp
 have sn := same_ev (a := []) (b := []) (by simp)
 have se : (([] : List Int) == []) = true := rfl
 rw [se] at sn
 rw [if_neg c1] at v4 v5 v6 v7
 have pn := pr_loop (P := []) (by simp) [] [] rfl
 simp only [wdV, List.map_nil, List.length_nil, Int.natCast_zero] at sm v1 v2 v3 v4 v5 v6 v7 pn sn
 generalize ckM w = er at v2 v3 v4 v5 v6 v7
 rw [e9L]
 simp (maxSteps := 100000000) only [ivc, vop, vlen, vbuiltin, nilR, salloc, eq_self, Nat.reduceEqDiff, Nat.reduceLT, Nat.reduceLeDiff, Nat.reduceAdd, Nat.reduceMul, reduceCtorEq, ↓reduceIte, anfL, gv14L, gv20L, gv30L, gv32L, gv34L, gv35L, gv36L, gv37L, tyb, wdV, sm, v1, v2, v3, v4, v5, v6, v7, sn, pn, aw]
theorem reaches_core {w : Wd} {A B C : List Int} {P : List (Int × Int)} (hw : inpW w) (hs : smallM w = true) (hA : A.length ≤ 500) (hB : B.length ≤ 500) (hC : C.length ≤ 500) (hP : P.length ≤ 250000)
  (v2 : E.F 32 [wdV w] [] = some ((.int .i64 0, []), True)) (v3 : E.F 30 [wdV w] [] = some ((.int .i64 0, []), True))
  (v4 : E.F 34 [wdV w] [] = some ((.tup [.ro 1 (A.map (AV.int .i64)), .ro 1 (B.map (AV.int .i64)), .ro 1 (C.map (AV.int .i64)), .int .i64 0], []), True))
  (v5 : E.F 35 [wdV w] [] = some ((.tup [.ro 1 (A.map (AV.int .i64)), .ro 1 (B.map (AV.int .i64)), .ro 1 (C.map (AV.int .i64)), .int .i64 0], []), True))
  (v6 : E.F 36 [wdV w] [] = some ((.tup [.ro 2 (P.map pV), .int .i64 0], []), True)) (v7 : E.F 37 [wdV w] [] = some ((.tup [.ro 2 (P.map pV), .int .i64 0], []), True)) : EL.F 9 [wdV w] [] = some ((.bool true, []), True) := by
 have aw := awake_ev
 have sm := small_ev hw
 rw [hs] at sm
 obtain ⟨s1, s2, s3⟩ := small_len hs
 have v1 := world_ev (w := w) (by omega) (by omega) (fun c hc => by have := s3 c hc; omega)
 have n1 : ∀ y : Int, (y != y) = false := fun y => by simp
 have pn := pr_loop (P := P) (by omega) P [] rfl
 have u1 := same_ev (a := A) (b := A) (by omega)
 have u2 := same_ev (a := B) (b := B) (by omega)
 have u3 := same_ev (a := C) (b := C) (by omega)
 have bs : ∀ X : List Int, (X == X) = true := fun X => beq_self_eq_true X
 rw [bs] at u1 u2 u3
 simp only [wdV, List.length_nil, Int.natCast_zero] at sm v1 v2 v3 v4 v5 v6 v7 pn
 rw [e9L]
 simp (maxSteps := 100000000) only [ivc, vop, vlen, vbuiltin, nilR, salloc, eq_self, Nat.reduceEqDiff, Nat.reduceLT, Nat.reduceLeDiff, Nat.reduceAdd, Nat.reduceMul, reduceCtorEq, ↓reduceIte, anfL, gv14L, gv20L, gv30L, gv32L, gv34L, gv35L, gv36L, gv37L, tyb, wdV, sm, v1, v2, v3, v4, v5, v6, v7, u1, u2, u3, pn, aw]
theorem reaches_good {w : Wd} (hw : inpW w) (hs : smallM w = true) (c1 : ckM w = 0) : EL.F 9 [wdV w] [] = some ((.bool true, []), True) := by
 have v2 := check_ev (w := w)
 have v3 := rcheck_ev (w := w)
 have v4 := reach_ev (w := w)
 have v5 := rreach_ev (w := w)
 have v6 := conf_ev (w := w) okW_of
 have v7 := rconf_ev (w := w)
 rw [if_pos c1] at v4 v5 v6 v7
 rw [c1] at v2 v3
 have g := good_of c1
 obtain ⟨l1, l2, l3⟩ := rM_len g
 exact reaches_core hw hs l1 l2 l3 (cfM_len g) v2 v3 v4 v5 v6 v7
theorem reaches_ev {w : Wd} (hw : inpW w) : EL.F 9 [wdV w] [] = some ((.bool true, []), True) := by
 cases hs : smallM w with
 | false => exact reaches_out hw hs
 | true =>
  by_cases c1 : ckM w = 0
  ·exact reaches_good hw hs c1
  ·exact reaches_bad hw hs c1
end Go.Proofs.YtikppcfabnnhfaaDoor

namespace Go.Proofs.YtikppcfabnnhfaaDoor
open Go Go.Aw
set_option linter.unusedSimpArgs false
set_option linter.unusedVariables false
set_option maxRecDepth 100000
theorem rch9_lifted (os : Os) (started : os.Started) (H : Type) (enc : TypeId × Value -> H) :
  ReturnsInHanded {} Tryd.checked os 9 .any (fun w args => (Rows.colourReachesSpec.pre enc Tryd.prog Tryd.f9 [] false w args /\ laidMetH Tryd.prog laidL w) /\ sizedMet enc Tryd.prog Tryd.f9 (OpenSpec.ofChange Rows.colourReachesSpec) false w args)
   (Rows.colourReachesSpec.post enc Tryd.prog Tryd.f9 false true false false) := by
 refine returnsInHanded_of_change_and (C := Tryd.checked) (X := fun w _ => laidMetH Tryd.prog laidL w) (fun _ _ _ hh h => h.of_heap hh) own started (by kernel_rfl) Tryd.func9
  (ChangeSpec.witness_shaped (enc := enc) (C := Tryd.checked) (os := os) (X := fun w _ => laidMetH Tryd.prog laidL w) false (World.doorLaid Tryd.prog 400 os) #[.agg #[.slice none 0 0, .slice none 0 0, .slice none 0 0]] 8 rfl (World.shaped_of_RefB (by kernel_rfl) (by kernel_rfl)) (by kernel_rfl) (by kernel_rfl) (by kernel_rfl) (door_met os _)) ?_
 intro W base args ds gs before hval hW _ hsz hL _
 refine law_contractG (G := G) (A := ANL) evokL laidOut (fn := Tryd.f9) (l := [35, 32, 33, 23, 36, 71, 83, 3, 5]) (by kernel_rfl) (ts := [35]) (by rw [Tryd.params9]) (by kernel_rfl) (by kernel_rfl) (tb := 4) (by kernel_rfl) Tryd.underlying4 rfl (tab_laid hL) hval hW hsz (fun ds h => ?_) fun nx hl ht => ?_
 ·match ds, h with
  | [a], _ => exact ⟨rfl, rfl, rfl⟩
 ·match nx, hl with
  | [a], _ =>
   obtain ⟨wa, hia, hra, ha⟩ := world_of (ht 0 35 a rfl rfl)
   refine ⟨[], ?_⟩
   have := reaches_ev hia
   show EL.F 9 [argA Tryd.prog 35 a.2] [] = _
   simp only [argA, Tryd.underlying35, List.getD_cons_zero]
   rw [ha]
   exact this
theorem rch9_holds : Rows.ColourReachesSaid :=
 OpenClaim.holds_of_wide 9 Tryd.f9 rfl rfl rfl rfl rfl rfl rfl ⟨rfl, rfl, rfl, rfl, rfl⟩ rfl rfl rfl rfl rfl (by kernel_rfl) Tryd.func9 (by kernel_rfl)
  (of_decide_eq_true (by kernel_rfl)) (by unfold Func.isWrapper; first | (rw [if_pos (by decide +kernel)]; kernel_rfl) | (rw [if_neg (by decide +kernel)]; exact ⟨rfl, rfl⟩))
  (fun os started H enc _ => rch9_lifted os started H enc)
theorem rch9_card : Rows.ColourReachesCardSaid :=
 Claim7.holds_tied_plain_at .later [] [.data] true (true, "3dc01f15a731540aeb3bad63498fda4938458450b3483f3d83b3da088dc41856") false
  rch9_holds (fun _ h => by cases h) (by kernel_rfl) (fun _ h => by cases h) colourReaches_row_tie rfl ⟨rfl, rfl⟩ (by kernel_rfl) rfl
  (fun f fn hf hfn => by
   obtain rfl : f = 9 := Option.some.inj ((show Tryd.prog.funcNamed "hackamore/hackamorelaw23.ColourReaches" = some 9 by kernel_rfl).symm.trans hf) |>.symm
   obtain rfl : fn = Tryd.f9 := (Option.some.inj (Tryd.func9.symm.trans hfn)).symm
   exact ⟨by kernel_rfl, fun j t ht => by
    rw [Tryd.params9] at ht
    have hm : t ∈ [35] := by simpa using Array.mem_of_getElem? ht
    have hall : ([35].all fun u => !Tryd.prog.wantsStandIn u) = true := by kernel_rfl
    exact (show Tryd.prog.wantsStandIn t = false by simpa using List.all_eq_true.1 hall t hm)⟩)
  (by kernel_rfl)
end Go.Proofs.YtikppcfabnnhfaaDoor

