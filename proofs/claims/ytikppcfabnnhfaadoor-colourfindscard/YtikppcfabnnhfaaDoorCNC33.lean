/- ColourFinds: the walk. -/
import Derived.Test.YtikppcfabnnhfaaDoorCNS15
import Derived.Test.YtikppcfabnnhfaaDoorCNC28
import Derived.Test.YtikppcfabnnhfaaDoorCNC30
namespace Go.Proofs.YtikppcfabnnhfaaDoor
open Go Go.Aw
set_option linter.unusedSimpArgs false
set_option linter.unusedVariables false
set_option maxRecDepth 100000
set_option maxHeartbeats 40000000
def vV (v : List Et) : AV := .ro 2 (v.map enV)
def iV (l : List Int) : AV := .ro 1 (l.map (AV.int .i64))
theorem fd12_loop {w : Wd} {l o : List Int} {v : List Et} (hv : v.length ≤ 1000000) : ∀ (r m : List Et) (u : Int), v = m ++ r → 0 ≤ u → u ≤ m.length →
    EL.L 7 12 [.ptr 60000 0 0, iV l, vV v, iV o, .int .i64 u, .int .i64 m.length] (wO w) = some ((.exit 0, [.ptr 60000 0 0, iV l, vV v, iV o, .int .i64 (u + cntO r), .int .i64 v.length], wO w), True) := by
  intro r
  induction r with
  | nil =>
    intro m u h h0 h1
    rw [List.append_nil] at h
    subst h
    have q : ((v.length : Int) < v.length) = False := eq_false (by omega)
    rw [l7_12L]
    simp (maxSteps := 100000000) only [ivc, vlen, vbuiltin, nilR, eq_self, Nat.reduceEqDiff, Nat.reduceLT, Nat.reduceLeDiff, Nat.reduceAdd, reduceCtorEq, ↓reduceIte, anfL, tyb, vV, iV, wO, wdV, q, cntO, Int.add_zero]
  | cons x r ih =>
    intro m u h h0 h1
    have hn : m.length + (r.length + 1) = v.length := by rw [h]; simp
    have hi' : (m.length : Int) < v.length := by omega
    have hg := getD_map (f := enV) (show v[m.length]? = some x by rw [h]; simp)
    have hw : IntKind.i64.wrap ((m.length : Int) + 1) = m.length + 1 := wrap_id (by omega) (by omega)
    have hw2 : IntKind.i64.wrap (u + 1) = u + 1 := wrap_id (by omega) (by omega)
    have hc : (0 ≤ (m.length : Int) ∧ (m.length : Int) < v.length) = True := eq_true (by omega)
    by_cases hx : 0 ≤ x.s
    · have ih' := ih (m ++ [x]) (u + 1) (by simp [h]) (by omega) (by simp; omega)
      have e : ((cntO (x :: r) : Nat) : Int) = 1 + cntO r := by
        have : cntO (x :: r) = cntO r + 1 := by simp [cntO, hx]
        omega
      rw [e, show u + (1 + (cntO r : Int)) = u + 1 + cntO r by omega]
      simp only [List.length_append, List.length_cons, List.length_nil, Nat.zero_add, Int.natCast_add, Int.cast_ofNat_Int, vV, iV, wO, wdV] at ih'
      rw [l7_12L]
      simp (maxSteps := 100000000) only [ivc, vop, vlen, vbuiltin, nilR, eq_self, Nat.reduceEqDiff, Nat.reduceLT, Nat.reduceLeDiff, Nat.reduceAdd, reduceCtorEq, ↓reduceIte, anfL, tyb, vV, iV, wO, wdV, enV, hi', hg, hw, hw2, hx, ih']
      try exact some_true (by omega)
    · have ih' := ih (m ++ [x]) u (by simp [h]) h0 (by simp; omega)
      have e : cntO (x :: r) = cntO r := by simp [cntO, hx]
      rw [e]
      simp only [List.length_append, List.length_cons, List.length_nil, Nat.zero_add, Int.natCast_add, Int.cast_ofNat_Int, vV, iV, wO, wdV] at ih'
      rw [l7_12L]
      simp (maxSteps := 100000000) only [ivc, vop, vlen, vbuiltin, nilR, eq_self, Nat.reduceEqDiff, Nat.reduceLT, Nat.reduceLeDiff, Nat.reduceAdd, reduceCtorEq, ↓reduceIte, anfL, tyb, vV, iV, wO, wdV, enV, hi', hg, hw, hx, ih']
      try exact some_true (by omega)
theorem fd25_loop {w : Wd} {l o : List Int} {v : List Et} {u s : Int} {k : Nat} {c : List Et} (hk : w.classes[k]? = some c) (hl : c.length ≤ 1000000) : ∀ (r m : List Et) (wa : Int), c = m ++ r →
    EL.L 7 25 [.ptr 60000 0 0, iV l, vV v, iV o, .int .i64 u, .int .i64 k, .int .i64 s, .int .i64 wa, .int .i64 m.length] (wO w) = some ((.exit 6, [.ptr 60000 0 0, iV l, vV v, iV o, .int .i64 u, .int .i64 k, .int .i64 s, .int .i64 (wantM r s wa), .int .i64 c.length], wO w), True) := by
  have hkl := (List.getElem?_eq_some_iff.1 hk).1
  have hgk := getD_map (f := clV) hk
  have hck : (0 ≤ (k : Int) ∧ (k : Int) < w.classes.length) = True := eq_true (by omega)
  have hkn : ((k : Int)).toNat = k := by omega
  intro r
  induction r with
  | nil =>
    intro m wa h
    rw [List.append_nil] at h
    subst h
    have q : ((c.length : Int) < c.length) = False := eq_false (by omega)
    rw [l7_25L]
    simp (maxSteps := 100000000) only [ivc, vop, vlen, vbuiltin, nilR, eq_self, Nat.reduceEqDiff, Nat.reduceLT, Nat.reduceLeDiff, Nat.reduceAdd, reduceCtorEq, ↓reduceIte, anfL, tyb, vV, iV, wO, wdV, clV, hgk, hck, hkn, q, wantM]
    try exact some_true (by omega)
  | cons x r ih =>
    intro m wa h
    have hn : m.length + (r.length + 1) = c.length := by rw [h]; simp
    have hi' : (m.length : Int) < c.length := by omega
    have hg := getD_map (f := enV) (show c[m.length]? = some x by rw [h]; simp)
    have hw : IntKind.i64.wrap ((m.length : Int) + 1) = m.length + 1 := wrap_id (by omega) (by omega)
    have hc : (0 ≤ (m.length : Int) ∧ (m.length : Int) < c.length) = True := eq_true (by omega)
    have ih' := ih (m ++ [x]) (if x.s = s then x.m else wa) (by simp [h])
    rw [wantM]
    by_cases hx : x.s = s
    · have hx' : (x.s == s) = true := beq_iff_eq.2 hx
      rw [if_pos hx] at ih' ⊢
      simp only [List.length_append, List.length_cons, List.length_nil, Nat.zero_add, Int.natCast_add, Int.cast_ofNat_Int, vV, iV, wO, wdV] at ih'
      rw [l7_25L]
      simp (maxSteps := 100000000) only [ivc, vop, vlen, vbuiltin, nilR, eq_self, Nat.reduceEqDiff, Nat.reduceLT, Nat.reduceLeDiff, Nat.reduceAdd, reduceCtorEq, ↓reduceIte, anfL, tyb, vV, iV, wO, wdV, clV, enV, hgk, hck, hkn, hi', hg, hw, hx', ih']
      try exact some_true (by omega)
    · have hx' : (x.s == s) = false := beq_eq_false_iff_ne.2 hx
      rw [if_neg hx] at ih' ⊢
      simp only [List.length_append, List.length_cons, List.length_nil, Nat.zero_add, Int.natCast_add, Int.cast_ofNat_Int, vV, iV, wO, wdV] at ih'
      rw [l7_25L]
      simp (maxSteps := 100000000) only [ivc, vop, vlen, vbuiltin, nilR, eq_self, Nat.reduceEqDiff, Nat.reduceLT, Nat.reduceLeDiff, Nat.reduceAdd, reduceCtorEq, ↓reduceIte, anfL, tyb, vV, iV, wO, wdV, clV, enV, hgk, hck, hkn, hi', hg, hw, hx', ih']
      try exact some_true (by omega)
/-- The result's place, that nobody reads any more. -/
def xB : Bool → AV
  | true => .junk
  | false => .bool false
theorem fd21_loop {w : Wd} {l o : List Int} {v : List Et} {u : Int} {k : Nat} {c : List Et} (hk : w.classes[k]? = some c) (hl : c.length ≤ 1000000) (hll : l.length ≤ 1000000) (hv : v.length ≤ 1000000) (ho : ∀ x ∈ o, i64r x) (hli : ∀ x ∈ l, i64r x)
    (hf : ∀ s : Int, lookM v o l k s = wantM c s (-1)) : ∀ (n : Nat) (s : Int) (b : Bool), s + n = l.length + 2 → -1 ≤ s →
    ∃ b', EL.L 7 21 [.ptr 60000 0 0, xB b, iV l, vV v, iV o, .int .i64 u, .int .i64 k, .int .i64 s] (wO w) = some ((.exit 4, [.ptr 60000 0 0, xB b', iV l, vV v, iV o, .int .i64 u, .int .i64 k, .int .i64 (l.length + 2)], wO w), True) := by
  have w2 : IntKind.i64.wrap ((l.length : Int) + 2) = l.length + 2 := wrap_id (by omega) (by omega)
  intro n
  induction n with
  | zero =>
    intro s b h hs
    refine ⟨b, ?_⟩
    have : s = l.length + 2 := by omega
    subst this
    have q : ((l.length : Int) + 2 < l.length + 2) = False := eq_false (by omega)
    rw [l7_21L]
    cases b
    · simp (maxSteps := 100000000) only [ivc, vlen, vbuiltin, nilR, eq_self, Nat.reduceEqDiff, Nat.reduceLT, Nat.reduceLeDiff, Nat.reduceAdd, Int.reduceNeg, reduceCtorEq, ↓reduceIte, anfL, tyb, vV, iV, xB, wO, wdV, q, w2]
    · simp (maxSteps := 100000000) only [ivc, vlen, vbuiltin, nilR, eq_self, Nat.reduceEqDiff, Nat.reduceLT, Nat.reduceLeDiff, Nat.reduceAdd, Int.reduceNeg, reduceCtorEq, ↓reduceIte, anfL, tyb, vV, iV, xB, wO, wdV, q, w2]
  | succ n ih =>
    intro s b h hs
    have q : (s < (l.length : Int) + 2) = True := eq_true (by omega)
    have hw : IntKind.i64.wrap (s + 1) = s + 1 := wrap_id (by omega) (by omega)
    obtain ⟨b', ih'⟩ := ih (s + 1) true (by omega) (by omega)
    refine ⟨b', ?_⟩
    have lp := fd25_loop (w := w) (l := l) (o := o) (v := v) (u := u) (s := s) hk hl c [] (-1) rfl
    have lk := look_ev (v := v) (offs := o) (l := l) (c := k) (s := s) hv ho hli
    rw [hf s] at lk
    simp only [vV, iV, wO, wdV, List.length_nil, Int.natCast_zero] at ih' lp ⊢
    rw [show xB true = .junk from rfl] at ih'
    rw [l7_21L]
    cases b
    · simp (maxSteps := 100000000) only [ivc, vlen, vbuiltin, nilR, eq_self, Nat.reduceEqDiff, Nat.reduceLT, Nat.reduceLeDiff, Nat.reduceAdd, Int.reduceNeg, reduceCtorEq, ↓reduceIte, anfL, gv12L, tyb, xB.eq_2, q, w2, hw, lp, lk, ih']
    · simp (maxSteps := 100000000) only [ivc, vlen, vbuiltin, nilR, eq_self, Nat.reduceEqDiff, Nat.reduceLT, Nat.reduceLeDiff, Nat.reduceAdd, Int.reduceNeg, reduceCtorEq, ↓reduceIte, anfL, gv12L, tyb, show xB true = .junk from rfl, q, w2, hw, lp, lk, ih']
theorem fd17_loop {w : Wd} {l o : List Int} {v : List Et} (hcl : w.classes.length ≤ 1000000) (hl : ∀ c ∈ w.classes, c.length ≤ 1000000) (hll : l.length ≤ 1000000) (hv : v.length ≤ 1000000) (ho : ∀ x ∈ o, i64r x) (hli : ∀ x ∈ l, i64r x)
    (hf : ∀ (k : Nat) (c : List Et) (s : Int), w.classes[k]? = some c → lookM v o l k s = wantM c s (-1)) : ∀ (r m : List (List Et)) (b : Bool), w.classes = m ++ r → sumL r ≤ 1000000 →
    ∃ b', EL.L 7 17 [.ptr 60000 0 0, xB b, iV l, vV v, iV o, .int .i64 (sumL r), .int .i64 m.length] (wO w) = some ((.exit 2, [.ptr 60000 0 0, xB b', iV l, vV v, iV o, .int .i64 0, .int .i64 w.classes.length], wO w), True) := by
  intro r
  induction r with
  | nil =>
    intro m b h hs
    refine ⟨b, ?_⟩
    rw [List.append_nil] at h
    have q : ((w.classes.length : Int) < w.classes.length) = False := eq_false (by omega)
    rw [← h, l7_17L]
    cases b
    · simp (maxSteps := 100000000) only [ivc, vop, vlen, vbuiltin, nilR, eq_self, Nat.reduceEqDiff, Nat.reduceLT, Nat.reduceLeDiff, Nat.reduceAdd, Int.reduceNeg, reduceCtorEq, ↓reduceIte, anfL, tyb, vV, iV, xB, wO, wdV, q, sumL]
    · simp (maxSteps := 100000000) only [ivc, vop, vlen, vbuiltin, nilR, eq_self, Nat.reduceEqDiff, Nat.reduceLT, Nat.reduceLeDiff, Nat.reduceAdd, Int.reduceNeg, reduceCtorEq, ↓reduceIte, anfL, tyb, vV, iV, xB, wO, wdV, q, sumL]
  | cons x r ih =>
    intro m b h hs
    have hn : m.length + (r.length + 1) = w.classes.length := by rw [h]; simp
    have hi' : (m.length : Int) < w.classes.length := by omega
    have hk : w.classes[m.length]? = some x := by rw [h]; simp
    have hg := getD_map (f := clV) hk
    have hw : IntKind.i64.wrap ((m.length : Int) + 1) = m.length + 1 := wrap_id (by omega) (by omega)
    have hc : (0 ≤ (m.length : Int) ∧ (m.length : Int) < w.classes.length) = True := eq_true (by omega)
    rw [sumL] at hs
    have hw2 : IntKind.i64.wrap (((sumL (x :: r) : Nat) : Int) - x.length) = sumL r := by
      rw [sumL, wrap_id (by omega) (by omega)]; omega
    obtain ⟨b2, lp⟩ := fd21_loop (w := w) (l := l) (o := o) (v := v) (u := sumL r) hk (hl x (by rw [h]; simp)) hll hv ho hli (fun s => hf m.length x s hk) (l.length + 3) (-1) b (by omega) (by omega)
    obtain ⟨b3, ih'⟩ := ih (m ++ [x]) b2 (by simp [h]) (by omega)
    refine ⟨b3, ?_⟩
    simp only [List.length_append, List.length_cons, List.length_nil, Nat.zero_add, Int.natCast_add, Int.cast_ofNat_Int, vV, iV, wO, wdV] at ih' lp
    rw [l7_17L]
    have hx3 : ∀ z, xB z = xB z := fun _ => rfl
    cases b <;> cases b2 <;> cases b3 <;> simp only [xB] at lp ih' ⊢ <;> simp (maxSteps := 100000000) only [ivc, vop, vlen, vbuiltin, nilR, eq_self, Nat.reduceEqDiff, Nat.reduceLT, Nat.reduceLeDiff, Nat.reduceAdd, Int.reduceNeg, reduceCtorEq, ↓reduceIte, anfL, tyb, vV, iV, wO, wdV, clV, hi', hg, hw, hw2, lp, ih'] <;> exact some_true (by omega)
end Go.Proofs.YtikppcfabnnhfaaDoor
