/- A part of the proof of CodeFlowsCardSaid. -/
import Derived.Test.YtfdipcpmfoidoaaDoorC1
/- Types xs trees: what the law's bounds, the sizes and the checks of their nodes compute. -/
namespace Go.Proofs.YtfdipcpmfoidoaaDoor
open Go Go.Aw
set_option linter.unusedSimpArgs false
set_option linter.unusedVariables false
set_option maxRecDepth 100000
set_option maxHeartbeats 40000000
inductive Tp where
 | mk (k : Int) (nm : ByteArray) (c m : Int) (xs : List Tp)
mutual
def tpA : Tp -> AV
 | .mk k nm c m xs => .agg [.int .i64 k, .str nm, .int .i64 c, .int .i64 m, .ro 5 (tpsA xs)]
def tpsA : List Tp -> List AV
 | [] => []
 | t :: r => tpA t :: tpsA r
end
theorem tpsA_eq : ∀ (l : List Tp), tpsA l = l.map tpA
 | [] => rfl
 | t :: r => by simp only [tpsA, List.map_cons, tpsA_eq r]
theorem Tp.ind {p : Tp -> Prop} (h : ∀ k nm c m xs, (∀ t ∈ xs, p t) -> p (.mk k nm c m xs)) (t : Tp) : p t := by
 have key : ∀ n : Nat, ∀ t : Tp, SizeOf.sizeOf t < n -> p t := by
  intro n
  induction n with
  | zero => intro t h; exact absurd h (Nat.not_lt_zero _)
  | succ n ih =>
   intro t hn
   obtain ⟨k, nm, c, m, xs⟩ := t
   refine h k nm c m xs fun t ht => ih t ?_
   have := List.sizeOf_lt_of_mem ht
   simp at hn
   omega
 exact key _ t (Nat.lt_succ_self _)
def Tp.k : Tp -> Int | .mk k _ _ _ _ => k
def Tp.nm : Tp -> ByteArray | .mk _ nm _ _ _ => nm
def Tp.c : Tp -> Int | .mk _ _ c _ _ => c
def Tp.m : Tp -> Int | .mk _ _ _ m _ => m
def Tp.xs : Tp -> List Tp | .mk _ _ _ _ xs => xs
def tpC (t : Tp) : List AV := [.int .i64 t.k, .str t.nm, .int .i64 t.c, .int .i64 t.m, .ro 5 (t.xs.map tpA)]
theorem tpA_eq (t : Tp) : tpA t = .agg (tpC t) := by
 obtain ⟨k, nm, c, m, xs⟩ := t
 simp only [tpA, tpC, Tp.k, Tp.nm, Tp.c, Tp.m, Tp.xs, tpsA_eq]
instance rf_tp : RowF tpA := ⟨fun t => by rw [tpA_eq]; rfl, fun t => by rw [tpA_eq]; rfl⟩
inductive bT : Tp -> Prop
 | mk (k : Int) (nm : ByteArray) (c m : Int) (xs : List Tp) (hl : xs.length ≤ 1000000000000000) (h : ∀ t ∈ xs, bT t) : bT (.mk k nm c m xs)
theorem bT.len {t : Tp} (h : bT t) : t.xs.length ≤ 1000000000000000 := by cases h; assumption
theorem bT.sub {t u : Tp} (h : bT t) (hu : u ∈ t.xs) : bT u := by cases h; rename_i h; exact h u hu
mutual
def leftM : Tp -> Int -> Int
 | .mk _ nm _ _ xs, n => if 400 < nm.size then -1 else leftN xs (IntKind.i64.wrap (n - 1))
def leftN : List Tp -> Int -> Int
 | [], n => n
 | t :: r, n => if 0 ≤ n then leftN r (leftM t n) else n
end
def lfH (t : Tp) : HL := [(60000, ⟨true, 5, [.agg (tpC t)]⟩)]
theorem left_loop {t : Tp} (ht : bT t) (hf : ∀ u ∈ t.xs, ∀ n, E.F 64 [tpA u, .int .i64 n] [] = some ((.int .i64 (leftM u n), []), True)) : ∀ (r m : List Tp) (n : Int), t.xs = m ++ r ->
  ∃ k, E.L 64 6 [.int .i64 n, .ptr 60000 0 0, .int .i64 m.length] (lfH t) = some ((.exit 0, [.int .i64 (leftN r n), .ptr 60000 0 0, .int .i64 k], lfH t), True) := by
 intro r
 induction r with
 | nil =>
  intro m n h
  rw [List.append_nil] at h
  have q : ((m.length : Int) < t.xs.length) = False := eq_false (by rw [h]; omega)
  refine ⟨m.length, ?_⟩
  rw [l64_6]
  simp (maxSteps := 100000000) only [ivc, rgb, anf, vop, vlen, vbuiltin, nilR, eq_self, Nat.reduceEqDiff, Nat.reduceLT, Nat.reduceLeDiff, Nat.reduceAdd, Nat.reduceBEq, reduceCtorEq, ↓reduceIte, tyb, lfH, tpC, q, leftN]
 | cons y r ih =>
  intro m n h
  have hi' : ((m.length : Int) < t.xs.length) = True := eq_true (by rw [h]; simp; omega)
  have hb := ht.len
  have hw1 : IntKind.i64.wrap ((m.length : Int) + 1) = m.length + 1 := wrap_id (by omega) (by rw [h] at hb; simp at hb; omega)
  have hg := getD_map (f := tpA) (show t.xs[m.length]? = some y by rw [h]; simp)
  by_cases hn : 0 ≤ n
  ·obtain ⟨k, ih'⟩ := ih (m ++ [y]) (leftM y n) (by rw [h]; simp)
   simp only [List.length_append, List.length_cons, List.length_nil, Int.natCast_add, Int.cast_ofNat_Int, Nat.zero_add] at ih'
   have hy := hf y (by rw [h]; simp) n
   rw [tpA_eq] at hg hy
   simp only [tpC] at hg hy
   simp only [lfH, tpC] at ih'
   refine ⟨k, ?_⟩
   rw [l64_6]
   simp (maxSteps := 100000000) only [ivc, rgb, mpb, anf, vop, vlen, vbuiltin, nilR, eq_self, Nat.reduceEqDiff, Nat.reduceLT, Nat.reduceLeDiff, Nat.reduceAdd, Nat.reduceBEq, reduceCtorEq, ↓reduceIte, tyb, lfH, tpC, hi', hw1, hg, hy, hn, leftN, ih']
   exact some_true (by omega)
  ·refine ⟨m.length, ?_⟩
   rw [l64_6]
   simp (maxSteps := 100000000) only [ivc, rgb, anf, vop, vlen, vbuiltin, nilR, eq_self, Nat.reduceEqDiff, Nat.reduceLT, Nat.reduceLeDiff, Nat.reduceAdd, Nat.reduceBEq, reduceCtorEq, ↓reduceIte, tyb, lfH, tpC, hi', hn, leftN]
theorem left_ev {t : Tp} (ht : bT t) : ∀ n, E.F 64 [tpA t, .int .i64 n] [] = some ((.int .i64 (leftM t n), []), True) := by
 induction t using Tp.ind with
 | h k nm c m xs ih =>
  intro n
  by_cases hnm : 400 < nm.size
  ·have d1 : ((400 : Int) < nm.size) = True := eq_true (by omega)
   rw [e64, tpA_eq]
   simp (maxSteps := 100000000) only [ivc, rgb, anf, vop, vlen, vbuiltin, nilR, salloc, eq_self, Nat.reduceEqDiff, Nat.reduceLT, Nat.reduceLeDiff, Nat.reduceAdd, Nat.reduceBEq, Int.reduceNeg, reduceCtorEq, ↓reduceIte, tyb, tpC, Tp.k, Tp.nm, Tp.c, Tp.m, Tp.xs, d1, leftM, if_pos hnm]
  ·have d1 : ((400 : Int) < nm.size) = False := eq_false (by omega)
   obtain ⟨k', L⟩ := left_loop ht (fun u hu => ih u hu (ht.sub hu)) xs [] (IntKind.i64.wrap (n - 1)) rfl
   simp only [List.length_nil, Int.natCast_zero, lfH, tpC, Tp.k, Tp.nm, Tp.c, Tp.m, Tp.xs] at L
   rw [e64, tpA_eq]
   simp (maxSteps := 100000000) only [ivc, rgb, anf, vop, vlen, vbuiltin, nilR, salloc, eq_self, Nat.reduceEqDiff, Nat.reduceLT, Nat.reduceLeDiff, Nat.reduceAdd, Nat.reduceBEq, Int.reduceNeg, reduceCtorEq, ↓reduceIte, tyb, tpC, Tp.k, Tp.nm, Tp.c, Tp.m, Tp.xs, d1, L, leftM, if_neg hnm]
def szS (x y : Int × Int) : Int × Int := (IntKind.i64.wrap (x.1 + y.1), if x.2 < IntKind.i64.wrap (y.2 + 1) then IntKind.i64.wrap (y.2 + 1) else x.2)
mutual
def szM : Tp -> Int × Int
 | .mk _ _ _ _ xs => szN xs (1, 1)
def szN : List Tp -> Int × Int -> Int × Int
 | [], s => s
 | t :: r, s => szN r (szS s (szM t))
end
theorem sz_loop {t : Tp} (ht : bT t) (hf : ∀ u ∈ t.xs, E.F 67 [tpA u] [] = some ((.tup [.int .i64 (szM u).1, .int .i64 (szM u).2], []), True)) : ∀ (r m : List Tp) (s : Int × Int), t.xs = m ++ r ->
  ∃ k, E.L 67 4 [.int .i64 s.1, .int .i64 s.2, .ro 5 (t.xs.map tpA), .int .i64 t.xs.length, .int .i64 m.length] [] = some ((.exit 0, [.int .i64 (szN r s).1, .int .i64 (szN r s).2, .ro 5 (t.xs.map tpA), .int .i64 t.xs.length, .int .i64 k], []), True) := by
 intro r
 induction r with
 | nil =>
  intro m s h
  rw [List.append_nil] at h
  have q : ((m.length : Int) < t.xs.length) = False := eq_false (by rw [h]; omega)
  refine ⟨m.length, ?_⟩
  rw [l67_4]
  simp (maxSteps := 100000000) only [ivc, rgb, anf, nilR, eq_self, Nat.reduceEqDiff, Nat.reduceLT, Nat.reduceBEq, reduceCtorEq, ↓reduceIte, tyb, q, szN]
 | cons y r ih =>
  intro m s h
  have hi' : ((m.length : Int) < t.xs.length) = True := eq_true (by rw [h]; simp; omega)
  have hb := ht.len
  have hw1 : IntKind.i64.wrap ((m.length : Int) + 1) = m.length + 1 := wrap_id (by omega) (by rw [h] at hb; simp at hb; omega)
  have hg := getD_map (f := tpA) (show t.xs[m.length]? = some y by rw [h]; simp)
  obtain ⟨k, ih'⟩ := ih (m ++ [y]) (szS s (szM y)) (by rw [h]; simp)
  simp only [List.length_append, List.length_cons, List.length_nil, Int.natCast_add, Int.cast_ofNat_Int, Nat.zero_add, szS] at ih'
  have hy := hf y (by rw [h]; simp)
  rw [tpA_eq] at hg hy
  simp only [tpC] at hg hy
  refine ⟨k, ?_⟩
  rw [l67_4]
  simp (maxSteps := 100000000) only [ivc, rgb, mpb, anf, vop, vbuiltin, nilR, salloc, eq_self, Nat.reduceEqDiff, Nat.reduceLT, Nat.reduceAdd, Nat.reduceBEq, reduceCtorEq, ↓reduceIte, tyb, hi', hw1, hg, hy, szN, szS, ih']
  exact some_true (by omega)
theorem sz_ev {t : Tp} (ht : bT t) : E.F 67 [tpA t] [] = some ((.tup [.int .i64 (szM t).1, .int .i64 (szM t).2], []), True) := by
 induction t using Tp.ind with
 | h k nm c m xs ih =>
  obtain ⟨k', L⟩ := sz_loop ht (fun u hu => ih u hu (ht.sub hu)) xs [] (1, 1) rfl
  simp only [List.length_nil, Int.natCast_zero, Tp.xs] at L
  rw [e67, tpA_eq]
  simp (maxSteps := 100000000) only [ivc, rgb, anf, vop, vlen, vbuiltin, salloc, eq_self, Nat.reduceEqDiff, Nat.reduceLT, Nat.reduceLeDiff, Nat.reduceAdd, Nat.reduceBEq, reduceCtorEq, ↓reduceIte, tyb, tpC, Tp.k, Tp.nm, Tp.c, Tp.m, Tp.xs, L, szM]
def capW (n : Int) : Bool := decide (1 ≤ n) && decide (n ≤ 6)
theorem cap_ev {n : Int} : E.F 75 [.int .i64 n] [] = some ((.bool (capW n), []), True) := by
 rw [e75]
 by_cases h1 : 1 ≤ n
 ·by_cases h2 : n ≤ 6
  ·simp (maxSteps := 100000000) only [ivc, rgb, anf, nilR, eq_self, Nat.reduceEqDiff, Nat.reduceLT, Nat.reduceLeDiff, Nat.reduceBEq, reduceCtorEq, ↓reduceIte, tyb, h1, h2, capW]
  ·simp (maxSteps := 100000000) only [ivc, rgb, anf, nilR, eq_self, Nat.reduceEqDiff, Nat.reduceLT, Nat.reduceLeDiff, Nat.reduceBEq, reduceCtorEq, ↓reduceIte, tyb, h1, h2, capW]
 ·simp (maxSteps := 100000000) only [ivc, rgb, anf, nilR, eq_self, Nat.reduceEqDiff, Nat.reduceLT, Nat.reduceLeDiff, Nat.reduceBEq, reduceCtorEq, ↓reduceIte, tyb, h1, capW]
theorem lft_ev {t : Tp} (ht : bT t) {n : Int} : E.F 53 [tpA t, .int .i64 n] [] = some ((.bool (decide (0 ≤ leftM t n) && decide (t.nm.size ≤ 400)), []), True) := by
 have L := left_ev ht n
 rw [tpA_eq] at L
 simp only [tpC] at L
 rw [e53, tpA_eq]
 by_cases h1 : 0 ≤ leftM t n
 ·by_cases h2 : t.nm.size ≤ 400
  ·have d2 : ((t.nm.size : Int) ≤ 400) = True := eq_true (by omega)
   simp (maxSteps := 100000000) only [ivc, rgb, mpb, anf, vop, vlen, vbuiltin, nilR, salloc, eq_self, Nat.reduceEqDiff, Nat.reduceLT, Nat.reduceLeDiff, Nat.reduceAdd, Nat.reduceBEq, reduceCtorEq, ↓reduceIte, tyb, tpC, L, h1, h2, d2]
  ·have d2 : ((t.nm.size : Int) ≤ 400) = False := eq_false (by omega)
   simp (maxSteps := 100000000) only [ivc, rgb, mpb, anf, vop, vlen, vbuiltin, nilR, salloc, eq_self, Nat.reduceEqDiff, Nat.reduceLT, Nat.reduceLeDiff, Nat.reduceAdd, Nat.reduceBEq, reduceCtorEq, ↓reduceIte, tyb, tpC, L, h1, h2, d2]
 ·simp (maxSteps := 100000000) only [ivc, rgb, mpb, anf, vop, vlen, vbuiltin, nilR, salloc, eq_self, Nat.reduceEqDiff, Nat.reduceLT, Nat.reduceLeDiff, Nat.reduceAdd, Nat.reduceBEq, reduceCtorEq, ↓reduceIte, tyb, tpC, L, h1]
theorem wd_ev {s : ByteArray} (h : 8 ≤ s.size) : ∃ n, E.F 82 [.str s] [] = some ((.int .u64 n, []), True) := by
 have h0 : ((0 : Int) < s.size) = True := eq_true (by omega)
 have h1 : ((1 : Int) < s.size) = True := eq_true (by omega)
 have h2 : ((2 : Int) < s.size) = True := eq_true (by omega)
 have h3 : ((3 : Int) < s.size) = True := eq_true (by omega)
 have h4 : ((4 : Int) < s.size) = True := eq_true (by omega)
 have h5 : ((5 : Int) < s.size) = True := eq_true (by omega)
 have h6 : ((6 : Int) < s.size) = True := eq_true (by omega)
 have h7 : ((7 : Int) < s.size) = True := eq_true (by omega)
 rw [e82]
 simp (maxSteps := 100000000) only [ivc, rgb, anf, vop, nilR, eq_self, Nat.reduceEqDiff, Nat.reduceLT, Nat.reduceLeDiff, Nat.reduceBEq, Int.reduceLE, Int.reduceToNat, reduceCtorEq, ↓reduceIte, tyb, h0, h1, h2, h3, h4, h5, h6, h7]
 exact ⟨_, rfl⟩
theorem ext_sz {s : ByteArray} {k : Nat} (h : k ≤ s.size) : (s.extract k s.size).size = s.size - k := by simp
theorem vs_in : ∀ (m : Nat) (s : ByteArray), s.size ≤ m -> ∃ s' : ByteArray, s'.size ≤ s.size /\ E.L 80 10 [.str s, .bool false] [] = some ((.exit 2, [.str s', .bool false], []), True) := by
 intro m
 induction m with
 | zero =>
  intro s hs
  refine ⟨s, Nat.le_refl _, ?_⟩
  have q : ((32 : Int) < s.size) = False := eq_false (by omega)
  rw [l80_10]
  simp (maxSteps := 100000000) only [ivc, rgb, mpb, anf, vop, vslice, vlen, vbuiltin, nilR, eq_self, Nat.reduceEqDiff, Nat.reduceLT, Nat.reduceBEq, Int.reduceLE, Int.reduceToNat, reduceCtorEq, ↓reduceIte, tyb, q]
 | succ m ih =>
  intro s hs
  by_cases h : 32 < s.size
  ·have q : ((32 : Int) < s.size) = True := eq_true (by omega)
   have e8 := ext_sz (s := s) (k := 8) (by omega)
   have e16 := ext_sz (s := s) (k := 16) (by omega)
   have e24 := ext_sz (s := s) (k := 24) (by omega)
   have e32 := ext_sz (s := s) (k := 32) (by omega)
   obtain ⟨n0, w0⟩ := wd_ev (s := s) (by omega)
   obtain ⟨n1, w1⟩ := wd_ev (s := s.extract 8 s.size) (by omega)
   obtain ⟨n2, w2⟩ := wd_ev (s := s.extract 16 s.size) (by omega)
   obtain ⟨n3, w3⟩ := wd_ev (s := s.extract 24 s.size) (by omega)
   have q8 : ((8 : Int) ≤ s.size) = True := eq_true (by omega)
   have q16 : ((16 : Int) ≤ s.size) = True := eq_true (by omega)
   have q24 : ((24 : Int) ≤ s.size) = True := eq_true (by omega)
   have q32 : ((32 : Int) ≤ s.size) = True := eq_true (by omega)
   obtain ⟨s', hs', ih'⟩ := ih (s.extract 32 s.size) (by omega)
   cases hb : (bitsI .and .u64 (bitsI .or .u64 (bitsI .or .u64 n0 n1) (bitsI .or .u64 n2 n3)) 9259542123273814144 == 0) with
   | true =>
    refine ⟨s', by omega, ?_⟩
    rw [l80_10]
    simp (maxSteps := 100000000) only [ivc, rgb, mpb, anf, vop, vslice, vlen, vbuiltin, nilR, eq_self, Nat.reduceEqDiff, Nat.reduceLT, Nat.reduceBEq, Int.reduceLE, Int.reduceToNat, reduceCtorEq, ↓reduceIte, tyb, q, q8, q16, q24, q32, w0, w1, w2, w3, hb, ih', Int.le_refl]
   | false =>
    refine ⟨s, Nat.le_refl _, ?_⟩
    rw [l80_10]
    simp (maxSteps := 100000000) only [ivc, rgb, mpb, anf, vop, vslice, vlen, vbuiltin, nilR, eq_self, Nat.reduceEqDiff, Nat.reduceLT, Nat.reduceBEq, Int.reduceLE, Int.reduceToNat, reduceCtorEq, ↓reduceIte, tyb, q, q8, q16, q24, w0, w1, w2, w3, hb, Int.le_refl]
  ·refine ⟨s, Nat.le_refl _, ?_⟩
   have q : ((32 : Int) < s.size) = False := eq_false (by omega)
   rw [l80_10]
   simp (maxSteps := 100000000) only [ivc, rgb, mpb, anf, vop, vslice, vlen, vbuiltin, nilR, eq_self, Nat.reduceEqDiff, Nat.reduceLT, Nat.reduceBEq, Int.reduceLE, Int.reduceToNat, reduceCtorEq, ↓reduceIte, tyb, q]
theorem b7 : (bitsI .and .u8 241 7 = 1) /\ (bitsI .and .u8 2 7 = 2) /\ (bitsI .and .u8 19 7 = 3) /\ (bitsI .and .u8 3 7 = 3) /\ (bitsI .and .u8 35 7 = 3) /\ (bitsI .and .u8 52 7 = 4) /\ (bitsI .and .u8 4 7 = 4) /\ (bitsI .and .u8 68 7 = 4) := by
 refine ⟨by rfl, by rfl, by rfl, by rfl, by rfl, by rfl, by rfl, by rfl⟩
theorem w7 : (IntKind.i64.wrap 1 = 1) /\ (IntKind.i64.wrap 2 = 2) /\ (IntKind.i64.wrap 3 = 3) /\ (IntKind.i64.wrap 4 = 4) := by
 refine ⟨by rfl, by rfl, by rfl, by rfl⟩
theorem s4 : ((241 : Int).fdiv (2 ^ min 4 8) = 15) /\ ((2 : Int).fdiv (2 ^ min 4 8) = 0) /\ ((19 : Int).fdiv (2 ^ min 4 8) = 1) /\ ((3 : Int).fdiv (2 ^ min 4 8) = 0) /\ ((35 : Int).fdiv (2 ^ min 4 8) = 2) /\ ((52 : Int).fdiv (2 ^ min 4 8) = 3) /\ ((4 : Int).fdiv (2 ^ min 4 8) = 0) /\ ((68 : Int).fdiv (2 ^ min 4 8) = 4) := by
 refine ⟨by rfl, by rfl, by rfl, by rfl, by rfl, by rfl, by rfl, by rfl⟩
theorem s4' : (IntKind.bits .u8 = 8) /\ (Int.toNat 4 = 4) := ⟨rfl, rfl⟩
theorem g1 : G 1 = .rop (.agg firstA) 0 := rfl
theorem g2 : G 2 = .rop (.agg accA) 0 := rfl
theorem first_get {n : Nat} (h : n < 256) : firstA.getD n .junk = .int .u8 (firstT.getD n 0) := row_get 0 (by have : firstT.length = 256 := rfl; omega)
theorem first_len : firstA.length = 256 := rfl
theorem acc_len : accA.length = 32 := rfl
theorem acc_get : (accA.drop 0).take 2 = [.int .u8 128, .int .u8 191] /\ (accA.drop 2).take 2 = [.int .u8 160, .int .u8 191] /\ (accA.drop 4).take 2 = [.int .u8 128, .int .u8 159] /\ (accA.drop 6).take 2 = [.int .u8 144, .int .u8 191] /\ (accA.drop 8).take 2 = [.int .u8 128, .int .u8 143] /\ accA.take 2 = [.int .u8 128, .int .u8 191] /\ (accA.drop 30).take 2 = [.int .u8 0, .int .u8 0] := ⟨rfl, rfl, rfl, rfl, rfl, rfl, rfl⟩
def Rv (s : ByteArray) : Prop := ∃ (s' : ByteArray) (e : Exit), (e = .exit 0 \/ e = .ret) /\ E.L 80 2 [.str s, .bool false] [] = some ((e, [.str s', .bool false], []), True)
theorem byte_u (s : ByteArray) (i : Nat) : 0 ≤ byteAt s i /\ byteAt s i < 256 := by
 unfold byteAt
 have := ((s.data[i]?).getD 0).toNat_lt
 omega
theorem vr_241 {s : ByteArray} (hc : 128 ≤ byteAt s 0) (h0 : 0 < s.size) (hx : firstT.getD (byteAt s 0).toNat 0 = 241) : Rv s := by
 have z0 : ((0 : Int) < s.size) = True := eq_true (by omega)
 have ba := byte_u s 0
 have c0 : (byteAt s 0 < 128) = False := eq_false (by omega)
 have c1 : (byteAt s 0 < 256) = True := eq_true (by omega)
 have c2 : (0 ≤ byteAt s 0) = True := eq_true (by omega)
 have c3 := (first_get (n := (byteAt s 0).toNat) (by omega)).trans (by rw [hx])
 have c4 : (byteAt s 0).toNat + 1 ≤ 256 := by omega
 have c5 : (byteAt s 0).toNat < 256 := by omega
 refine ⟨s, .ret, .inr rfl, ?_⟩
 rw [l80_2]
 simp (maxSteps := 100000000) only [ivc, rgb, mpb, anf, vop, vlen, vbuiltin, nilR, salloc, eq_self, Nat.reduceEqDiff, Nat.reduceLT, Nat.reduceAdd, Nat.reduceMul, Nat.reduceBEq, Int.reduceLT, Int.reduceLE, Int.reduceNeg, Int.reduceToNat, Int.reduceBEq, reduceCtorEq, ↓reduceIte, tyb, g1, g2, first_len, acc_len, acc_get, b7, s4, s4', z0, c0, c1, c2, c3, c5]
theorem vr_2 {s : ByteArray} (hc : 128 ≤ byteAt s 0) (h0 : 0 < s.size) (hx : firstT.getD (byteAt s 0).toNat 0 = 2) (ih : 2 ≤ s.size -> Rv (s.extract 2 s.size)) : Rv s := by
 have z0 : ((0 : Int) < s.size) = True := eq_true (by omega)
 have ba := byte_u s 0
 have c0 : (byteAt s 0 < 128) = False := eq_false (by omega)
 have c1 : (byteAt s 0 < 256) = True := eq_true (by omega)
 have c2 : (0 ≤ byteAt s 0) = True := eq_true (by omega)
 have c3 := (first_get (n := (byteAt s 0).toNat) (by omega)).trans (by rw [hx])
 have c4 : (byteAt s 0).toNat + 1 ≤ 256 := by omega
 have c5 : (byteAt s 0).toNat < 256 := by omega
 by_cases hl : (s.size : Int) < 2
 ·refine ⟨s, .ret, .inr rfl, ?_⟩
  rw [l80_2]
  simp (maxSteps := 100000000) only [ivc, rgb, mpb, anf, vop, vlen, vbuiltin, nilR, salloc, eq_self, Nat.reduceEqDiff, Nat.reduceLT, Nat.reduceLeDiff, Nat.reduceAdd, Nat.reduceBEq, Int.reduceLT, Int.reduceLE, Int.reduceNeg, Int.reduceToNat, reduceCtorEq, ↓reduceIte, tyb, g1, g2, first_len, acc_len, acc_get, b7, s4, s4', z0, c0, c1, c2, c3, c5, hl]
 have i1 : ((1 : Int) < s.size) = True := eq_true (by omega)
 have i2 : ((2 : Int) ≤ s.size) = True := eq_true (by omega)
 by_cases ha : byteAt s 1 < 128
 ·refine ⟨s, .ret, .inr rfl, ?_⟩
  rw [l80_2]
  simp (maxSteps := 100000000) only [ivc, rgb, mpb, anf, vop, vlen, vbuiltin, nilR, salloc, eq_self, Nat.reduceEqDiff, Nat.reduceLT, Nat.reduceLeDiff, Nat.reduceAdd, Nat.reduceBEq, Int.reduceLT, Int.reduceLE, Int.reduceNeg, Int.reduceToNat, reduceCtorEq, ↓reduceIte, tyb, g1, g2, first_len, acc_len, acc_get, b7, s4, s4', z0, c0, c1, c2, c3, c5, hl, i1, ha]
 by_cases hb : 191 < byteAt s 1
 ·refine ⟨s, .ret, .inr rfl, ?_⟩
  rw [l80_2]
  simp (maxSteps := 100000000) only [ivc, rgb, mpb, anf, vop, vlen, vbuiltin, nilR, salloc, eq_self, Nat.reduceEqDiff, Nat.reduceLT, Nat.reduceLeDiff, Nat.reduceAdd, Nat.reduceBEq, Int.reduceLT, Int.reduceLE, Int.reduceNeg, Int.reduceToNat, reduceCtorEq, ↓reduceIte, tyb, g1, g2, first_len, acc_len, acc_get, b7, s4, s4', z0, c0, c1, c2, c3, c5, hl, i1, ha, hb]
 obtain ⟨s2, e, he, L⟩ := ih (by omega)
 refine ⟨s2, e, he, ?_⟩
 rw [l80_2]
 simp (maxSteps := 100000000) only [ivc, rgb, mpb, anf, vop, vslice, vlen, vbuiltin, nilR, salloc, eq_self, Nat.reduceEqDiff, Nat.reduceLT, Nat.reduceLeDiff, Nat.reduceAdd, Nat.reduceBEq, Int.reduceLT, Int.reduceLE, Int.reduceNeg, Int.reduceToNat, reduceCtorEq, ↓reduceIte, tyb, g1, g2, first_len, acc_len, acc_get, b7, s4, s4', z0, c0, c1, c2, c3, c5, hl, i1, i2, ha, hb, L, Int.le_refl]
theorem vr_19 {s : ByteArray} (hc : 128 ≤ byteAt s 0) (h0 : 0 < s.size) (hx : firstT.getD (byteAt s 0).toNat 0 = 19) (ih : 3 ≤ s.size -> Rv (s.extract 3 s.size)) : Rv s := by
 have z0 : ((0 : Int) < s.size) = True := eq_true (by omega)
 have ba := byte_u s 0
 have c0 : (byteAt s 0 < 128) = False := eq_false (by omega)
 have c1 : (byteAt s 0 < 256) = True := eq_true (by omega)
 have c2 : (0 ≤ byteAt s 0) = True := eq_true (by omega)
 have c3 := (first_get (n := (byteAt s 0).toNat) (by omega)).trans (by rw [hx])
 have c4 : (byteAt s 0).toNat + 1 ≤ 256 := by omega
 have c5 : (byteAt s 0).toNat < 256 := by omega
 by_cases hl : (s.size : Int) < 3
 ·refine ⟨s, .ret, .inr rfl, ?_⟩
  rw [l80_2]
  simp (maxSteps := 100000000) only [ivc, rgb, mpb, anf, vop, vlen, vbuiltin, nilR, salloc, eq_self, Nat.reduceEqDiff, Nat.reduceLT, Nat.reduceLeDiff, Nat.reduceAdd, Nat.reduceMul, Nat.reduceBEq, Int.reduceLT, Int.reduceLE, Int.reduceNeg, Int.reduceToNat, Int.reduceBEq, reduceCtorEq, ↓reduceIte, tyb, g1, g2, first_len, acc_len, acc_get, b7, s4, s4', z0, c0, c1, c2, c3, c5, hl]
 have i1 : ((1 : Int) < s.size) = True := eq_true (by omega)
 have i2 : ((2 : Int) < s.size) = True := eq_true (by omega)
 have i3 : ((3 : Int) ≤ s.size) = True := eq_true (by omega)
 by_cases ha : byteAt s 1 < 160
 ·refine ⟨s, .ret, .inr rfl, ?_⟩
  rw [l80_2]
  simp (maxSteps := 100000000) only [ivc, rgb, mpb, anf, vop, vlen, vbuiltin, nilR, salloc, eq_self, Nat.reduceEqDiff, Nat.reduceLT, Nat.reduceLeDiff, Nat.reduceAdd, Nat.reduceMul, Nat.reduceBEq, Int.reduceLT, Int.reduceLE, Int.reduceNeg, Int.reduceToNat, Int.reduceBEq, reduceCtorEq, ↓reduceIte, tyb, g1, g2, first_len, acc_len, acc_get, b7, s4, s4', z0, c0, c1, c2, c3, c5, hl, i1, i2, ha]
 by_cases hb : 191 < byteAt s 1
 ·refine ⟨s, .ret, .inr rfl, ?_⟩
  rw [l80_2]
  simp (maxSteps := 100000000) only [ivc, rgb, mpb, anf, vop, vlen, vbuiltin, nilR, salloc, eq_self, Nat.reduceEqDiff, Nat.reduceLT, Nat.reduceLeDiff, Nat.reduceAdd, Nat.reduceMul, Nat.reduceBEq, Int.reduceLT, Int.reduceLE, Int.reduceNeg, Int.reduceToNat, Int.reduceBEq, reduceCtorEq, ↓reduceIte, tyb, g1, g2, first_len, acc_len, acc_get, b7, s4, s4', z0, c0, c1, c2, c3, c5, hl, i1, i2, ha, hb]
 by_cases hp2 : byteAt s 2 < 128
 ·refine ⟨s, .ret, .inr rfl, ?_⟩
  rw [l80_2]
  simp (maxSteps := 100000000) only [ivc, rgb, mpb, anf, vop, vlen, vbuiltin, nilR, salloc, eq_self, Nat.reduceEqDiff, Nat.reduceLT, Nat.reduceLeDiff, Nat.reduceAdd, Nat.reduceMul, Nat.reduceBEq, Int.reduceLT, Int.reduceLE, Int.reduceNeg, Int.reduceToNat, Int.reduceBEq, reduceCtorEq, ↓reduceIte, tyb, g1, g2, first_len, acc_len, acc_get, b7, s4, s4', z0, c0, c1, c2, c3, c5, hl, i1, i2, ha, hb, hp2]
 by_cases hq2 : 191 < byteAt s 2
 ·refine ⟨s, .ret, .inr rfl, ?_⟩
  rw [l80_2]
  simp (maxSteps := 100000000) only [ivc, rgb, mpb, anf, vop, vlen, vbuiltin, nilR, salloc, eq_self, Nat.reduceEqDiff, Nat.reduceLT, Nat.reduceLeDiff, Nat.reduceAdd, Nat.reduceMul, Nat.reduceBEq, Int.reduceLT, Int.reduceLE, Int.reduceNeg, Int.reduceToNat, Int.reduceBEq, reduceCtorEq, ↓reduceIte, tyb, g1, g2, first_len, acc_len, acc_get, b7, s4, s4', z0, c0, c1, c2, c3, c5, hl, i1, i2, ha, hb, hp2, hq2]
 obtain ⟨s2, e, he, L⟩ := ih (by omega)
 refine ⟨s2, e, he, ?_⟩
 rw [l80_2]
 simp (maxSteps := 100000000) only [ivc, rgb, mpb, anf, vop, vslice, vlen, vbuiltin, nilR, salloc, eq_self, Nat.reduceEqDiff, Nat.reduceLT, Nat.reduceLeDiff, Nat.reduceAdd, Nat.reduceMul, Nat.reduceBEq, Int.reduceLT, Int.reduceLE, Int.reduceNeg, Int.reduceToNat, Int.reduceBEq, reduceCtorEq, ↓reduceIte, tyb, g1, g2, first_len, acc_len, acc_get, b7, s4, s4', z0, c0, c1, c2, c3, c5, hl, i1, i2, i3, ha, hb, hp2, hq2, L, Int.le_refl]
theorem vr_3 {s : ByteArray} (hc : 128 ≤ byteAt s 0) (h0 : 0 < s.size) (hx : firstT.getD (byteAt s 0).toNat 0 = 3) (ih : 3 ≤ s.size -> Rv (s.extract 3 s.size)) : Rv s := by
 have z0 : ((0 : Int) < s.size) = True := eq_true (by omega)
 have ba := byte_u s 0
 have c0 : (byteAt s 0 < 128) = False := eq_false (by omega)
 have c1 : (byteAt s 0 < 256) = True := eq_true (by omega)
 have c2 : (0 ≤ byteAt s 0) = True := eq_true (by omega)
 have c3 := (first_get (n := (byteAt s 0).toNat) (by omega)).trans (by rw [hx])
 have c4 : (byteAt s 0).toNat + 1 ≤ 256 := by omega
 have c5 : (byteAt s 0).toNat < 256 := by omega
 by_cases hl : (s.size : Int) < 3
 ·refine ⟨s, .ret, .inr rfl, ?_⟩
  rw [l80_2]
  simp (maxSteps := 100000000) only [ivc, rgb, mpb, anf, vop, vlen, vbuiltin, nilR, salloc, eq_self, Nat.reduceEqDiff, Nat.reduceLT, Nat.reduceLeDiff, Nat.reduceAdd, Nat.reduceBEq, Int.reduceLT, Int.reduceLE, Int.reduceNeg, Int.reduceToNat, Int.reduceBEq, reduceCtorEq, ↓reduceIte, tyb, g1, g2, first_len, acc_len, acc_get, b7, s4, s4', z0, c0, c1, c2, c3, c5, hl]
 have i1 : ((1 : Int) < s.size) = True := eq_true (by omega)
 have i2 : ((2 : Int) < s.size) = True := eq_true (by omega)
 have i3 : ((3 : Int) ≤ s.size) = True := eq_true (by omega)
 by_cases ha : byteAt s 1 < 128
 ·refine ⟨s, .ret, .inr rfl, ?_⟩
  rw [l80_2]
  simp (maxSteps := 100000000) only [ivc, rgb, mpb, anf, vop, vlen, vbuiltin, nilR, salloc, eq_self, Nat.reduceEqDiff, Nat.reduceLT, Nat.reduceLeDiff, Nat.reduceAdd, Nat.reduceBEq, Int.reduceLT, Int.reduceLE, Int.reduceNeg, Int.reduceToNat, Int.reduceBEq, reduceCtorEq, ↓reduceIte, tyb, g1, g2, first_len, acc_len, acc_get, b7, s4, s4', z0, c0, c1, c2, c3, c5, hl, i1, i2, ha]
 by_cases hb : 191 < byteAt s 1
 ·refine ⟨s, .ret, .inr rfl, ?_⟩
  rw [l80_2]
  simp (maxSteps := 100000000) only [ivc, rgb, mpb, anf, vop, vlen, vbuiltin, nilR, salloc, eq_self, Nat.reduceEqDiff, Nat.reduceLT, Nat.reduceLeDiff, Nat.reduceAdd, Nat.reduceBEq, Int.reduceLT, Int.reduceLE, Int.reduceNeg, Int.reduceToNat, Int.reduceBEq, reduceCtorEq, ↓reduceIte, tyb, g1, g2, first_len, acc_len, acc_get, b7, s4, s4', z0, c0, c1, c2, c3, c5, hl, i1, i2, ha, hb]
 by_cases hp2 : byteAt s 2 < 128
 ·refine ⟨s, .ret, .inr rfl, ?_⟩
  rw [l80_2]
  simp (maxSteps := 100000000) only [ivc, rgb, mpb, anf, vop, vlen, vbuiltin, nilR, salloc, eq_self, Nat.reduceEqDiff, Nat.reduceLT, Nat.reduceLeDiff, Nat.reduceAdd, Nat.reduceBEq, Int.reduceLT, Int.reduceLE, Int.reduceNeg, Int.reduceToNat, Int.reduceBEq, reduceCtorEq, ↓reduceIte, tyb, g1, g2, first_len, acc_len, acc_get, b7, s4, s4', z0, c0, c1, c2, c3, c5, hl, i1, i2, ha, hb, hp2]
 by_cases hq2 : 191 < byteAt s 2
 ·refine ⟨s, .ret, .inr rfl, ?_⟩
  rw [l80_2]
  simp (maxSteps := 100000000) only [ivc, rgb, mpb, anf, vop, vlen, vbuiltin, nilR, salloc, eq_self, Nat.reduceEqDiff, Nat.reduceLT, Nat.reduceLeDiff, Nat.reduceAdd, Nat.reduceBEq, Int.reduceLT, Int.reduceLE, Int.reduceNeg, Int.reduceToNat, Int.reduceBEq, reduceCtorEq, ↓reduceIte, tyb, g1, g2, first_len, acc_len, acc_get, b7, s4, s4', z0, c0, c1, c2, c3, c5, hl, i1, i2, ha, hb, hp2, hq2]
 obtain ⟨s2, e, he, L⟩ := ih (by omega)
 refine ⟨s2, e, he, ?_⟩
 rw [l80_2]
 simp (maxSteps := 100000000) only [ivc, rgb, mpb, anf, vop, vslice, vlen, vbuiltin, nilR, salloc, eq_self, Nat.reduceEqDiff, Nat.reduceLT, Nat.reduceLeDiff, Nat.reduceAdd, Nat.reduceBEq, Int.reduceLT, Int.reduceLE, Int.reduceNeg, Int.reduceToNat, Int.reduceBEq, reduceCtorEq, ↓reduceIte, tyb, g1, g2, first_len, acc_len, acc_get, b7, s4, s4', z0, c0, c1, c2, c3, c5, hl, i1, i2, i3, ha, hb, hp2, hq2, L, Int.le_refl]
theorem vr_35 {s : ByteArray} (hc : 128 ≤ byteAt s 0) (h0 : 0 < s.size) (hx : firstT.getD (byteAt s 0).toNat 0 = 35) (ih : 3 ≤ s.size -> Rv (s.extract 3 s.size)) : Rv s := by
 have z0 : ((0 : Int) < s.size) = True := eq_true (by omega)
 have ba := byte_u s 0
 have c0 : (byteAt s 0 < 128) = False := eq_false (by omega)
 have c1 : (byteAt s 0 < 256) = True := eq_true (by omega)
 have c2 : (0 ≤ byteAt s 0) = True := eq_true (by omega)
 have c3 := (first_get (n := (byteAt s 0).toNat) (by omega)).trans (by rw [hx])
 have c4 : (byteAt s 0).toNat + 1 ≤ 256 := by omega
 have c5 : (byteAt s 0).toNat < 256 := by omega
 by_cases hl : (s.size : Int) < 3
 ·refine ⟨s, .ret, .inr rfl, ?_⟩
  rw [l80_2]
  simp (maxSteps := 100000000) only [ivc, rgb, mpb, anf, vop, vlen, vbuiltin, nilR, salloc, eq_self, Nat.reduceEqDiff, Nat.reduceLT, Nat.reduceLeDiff, Nat.reduceAdd, Nat.reduceMul, Nat.reduceBEq, Int.reduceLT, Int.reduceLE, Int.reduceNeg, Int.reduceToNat, Int.reduceBEq, reduceCtorEq, ↓reduceIte, tyb, g1, g2, first_len, acc_len, acc_get, b7, s4, s4', z0, c0, c1, c2, c3, c5, hl]
 have i1 : ((1 : Int) < s.size) = True := eq_true (by omega)
 have i2 : ((2 : Int) < s.size) = True := eq_true (by omega)
 have i3 : ((3 : Int) ≤ s.size) = True := eq_true (by omega)
 by_cases ha : byteAt s 1 < 128
 ·refine ⟨s, .ret, .inr rfl, ?_⟩
  rw [l80_2]
  simp (maxSteps := 100000000) only [ivc, rgb, mpb, anf, vop, vlen, vbuiltin, nilR, salloc, eq_self, Nat.reduceEqDiff, Nat.reduceLT, Nat.reduceLeDiff, Nat.reduceAdd, Nat.reduceMul, Nat.reduceBEq, Int.reduceLT, Int.reduceLE, Int.reduceNeg, Int.reduceToNat, Int.reduceBEq, reduceCtorEq, ↓reduceIte, tyb, g1, g2, first_len, acc_len, acc_get, b7, s4, s4', z0, c0, c1, c2, c3, c5, hl, i1, i2, ha]
 by_cases hb : 159 < byteAt s 1
 ·refine ⟨s, .ret, .inr rfl, ?_⟩
  rw [l80_2]
  simp (maxSteps := 100000000) only [ivc, rgb, mpb, anf, vop, vlen, vbuiltin, nilR, salloc, eq_self, Nat.reduceEqDiff, Nat.reduceLT, Nat.reduceLeDiff, Nat.reduceAdd, Nat.reduceMul, Nat.reduceBEq, Int.reduceLT, Int.reduceLE, Int.reduceNeg, Int.reduceToNat, Int.reduceBEq, reduceCtorEq, ↓reduceIte, tyb, g1, g2, first_len, acc_len, acc_get, b7, s4, s4', z0, c0, c1, c2, c3, c5, hl, i1, i2, ha, hb]
 by_cases hp2 : byteAt s 2 < 128
 ·refine ⟨s, .ret, .inr rfl, ?_⟩
  rw [l80_2]
  simp (maxSteps := 100000000) only [ivc, rgb, mpb, anf, vop, vlen, vbuiltin, nilR, salloc, eq_self, Nat.reduceEqDiff, Nat.reduceLT, Nat.reduceLeDiff, Nat.reduceAdd, Nat.reduceMul, Nat.reduceBEq, Int.reduceLT, Int.reduceLE, Int.reduceNeg, Int.reduceToNat, Int.reduceBEq, reduceCtorEq, ↓reduceIte, tyb, g1, g2, first_len, acc_len, acc_get, b7, s4, s4', z0, c0, c1, c2, c3, c5, hl, i1, i2, ha, hb, hp2]
 by_cases hq2 : 191 < byteAt s 2
 ·refine ⟨s, .ret, .inr rfl, ?_⟩
  rw [l80_2]
  simp (maxSteps := 100000000) only [ivc, rgb, mpb, anf, vop, vlen, vbuiltin, nilR, salloc, eq_self, Nat.reduceEqDiff, Nat.reduceLT, Nat.reduceLeDiff, Nat.reduceAdd, Nat.reduceMul, Nat.reduceBEq, Int.reduceLT, Int.reduceLE, Int.reduceNeg, Int.reduceToNat, Int.reduceBEq, reduceCtorEq, ↓reduceIte, tyb, g1, g2, first_len, acc_len, acc_get, b7, s4, s4', z0, c0, c1, c2, c3, c5, hl, i1, i2, ha, hb, hp2, hq2]
 obtain ⟨s2, e, he, L⟩ := ih (by omega)
 refine ⟨s2, e, he, ?_⟩
 rw [l80_2]
 simp (maxSteps := 100000000) only [ivc, rgb, mpb, anf, vop, vslice, vlen, vbuiltin, nilR, salloc, eq_self, Nat.reduceEqDiff, Nat.reduceLT, Nat.reduceLeDiff, Nat.reduceAdd, Nat.reduceMul, Nat.reduceBEq, Int.reduceLT, Int.reduceLE, Int.reduceNeg, Int.reduceToNat, Int.reduceBEq, reduceCtorEq, ↓reduceIte, tyb, g1, g2, first_len, acc_len, acc_get, b7, s4, s4', z0, c0, c1, c2, c3, c5, hl, i1, i2, i3, ha, hb, hp2, hq2, L, Int.le_refl]
theorem vr_52 {s : ByteArray} (hc : 128 ≤ byteAt s 0) (h0 : 0 < s.size) (hx : firstT.getD (byteAt s 0).toNat 0 = 52) (ih : 4 ≤ s.size -> Rv (s.extract 4 s.size)) : Rv s := by
 have z0 : ((0 : Int) < s.size) = True := eq_true (by omega)
 have ba := byte_u s 0
 have c0 : (byteAt s 0 < 128) = False := eq_false (by omega)
 have c1 : (byteAt s 0 < 256) = True := eq_true (by omega)
 have c2 : (0 ≤ byteAt s 0) = True := eq_true (by omega)
 have c3 := (first_get (n := (byteAt s 0).toNat) (by omega)).trans (by rw [hx])
 have c4 : (byteAt s 0).toNat + 1 ≤ 256 := by omega
 have c5 : (byteAt s 0).toNat < 256 := by omega
 by_cases hl : (s.size : Int) < 4
 ·refine ⟨s, .ret, .inr rfl, ?_⟩
  rw [l80_2]
  simp (maxSteps := 100000000) only [ivc, rgb, mpb, anf, vop, vlen, vbuiltin, nilR, salloc, eq_self, Nat.reduceEqDiff, Nat.reduceLT, Nat.reduceLeDiff, Nat.reduceAdd, Nat.reduceMul, Nat.reduceBEq, Int.reduceLT, Int.reduceLE, Int.reduceNeg, Int.reduceToNat, Int.reduceBEq, reduceCtorEq, ↓reduceIte, tyb, g1, g2, first_len, acc_len, acc_get, b7, s4, s4', z0, c0, c1, c2, c3, c5, hl]
 have i1 : ((1 : Int) < s.size) = True := eq_true (by omega)
 have i2 : ((2 : Int) < s.size) = True := eq_true (by omega)
 have i3 : ((3 : Int) < s.size) = True := eq_true (by omega)
 have i4 : ((4 : Int) ≤ s.size) = True := eq_true (by omega)
 by_cases ha : byteAt s 1 < 144
 ·refine ⟨s, .ret, .inr rfl, ?_⟩
  rw [l80_2]
  simp (maxSteps := 100000000) only [ivc, rgb, mpb, anf, vop, vlen, vbuiltin, nilR, salloc, eq_self, Nat.reduceEqDiff, Nat.reduceLT, Nat.reduceLeDiff, Nat.reduceAdd, Nat.reduceMul, Nat.reduceBEq, Int.reduceLT, Int.reduceLE, Int.reduceNeg, Int.reduceToNat, Int.reduceBEq, reduceCtorEq, ↓reduceIte, tyb, g1, g2, first_len, acc_len, acc_get, b7, s4, s4', z0, c0, c1, c2, c3, c5, hl, i1, i2, i3, ha]
 by_cases hb : 191 < byteAt s 1
 ·refine ⟨s, .ret, .inr rfl, ?_⟩
  rw [l80_2]
  simp (maxSteps := 100000000) only [ivc, rgb, mpb, anf, vop, vlen, vbuiltin, nilR, salloc, eq_self, Nat.reduceEqDiff, Nat.reduceLT, Nat.reduceLeDiff, Nat.reduceAdd, Nat.reduceMul, Nat.reduceBEq, Int.reduceLT, Int.reduceLE, Int.reduceNeg, Int.reduceToNat, Int.reduceBEq, reduceCtorEq, ↓reduceIte, tyb, g1, g2, first_len, acc_len, acc_get, b7, s4, s4', z0, c0, c1, c2, c3, c5, hl, i1, i2, i3, ha, hb]
 by_cases hp2 : byteAt s 2 < 128
 ·refine ⟨s, .ret, .inr rfl, ?_⟩
  rw [l80_2]
  simp (maxSteps := 100000000) only [ivc, rgb, mpb, anf, vop, vlen, vbuiltin, nilR, salloc, eq_self, Nat.reduceEqDiff, Nat.reduceLT, Nat.reduceLeDiff, Nat.reduceAdd, Nat.reduceMul, Nat.reduceBEq, Int.reduceLT, Int.reduceLE, Int.reduceNeg, Int.reduceToNat, Int.reduceBEq, reduceCtorEq, ↓reduceIte, tyb, g1, g2, first_len, acc_len, acc_get, b7, s4, s4', z0, c0, c1, c2, c3, c5, hl, i1, i2, i3, ha, hb, hp2]
 by_cases hq2 : 191 < byteAt s 2
 ·refine ⟨s, .ret, .inr rfl, ?_⟩
  rw [l80_2]
  simp (maxSteps := 100000000) only [ivc, rgb, mpb, anf, vop, vlen, vbuiltin, nilR, salloc, eq_self, Nat.reduceEqDiff, Nat.reduceLT, Nat.reduceLeDiff, Nat.reduceAdd, Nat.reduceMul, Nat.reduceBEq, Int.reduceLT, Int.reduceLE, Int.reduceNeg, Int.reduceToNat, Int.reduceBEq, reduceCtorEq, ↓reduceIte, tyb, g1, g2, first_len, acc_len, acc_get, b7, s4, s4', z0, c0, c1, c2, c3, c5, hl, i1, i2, i3, ha, hb, hp2, hq2]
 by_cases hp3 : byteAt s 3 < 128
 ·refine ⟨s, .ret, .inr rfl, ?_⟩
  rw [l80_2]
  simp (maxSteps := 100000000) only [ivc, rgb, mpb, anf, vop, vlen, vbuiltin, nilR, salloc, eq_self, Nat.reduceEqDiff, Nat.reduceLT, Nat.reduceLeDiff, Nat.reduceAdd, Nat.reduceMul, Nat.reduceBEq, Int.reduceLT, Int.reduceLE, Int.reduceNeg, Int.reduceToNat, Int.reduceBEq, reduceCtorEq, ↓reduceIte, tyb, g1, g2, first_len, acc_len, acc_get, b7, s4, s4', z0, c0, c1, c2, c3, c5, hl, i1, i2, i3, ha, hb, hp2, hq2, hp3]
 by_cases hq3 : 191 < byteAt s 3
 ·refine ⟨s, .ret, .inr rfl, ?_⟩
  rw [l80_2]
  simp (maxSteps := 100000000) only [ivc, rgb, mpb, anf, vop, vlen, vbuiltin, nilR, salloc, eq_self, Nat.reduceEqDiff, Nat.reduceLT, Nat.reduceLeDiff, Nat.reduceAdd, Nat.reduceMul, Nat.reduceBEq, Int.reduceLT, Int.reduceLE, Int.reduceNeg, Int.reduceToNat, Int.reduceBEq, reduceCtorEq, ↓reduceIte, tyb, g1, g2, first_len, acc_len, acc_get, b7, s4, s4', z0, c0, c1, c2, c3, c5, hl, i1, i2, i3, ha, hb, hp2, hq2, hp3, hq3]
 obtain ⟨s2, e, he, L⟩ := ih (by omega)
 refine ⟨s2, e, he, ?_⟩
 rw [l80_2]
 simp (maxSteps := 100000000) only [ivc, rgb, mpb, anf, vop, vslice, vlen, vbuiltin, nilR, salloc, eq_self, Nat.reduceEqDiff, Nat.reduceLT, Nat.reduceLeDiff, Nat.reduceAdd, Nat.reduceMul, Nat.reduceBEq, Int.reduceLT, Int.reduceLE, Int.reduceNeg, Int.reduceToNat, Int.reduceBEq, reduceCtorEq, ↓reduceIte, tyb, g1, g2, first_len, acc_len, acc_get, b7, s4, s4', z0, c0, c1, c2, c3, c5, hl, i1, i2, i3, i4, ha, hb, hp2, hq2, hp3, hq3, L, Int.le_refl]
theorem vr_4 {s : ByteArray} (hc : 128 ≤ byteAt s 0) (h0 : 0 < s.size) (hx : firstT.getD (byteAt s 0).toNat 0 = 4) (ih : 4 ≤ s.size -> Rv (s.extract 4 s.size)) : Rv s := by
 have z0 : ((0 : Int) < s.size) = True := eq_true (by omega)
 have ba := byte_u s 0
 have c0 : (byteAt s 0 < 128) = False := eq_false (by omega)
 have c1 : (byteAt s 0 < 256) = True := eq_true (by omega)
 have c2 : (0 ≤ byteAt s 0) = True := eq_true (by omega)
 have c3 := (first_get (n := (byteAt s 0).toNat) (by omega)).trans (by rw [hx])
 have c4 : (byteAt s 0).toNat + 1 ≤ 256 := by omega
 have c5 : (byteAt s 0).toNat < 256 := by omega
 by_cases hl : (s.size : Int) < 4
 ·refine ⟨s, .ret, .inr rfl, ?_⟩
  rw [l80_2]
  simp (maxSteps := 100000000) only [ivc, rgb, mpb, anf, vop, vlen, vbuiltin, nilR, salloc, eq_self, Nat.reduceEqDiff, Nat.reduceLT, Nat.reduceLeDiff, Nat.reduceAdd, Nat.reduceBEq, Int.reduceLT, Int.reduceLE, Int.reduceNeg, Int.reduceToNat, Int.reduceBEq, reduceCtorEq, ↓reduceIte, tyb, g1, g2, first_len, acc_len, acc_get, b7, s4, s4', z0, c0, c1, c2, c3, c5, hl]
 have i1 : ((1 : Int) < s.size) = True := eq_true (by omega)
 have i2 : ((2 : Int) < s.size) = True := eq_true (by omega)
 have i3 : ((3 : Int) < s.size) = True := eq_true (by omega)
 have i4 : ((4 : Int) ≤ s.size) = True := eq_true (by omega)
 by_cases ha : byteAt s 1 < 128
 ·refine ⟨s, .ret, .inr rfl, ?_⟩
  rw [l80_2]
  simp (maxSteps := 100000000) only [ivc, rgb, mpb, anf, vop, vlen, vbuiltin, nilR, salloc, eq_self, Nat.reduceEqDiff, Nat.reduceLT, Nat.reduceLeDiff, Nat.reduceAdd, Nat.reduceBEq, Int.reduceLT, Int.reduceLE, Int.reduceNeg, Int.reduceToNat, Int.reduceBEq, reduceCtorEq, ↓reduceIte, tyb, g1, g2, first_len, acc_len, acc_get, b7, s4, s4', z0, c0, c1, c2, c3, c5, hl, i1, i2, i3, ha]
 by_cases hb : 191 < byteAt s 1
 ·refine ⟨s, .ret, .inr rfl, ?_⟩
  rw [l80_2]
  simp (maxSteps := 100000000) only [ivc, rgb, mpb, anf, vop, vlen, vbuiltin, nilR, salloc, eq_self, Nat.reduceEqDiff, Nat.reduceLT, Nat.reduceLeDiff, Nat.reduceAdd, Nat.reduceBEq, Int.reduceLT, Int.reduceLE, Int.reduceNeg, Int.reduceToNat, Int.reduceBEq, reduceCtorEq, ↓reduceIte, tyb, g1, g2, first_len, acc_len, acc_get, b7, s4, s4', z0, c0, c1, c2, c3, c5, hl, i1, i2, i3, ha, hb]
 by_cases hp2 : byteAt s 2 < 128
 ·refine ⟨s, .ret, .inr rfl, ?_⟩
  rw [l80_2]
  simp (maxSteps := 100000000) only [ivc, rgb, mpb, anf, vop, vlen, vbuiltin, nilR, salloc, eq_self, Nat.reduceEqDiff, Nat.reduceLT, Nat.reduceLeDiff, Nat.reduceAdd, Nat.reduceBEq, Int.reduceLT, Int.reduceLE, Int.reduceNeg, Int.reduceToNat, Int.reduceBEq, reduceCtorEq, ↓reduceIte, tyb, g1, g2, first_len, acc_len, acc_get, b7, s4, s4', z0, c0, c1, c2, c3, c5, hl, i1, i2, i3, ha, hb, hp2]
 by_cases hq2 : 191 < byteAt s 2
 ·refine ⟨s, .ret, .inr rfl, ?_⟩
  rw [l80_2]
  simp (maxSteps := 100000000) only [ivc, rgb, mpb, anf, vop, vlen, vbuiltin, nilR, salloc, eq_self, Nat.reduceEqDiff, Nat.reduceLT, Nat.reduceLeDiff, Nat.reduceAdd, Nat.reduceBEq, Int.reduceLT, Int.reduceLE, Int.reduceNeg, Int.reduceToNat, Int.reduceBEq, reduceCtorEq, ↓reduceIte, tyb, g1, g2, first_len, acc_len, acc_get, b7, s4, s4', z0, c0, c1, c2, c3, c5, hl, i1, i2, i3, ha, hb, hp2, hq2]
 by_cases hp3 : byteAt s 3 < 128
 ·refine ⟨s, .ret, .inr rfl, ?_⟩
  rw [l80_2]
  simp (maxSteps := 100000000) only [ivc, rgb, mpb, anf, vop, vlen, vbuiltin, nilR, salloc, eq_self, Nat.reduceEqDiff, Nat.reduceLT, Nat.reduceLeDiff, Nat.reduceAdd, Nat.reduceBEq, Int.reduceLT, Int.reduceLE, Int.reduceNeg, Int.reduceToNat, Int.reduceBEq, reduceCtorEq, ↓reduceIte, tyb, g1, g2, first_len, acc_len, acc_get, b7, s4, s4', z0, c0, c1, c2, c3, c5, hl, i1, i2, i3, ha, hb, hp2, hq2, hp3]
 by_cases hq3 : 191 < byteAt s 3
 ·refine ⟨s, .ret, .inr rfl, ?_⟩
  rw [l80_2]
  simp (maxSteps := 100000000) only [ivc, rgb, mpb, anf, vop, vlen, vbuiltin, nilR, salloc, eq_self, Nat.reduceEqDiff, Nat.reduceLT, Nat.reduceLeDiff, Nat.reduceAdd, Nat.reduceBEq, Int.reduceLT, Int.reduceLE, Int.reduceNeg, Int.reduceToNat, Int.reduceBEq, reduceCtorEq, ↓reduceIte, tyb, g1, g2, first_len, acc_len, acc_get, b7, s4, s4', z0, c0, c1, c2, c3, c5, hl, i1, i2, i3, ha, hb, hp2, hq2, hp3, hq3]
 obtain ⟨s2, e, he, L⟩ := ih (by omega)
 refine ⟨s2, e, he, ?_⟩
 rw [l80_2]
 simp (maxSteps := 100000000) only [ivc, rgb, mpb, anf, vop, vslice, vlen, vbuiltin, nilR, salloc, eq_self, Nat.reduceEqDiff, Nat.reduceLT, Nat.reduceLeDiff, Nat.reduceAdd, Nat.reduceBEq, Int.reduceLT, Int.reduceLE, Int.reduceNeg, Int.reduceToNat, Int.reduceBEq, reduceCtorEq, ↓reduceIte, tyb, g1, g2, first_len, acc_len, acc_get, b7, s4, s4', z0, c0, c1, c2, c3, c5, hl, i1, i2, i3, i4, ha, hb, hp2, hq2, hp3, hq3, L, Int.le_refl]
theorem vr_68 {s : ByteArray} (hc : 128 ≤ byteAt s 0) (h0 : 0 < s.size) (hx : firstT.getD (byteAt s 0).toNat 0 = 68) (ih : 4 ≤ s.size -> Rv (s.extract 4 s.size)) : Rv s := by
 have z0 : ((0 : Int) < s.size) = True := eq_true (by omega)
 have ba := byte_u s 0
 have c0 : (byteAt s 0 < 128) = False := eq_false (by omega)
 have c1 : (byteAt s 0 < 256) = True := eq_true (by omega)
 have c2 : (0 ≤ byteAt s 0) = True := eq_true (by omega)
 have c3 := (first_get (n := (byteAt s 0).toNat) (by omega)).trans (by rw [hx])
 have c4 : (byteAt s 0).toNat + 1 ≤ 256 := by omega
 have c5 : (byteAt s 0).toNat < 256 := by omega
 by_cases hl : (s.size : Int) < 4
 ·refine ⟨s, .ret, .inr rfl, ?_⟩
  rw [l80_2]
  simp (maxSteps := 100000000) only [ivc, rgb, mpb, anf, vop, vlen, vbuiltin, nilR, salloc, eq_self, Nat.reduceEqDiff, Nat.reduceLT, Nat.reduceLeDiff, Nat.reduceAdd, Nat.reduceMul, Nat.reduceBEq, Int.reduceLT, Int.reduceLE, Int.reduceNeg, Int.reduceToNat, Int.reduceBEq, reduceCtorEq, ↓reduceIte, tyb, g1, g2, first_len, acc_len, acc_get, b7, s4, s4', z0, c0, c1, c2, c3, c5, hl]
 have i1 : ((1 : Int) < s.size) = True := eq_true (by omega)
 have i2 : ((2 : Int) < s.size) = True := eq_true (by omega)
 have i3 : ((3 : Int) < s.size) = True := eq_true (by omega)
 have i4 : ((4 : Int) ≤ s.size) = True := eq_true (by omega)
 by_cases ha : byteAt s 1 < 128
 ·refine ⟨s, .ret, .inr rfl, ?_⟩
  rw [l80_2]
  simp (maxSteps := 100000000) only [ivc, rgb, mpb, anf, vop, vlen, vbuiltin, nilR, salloc, eq_self, Nat.reduceEqDiff, Nat.reduceLT, Nat.reduceLeDiff, Nat.reduceAdd, Nat.reduceMul, Nat.reduceBEq, Int.reduceLT, Int.reduceLE, Int.reduceNeg, Int.reduceToNat, Int.reduceBEq, reduceCtorEq, ↓reduceIte, tyb, g1, g2, first_len, acc_len, acc_get, b7, s4, s4', z0, c0, c1, c2, c3, c5, hl, i1, i2, i3, ha]
 by_cases hb : 143 < byteAt s 1
 ·refine ⟨s, .ret, .inr rfl, ?_⟩
  rw [l80_2]
  simp (maxSteps := 100000000) only [ivc, rgb, mpb, anf, vop, vlen, vbuiltin, nilR, salloc, eq_self, Nat.reduceEqDiff, Nat.reduceLT, Nat.reduceLeDiff, Nat.reduceAdd, Nat.reduceMul, Nat.reduceBEq, Int.reduceLT, Int.reduceLE, Int.reduceNeg, Int.reduceToNat, Int.reduceBEq, reduceCtorEq, ↓reduceIte, tyb, g1, g2, first_len, acc_len, acc_get, b7, s4, s4', z0, c0, c1, c2, c3, c5, hl, i1, i2, i3, ha, hb]
 by_cases hp2 : byteAt s 2 < 128
 ·refine ⟨s, .ret, .inr rfl, ?_⟩
  rw [l80_2]
  simp (maxSteps := 100000000) only [ivc, rgb, mpb, anf, vop, vlen, vbuiltin, nilR, salloc, eq_self, Nat.reduceEqDiff, Nat.reduceLT, Nat.reduceLeDiff, Nat.reduceAdd, Nat.reduceMul, Nat.reduceBEq, Int.reduceLT, Int.reduceLE, Int.reduceNeg, Int.reduceToNat, Int.reduceBEq, reduceCtorEq, ↓reduceIte, tyb, g1, g2, first_len, acc_len, acc_get, b7, s4, s4', z0, c0, c1, c2, c3, c5, hl, i1, i2, i3, ha, hb, hp2]
 by_cases hq2 : 191 < byteAt s 2
 ·refine ⟨s, .ret, .inr rfl, ?_⟩
  rw [l80_2]
  simp (maxSteps := 100000000) only [ivc, rgb, mpb, anf, vop, vlen, vbuiltin, nilR, salloc, eq_self, Nat.reduceEqDiff, Nat.reduceLT, Nat.reduceLeDiff, Nat.reduceAdd, Nat.reduceMul, Nat.reduceBEq, Int.reduceLT, Int.reduceLE, Int.reduceNeg, Int.reduceToNat, Int.reduceBEq, reduceCtorEq, ↓reduceIte, tyb, g1, g2, first_len, acc_len, acc_get, b7, s4, s4', z0, c0, c1, c2, c3, c5, hl, i1, i2, i3, ha, hb, hp2, hq2]
 by_cases hp3 : byteAt s 3 < 128
 ·refine ⟨s, .ret, .inr rfl, ?_⟩
  rw [l80_2]
  simp (maxSteps := 100000000) only [ivc, rgb, mpb, anf, vop, vlen, vbuiltin, nilR, salloc, eq_self, Nat.reduceEqDiff, Nat.reduceLT, Nat.reduceLeDiff, Nat.reduceAdd, Nat.reduceMul, Nat.reduceBEq, Int.reduceLT, Int.reduceLE, Int.reduceNeg, Int.reduceToNat, Int.reduceBEq, reduceCtorEq, ↓reduceIte, tyb, g1, g2, first_len, acc_len, acc_get, b7, s4, s4', z0, c0, c1, c2, c3, c5, hl, i1, i2, i3, ha, hb, hp2, hq2, hp3]
 by_cases hq3 : 191 < byteAt s 3
 ·refine ⟨s, .ret, .inr rfl, ?_⟩
  rw [l80_2]
  simp (maxSteps := 100000000) only [ivc, rgb, mpb, anf, vop, vlen, vbuiltin, nilR, salloc, eq_self, Nat.reduceEqDiff, Nat.reduceLT, Nat.reduceLeDiff, Nat.reduceAdd, Nat.reduceMul, Nat.reduceBEq, Int.reduceLT, Int.reduceLE, Int.reduceNeg, Int.reduceToNat, Int.reduceBEq, reduceCtorEq, ↓reduceIte, tyb, g1, g2, first_len, acc_len, acc_get, b7, s4, s4', z0, c0, c1, c2, c3, c5, hl, i1, i2, i3, ha, hb, hp2, hq2, hp3, hq3]
 obtain ⟨s2, e, he, L⟩ := ih (by omega)
 refine ⟨s2, e, he, ?_⟩
 rw [l80_2]
 simp (maxSteps := 100000000) only [ivc, rgb, mpb, anf, vop, vslice, vlen, vbuiltin, nilR, salloc, eq_self, Nat.reduceEqDiff, Nat.reduceLT, Nat.reduceLeDiff, Nat.reduceAdd, Nat.reduceMul, Nat.reduceBEq, Int.reduceLT, Int.reduceLE, Int.reduceNeg, Int.reduceToNat, Int.reduceBEq, reduceCtorEq, ↓reduceIte, tyb, g1, g2, first_len, acc_len, acc_get, b7, s4, s4', z0, c0, c1, c2, c3, c5, hl, i1, i2, i3, i4, ha, hb, hp2, hq2, hp3, hq3, L, Int.le_refl]
theorem first_in : ∀ n, 128 ≤ n -> n < 256 -> firstT.getD n 0 = 241 \/ firstT.getD n 0 = 2 \/ firstT.getD n 0 = 19 \/ firstT.getD n 0 = 3 \/ firstT.getD n 0 = 35 \/ firstT.getD n 0 = 52 \/ firstT.getD n 0 = 4 \/ firstT.getD n 0 = 68 := by
 have : ∀ k : Fin 256, 128 ≤ k.val -> firstT.getD k.val 0 = 241 \/ firstT.getD k.val 0 = 2 \/ firstT.getD k.val 0 = 19 \/ firstT.getD k.val 0 = 3 \/ firstT.getD k.val 0 = 35 \/ firstT.getD k.val 0 = 52 \/ firstT.getD k.val 0 = 4 \/ firstT.getD k.val 0 = 68 := by decide +kernel
 exact fun n h1 h2 => this ⟨n, h2⟩ h1
theorem vr_asc {s : ByteArray} (hc : byteAt s 0 < 128) (h0 : 0 < s.size) (ih : ∀ t : ByteArray, t.size < s.size -> Rv t) : Rv s := by
 have z0 : ((0 : Int) < s.size) = True := eq_true (by omega)
 have z1 : ((1 : Int) ≤ s.size) = True := eq_true (by omega)
 have e1 := ext_sz (s := s) (k := 1) (by omega)
 by_cases h8 : 8 < (s.extract 1 s.size).size
 ·have q8 : ((8 : Int) < (s.extract 1 s.size).size) = True := eq_true (by omega)
  have r8 : ((8 : Int) ≤ (s.extract 1 s.size).size) = True := eq_true (by omega)
  obtain ⟨n1, w1⟩ := wd_ev (s := s.extract 1 s.size) (by omega)
  cases hb : (bitsI .and .u64 n1 9259542123273814144 == 0) with
  | false =>
   obtain ⟨s2, e, he, L⟩ := ih (s.extract 1 s.size) (by omega)
   refine ⟨s2, e, he, ?_⟩
   rw [l80_2]
   simp (maxSteps := 100000000) only [ivc, rgb, mpb, anf, vop, vslice, vlen, vbuiltin, nilR, eq_self, Nat.reduceEqDiff, Nat.reduceLT, Nat.reduceBEq, Int.reduceLE, Int.reduceToNat, reduceCtorEq, ↓reduceIte, tyb, z0, z1, hc, q8, w1, hb, L, Int.le_refl]
  | true =>
   generalize ht : s.extract 1 s.size = t at *
   have e2 := ext_sz (s := t) (k := 8) (by omega)
   by_cases h16 : 16 < (t.extract 8 t.size).size
   ·have q16 : ((16 : Int) < (t.extract 8 t.size).size) = True := eq_true (by omega)
    have r16 : ((16 : Int) ≤ (t.extract 8 t.size).size) = True := eq_true (by omega)
    have r88 : ((8 : Int) ≤ (t.extract 8 t.size).size) = True := eq_true (by omega)
    generalize hu : t.extract 8 t.size = u at *
    have e3 := ext_sz (s := u) (k := 8) (by omega)
    have e4 := ext_sz (s := u) (k := 16) (by omega)
    obtain ⟨n2, w2⟩ := wd_ev (s := u) (by omega)
    obtain ⟨n3, w3⟩ := wd_ev (s := u.extract 8 u.size) (by omega)
    cases hb2 : (bitsI .and .u64 (bitsI .or .u64 n2 n3) 9259542123273814144 == 0) with
    | false =>
     obtain ⟨s2, e, he, L⟩ := ih u (by omega)
     refine ⟨s2, e, he, ?_⟩
     rw [l80_2]
     simp (maxSteps := 100000000) only [ivc, rgb, mpb, anf, vop, vslice, vlen, vbuiltin, nilR, eq_self, Nat.reduceEqDiff, Nat.reduceLT, Nat.reduceBEq, Int.reduceLE, Int.reduceToNat, reduceCtorEq, ↓reduceIte, tyb, z0, z1, hc, ht, hu, q8, r8, w1, hb, q16, r88, w2, w3, hb2, L, Int.le_refl]
    | true =>
     obtain ⟨v, hv, LI⟩ := vs_in _ (u.extract 16 u.size) (Nat.le_refl _)
     obtain ⟨s2, e, he, L⟩ := ih v (by omega)
     refine ⟨s2, e, he, ?_⟩
     rw [l80_2]
     simp (maxSteps := 100000000) only [ivc, rgb, mpb, anf, vop, vslice, vlen, vbuiltin, nilR, eq_self, Nat.reduceEqDiff, Nat.reduceLT, Nat.reduceAdd, Nat.reduceBEq, Int.reduceLE, Int.reduceToNat, reduceCtorEq, ↓reduceIte, tyb, z0, z1, hc, ht, hu, q8, r8, w1, hb, q16, r16, r88, w2, w3, hb2, LI, L, Int.le_refl]
   ·have q16 : ((16 : Int) < (t.extract 8 t.size).size) = False := eq_false (by omega)
    obtain ⟨s2, e, he, L⟩ := ih (t.extract 8 t.size) (by omega)
    refine ⟨s2, e, he, ?_⟩
    rw [l80_2]
    simp (maxSteps := 100000000) only [ivc, rgb, mpb, anf, vop, vslice, vlen, vbuiltin, nilR, eq_self, Nat.reduceEqDiff, Nat.reduceLT, Nat.reduceBEq, Int.reduceLE, Int.reduceToNat, reduceCtorEq, ↓reduceIte, tyb, z0, z1, hc, ht, q8, r8, w1, hb, q16, L, Int.le_refl]
 ·have q8 : ((8 : Int) < (s.extract 1 s.size).size) = False := eq_false (by omega)
  obtain ⟨s2, e, he, L⟩ := ih (s.extract 1 s.size) (by omega)
  refine ⟨s2, e, he, ?_⟩
  rw [l80_2]
  simp (maxSteps := 100000000) only [ivc, rgb, mpb, anf, vop, vslice, vlen, vbuiltin, nilR, eq_self, Nat.reduceEqDiff, Nat.reduceLT, Nat.reduceBEq, Int.reduceLE, Int.reduceToNat, reduceCtorEq, ↓reduceIte, tyb, z0, z1, hc, q8, L, Int.le_refl]
theorem vs_loop : ∀ (m : Nat) (s : ByteArray), s.size ≤ m -> Rv s := by
 intro m
 induction m with
 | zero =>
  intro s hs
  have q : ((0 : Int) < s.size) = False := eq_false (by omega)
  refine ⟨s, .exit 0, .inl rfl, ?_⟩
  rw [l80_2]
  simp (maxSteps := 100000000) only [ivc, rgb, anf, vlen, vbuiltin, nilR, eq_self, Nat.reduceEqDiff, Nat.reduceLT, Nat.reduceBEq, reduceCtorEq, ↓reduceIte, tyb, q]
 | succ m ih =>
  intro s hs
  by_cases h0 : 0 < s.size
  ·have hlt : ∀ k, 1 ≤ k -> k ≤ s.size -> Rv (s.extract k s.size) := fun k h1 h2 => ih _ (by have := ext_sz (s := s) h2; omega)
   by_cases hc : byteAt s 0 < 128
   ·exact vr_asc hc h0 fun t ht => ih t (by omega)
   ·have ba := byte_u s 0
    rcases first_in (byteAt s 0).toNat (by omega) (by omega) with h | h | h | h | h | h | h | h
    ·exact vr_241 (by omega) h0 h
    ·exact vr_2 (by omega) h0 h (hlt 2 (by omega))
    ·exact vr_19 (by omega) h0 h (hlt 3 (by omega))
    ·exact vr_3 (by omega) h0 h (hlt 3 (by omega))
    ·exact vr_35 (by omega) h0 h (hlt 3 (by omega))
    ·exact vr_52 (by omega) h0 h (hlt 4 (by omega))
    ·exact vr_4 (by omega) h0 h (hlt 4 (by omega))
    ·exact vr_68 (by omega) h0 h (hlt 4 (by omega))
  ·have q : ((0 : Int) < s.size) = False := eq_false (by omega)
   refine ⟨s, .exit 0, .inl rfl, ?_⟩
   rw [l80_2]
   simp (maxSteps := 100000000) only [ivc, rgb, anf, vlen, vbuiltin, nilR, eq_self, Nat.reduceEqDiff, Nat.reduceLT, Nat.reduceBEq, reduceCtorEq, ↓reduceIte, tyb, q]
theorem valid_ex (s : ByteArray) : ∃ b, E.F 80 [.str s] [] = some ((.bool b, []), True) := by
 obtain ⟨s', e, he, L⟩ := vs_loop _ s (Nat.le_refl _)
 rcases he with rfl | rfl
 ·refine ⟨true, ?_⟩
  rw [e80]
  simp (maxSteps := 100000000) only [ivc, rgb, anf, eq_self, Nat.reduceLT, Nat.reduceLeDiff, Nat.reduceAdd, Nat.reduceBEq, reduceCtorEq, ↓reduceIte, L]
 ·refine ⟨false, ?_⟩
  rw [e80]
  simp (maxSteps := 100000000) only [ivc, rgb, anf, eq_self, Nat.reduceLT, Nat.reduceLeDiff, Nat.reduceAdd, Nat.reduceBEq, reduceCtorEq, ↓reduceIte, L]
noncomputable def valB (s : ByteArray) : Bool := Classical.choose (valid_ex s)
theorem val_ev {s : ByteArray} : E.F 80 [.str s] [] = some ((.bool (valB s), []), True) := Classical.choose_spec (valid_ex s)
mutual
def evM (p : Tp -> Bool) : Tp -> Bool
 | .mk k nm c m xs => p (.mk k nm c m xs) && !evN p xs
def evN (p : Tp -> Bool) : List Tp -> Bool
 | [] => false
 | t :: r => !evM p t || evN p r
end
theorem evN_any {p : Tp -> Bool} : ∀ {l : List Tp}, evN p l = l.any fun t => !evM p t
 | [] => rfl
 | t :: r => by simp only [evN, List.any_cons, evN_any (l := r)]
theorem evM_eq {p : Tp -> Bool} (t : Tp) : evM p t = (p t && !(t.xs.any fun u => !evM p u)) := by
 obtain ⟨k, nm, c, m, xs⟩ := t
 simp only [evM, Tp.xs, evN_any]
theorem evT_loop {k : FuncId} {p : Tp -> Bool} {l : List _} (hs : l.length ≤ 1000000000000000) (hf : ∀ u ∈ l, E.F 74 [tpA u, .ptr 100000 0 0] [(100000, ⟨true, 1, [.fn (.func k) [] []]⟩)] = some ((.bool (!evM p u), [(100000, ⟨true, 1, [.fn (.func k) [] []]⟩)]), True)) : ∀ (r m : List _), l = m ++ r ->
  ∃ j : Int, 0 ≤ j /\ E.L 63 3 [.ro 5 (l.map tpA), .fn (.func 74) [] [.ptr 100000 0 0], .int .i64 0, .int .i64 l.length, .int .i64 m.length] [(100000, ⟨true, 1, [.fn (.func k) [] []]⟩)] = some ((if r.any (fun u => !evM p u) then .ret else .exit 0, [.ro 5 (l.map tpA), .fn (.func 74) [] [.ptr 100000 0 0], .int .i64 (if r.any (fun u => !evM p u) then j else 0), .int .i64 l.length, .int .i64 j], [(100000, ⟨true, 1, [.fn (.func k) [] []]⟩)]), True) := by
 intro r
 induction r with
 | nil =>
  intro m h
  rw [List.append_nil] at h
  have q : ((m.length : Int) < l.length) = False := eq_false (by rw [h]; omega)
  refine ⟨m.length, by omega, ?_⟩
  rw [l63_3]
  simp (maxSteps := 100000000) only [ivc, rgb, mpb, anf, nilR, eq_self, Nat.reduceEqDiff, Nat.reduceLT, Nat.reduceBEq, reduceCtorEq, ↓reduceIte, tyb, q, List.any_nil]
 | cons y r ih =>
  intro m h
  have hi' : ((m.length : Int) < l.length) = True := eq_true (by rw [h]; simp; omega)
  have hw1 : IntKind.i64.wrap ((m.length : Int) + 1) = m.length + 1 := wrap_id (by omega) (by rw [h] at hs; simp at hs; omega)
  have hg := getD_map (f := tpA) (show l[m.length]? = some y by rw [h]; simp)
  have hy := hf y (by rw [h]; simp)
  rw [tpA_eq] at hg hy; simp only [tpC] at hg hy
  cases hp : (!evM p y) with
  | true =>
   rw [hp] at hy
   refine ⟨m.length, by omega, ?_⟩
   rw [l63_3]
   simp (maxSteps := 100000000) only [ivc, rgb, mpb, anf, nilR, eq_self, Nat.reduceEqDiff, Nat.reduceLT, Nat.reduceAdd, Nat.reduceMul, Nat.reduceBEq, reduceCtorEq, ↓reduceIte, tyb, hi', hg, hy, List.any_cons, hp]
   exact some_true (by omega)
  | false =>
   obtain ⟨j, hj, ih'⟩ := ih (m ++ [y]) (by rw [h]; simp)
   simp only [List.length_append, List.length_cons, List.length_nil, Int.natCast_add, Int.cast_ofNat_Int, Nat.zero_add] at ih'
   rw [hp] at hy
   refine ⟨j, hj, ?_⟩
   rw [l63_3]
   simp (maxSteps := 100000000) only [ivc, rgb, mpb, anf, nilR, eq_self, Nat.reduceEqDiff, Nat.reduceLT, Nat.reduceAdd, Nat.reduceMul, Nat.reduceBEq, reduceCtorEq, ↓reduceIte, tyb, hi', hw1, hg, hy, ih', List.any_cons, hp]
   exact some_true (by omega)
theorem evT_idx {k : FuncId} {p : Tp -> Bool} {l : List _} (hs : l.length ≤ 1000000000000000) (hf : ∀ u ∈ l, E.F 74 [tpA u, .ptr 100000 0 0] [(100000, ⟨true, 1, [.fn (.func k) [] []]⟩)] = some ((.bool (!evM p u), [(100000, ⟨true, 1, [.fn (.func k) [] []]⟩)]), True)) : ∃ j : Int, decide (0 ≤ j) = l.any (fun u => !evM p u) /\ E.F 63 [.ro 5 (l.map tpA), .fn (.func 74) [] [.ptr 100000 0 0]] [(100000, ⟨true, 1, [.fn (.func k) [] []]⟩)] = some ((.int .i64 j, [(100000, ⟨true, 1, [.fn (.func k) [] []]⟩)]), True) := by
 obtain ⟨j, hj, L⟩ := evT_loop hs hf l [] rfl
 simp only [List.length_nil, Int.natCast_zero] at L
 cases ha : l.any (fun u => !evM p u) with
 | true =>
  rw [ha] at L
  simp only [if_true] at L
  refine ⟨j, by simp [hj], ?_⟩
  rw [e63]
  simp (maxSteps := 100000000) only [ivc, rgb, mpb, anf, vlen, vbuiltin, eq_self, Nat.reduceEqDiff, Nat.reduceLT, Nat.reduceLeDiff, Nat.reduceAdd, Nat.reduceBEq, Int.reduceNeg, reduceCtorEq, ↓reduceIte, tyb, L]
 | false =>
  rw [ha] at L
  simp only [Bool.false_eq_true, if_false] at L
  refine ⟨-1, by simp, ?_⟩
  rw [e63]
  simp (maxSteps := 100000000) only [ivc, rgb, mpb, anf, vlen, vbuiltin, eq_self, Nat.reduceEqDiff, Nat.reduceLT, Nat.reduceLeDiff, Nat.reduceAdd, Nat.reduceBEq, Int.reduceNeg, reduceCtorEq, ↓reduceIte, tyb, L]
theorem evT_any {k : FuncId} {p : Tp -> Bool} {l : List _} (hs : l.length ≤ 1000000000000000) (hf : ∀ u ∈ l, E.F 74 [tpA u, .ptr 100000 0 0] [(100000, ⟨true, 1, [.fn (.func k) [] []]⟩)] = some ((.bool (!evM p u), [(100000, ⟨true, 1, [.fn (.func k) [] []]⟩)]), True)) : E.F 51 [.ro 5 (l.map tpA), .fn (.func 74) [] [.ptr 100000 0 0]] [(100000, ⟨true, 1, [.fn (.func k) [] []]⟩)] = some ((.bool (l.any (fun u => !evM p u)), [(100000, ⟨true, 1, [.fn (.func k) [] []]⟩)]), True) := by
 obtain ⟨j, hj, L⟩ := evT_idx hs hf
 rw [e51]
 have hj' : decide (j ≥ 0) = l.any (fun u => !evM p u) := hj
 simp (maxSteps := 100000000) only [ivc, rgb, mpb, anf, nilR, eq_self, Nat.reduceEqDiff, Nat.reduceLT, Nat.reduceLeDiff, Nat.reduceAdd, Nat.reduceMul, Nat.reduceBEq, reduceCtorEq, ↓reduceIte, tyb, L, hj']
theorem every_ev {k : FuncId} {p : Tp -> Bool} (hp : ∀ u, E.F k [tpA u] [] = some ((.bool (p u), []), True)) (hb : AN.bor k = false) (t : Tp) (ht : bT t) : E.F 68 [tpA t, .fn (.func k) [] []] [] = some ((.bool (evM p t), []), True) := by
 induction t using Tp.ind with
 | h k0 nm c m xs ih =>
  have h1 := hp (.mk k0 nm c m xs)
  have hany := evT_any (k := k) (p := p) (l := xs) ht.len fun u hu => by
   have hu' := ih u hu (ht.sub hu)
   rw [tpA_eq] at hu' ⊢
   simp only [tpC] at hu' ⊢
   rw [e74]
   simp (maxSteps := 100000000) only [ivc, rgb, mpb, anf, vop, salloc, eq_self, Nat.reduceEqDiff, Nat.reduceLT, Nat.reduceLeDiff, Nat.reduceAdd, Nat.reduceBEq, reduceCtorEq, ↓reduceIte, tyb, hu']
  rw [tpA_eq] at h1
  simp only [tpC, Tp.k, Tp.nm, Tp.c, Tp.m, Tp.xs] at h1
  rw [e68, tpA_eq, evM_eq]
  cases hq : p (.mk k0 nm c m xs) with
  | false =>
   rw [hq] at h1
   simp (maxSteps := 100000000) only [ivc, rgb, mpb, anf, vop, salloc, eq_self, Nat.reduceEqDiff, Nat.reduceLT, Nat.reduceLeDiff, Nat.reduceAdd, Nat.reduceMul, Nat.reduceBEq, reduceCtorEq, ↓reduceIte, tyb, tpC, Tp.k, Tp.nm, Tp.c, Tp.m, Tp.xs, hb, h1]
  | true =>
   rw [hq] at h1
   simp (maxSteps := 100000000) only [ivc, rgb, mpb, anf, vop, salloc, eq_self, Nat.reduceEqDiff, Nat.reduceLT, Nat.reduceLeDiff, Nat.reduceAdd, Nat.reduceMul, Nat.reduceBEq, reduceCtorEq, ↓reduceIte, tyb, tpC, Tp.k, Tp.nm, Tp.c, Tp.m, Tp.xs, hb, h1, hany]
def nmE (s : ByteArray) : Bool := s.toList == (ByteArray.mk #[]).toList
noncomputable def namedW (s : ByteArray) (n : Int) : Bool := !nmE s && decide ((s.size : Int) ≤ n) && valB s
theorem named_ev {s : ByteArray} {n : Int} : E.F 76 [.str s, .int .i64 n] [] = some ((.bool (namedW s n), []), True) := by
 rw [e76]
 cases h0 : (s.toList == (ByteArray.mk #[]).toList) with
 | true => simp (maxSteps := 100000000) only [ivc, rgb, anf, vlen, vbuiltin, nilR, eq_self, Nat.reduceEqDiff, Nat.reduceLT, Nat.reduceLeDiff, Nat.reduceAdd, Nat.reduceBEq, reduceCtorEq, ↓reduceIte, tyb, h0, namedW, nmE]
 | false =>
  by_cases h1 : (s.size : Int) ≤ n
  ·have v := val_ev (s := s)
   simp (maxSteps := 100000000) only [ivc, rgb, anf, vlen, vbuiltin, nilR, eq_self, Nat.reduceEqDiff, Nat.reduceLT, Nat.reduceLeDiff, Nat.reduceAdd, Nat.reduceBEq, reduceCtorEq, ↓reduceIte, tyb, h0, h1, v, namedW, nmE]
  ·simp (maxSteps := 100000000) only [ivc, rgb, anf, vlen, vbuiltin, nilR, eq_self, Nat.reduceEqDiff, Nat.reduceLT, Nat.reduceLeDiff, Nat.reduceAdd, Nat.reduceBEq, reduceCtorEq, ↓reduceIte, tyb, h0, h1, namedW, nmE]
def mkdW (m : Int) : Bool := decide (0 ≤ m) && decide (m ≤ 2)
def opnW (c : Int) : Bool := (c == 0) || capW c
def plnW (t : Tp) : Bool := nmE t.nm && (t.c == 0) && (t.m == 0)
def arrW : List Tp -> Bool
 | [a, _] => (a.k == 7) || (a.k == 2)
 | _ => false
noncomputable def nodeW (t : Tp) : Bool :=
 if t.k = 1 then namedW t.nm 300 && decide (t.xs.length ≤ 64) && capW t.c && mkdW t.m
 else if t.k = 2 then namedW t.nm 60 && decide (t.xs.length = 0) && opnW t.c && mkdW t.m
 else if t.k = 3 \/ t.k = 4 \/ t.k = 5 then plnW t && decide (2 ≤ t.xs.length) && decide (t.xs.length ≤ 64)
 else if t.k = 6 then plnW t && arrW t.xs
 else if t.k = 7 then nmE t.nm && decide (t.xs.length = 0) && opnW t.c && mkdW t.m
 else false
theorem beq_I (a b : Int) : (a == b) = decide (a = b) := by
 by_cases h : a = b <;> simp [h]
theorem node_ev {t : Tp} : E.F 69 [tpA t] [] = some ((.bool (nodeW t), []), True) := by
 have l64 : decide ((t.xs.length : Int) ≤ 64) = decide (t.xs.length ≤ 64) := by simp; omega
 have l2 : decide ((t.xs.length : Int) ≥ 2) = decide (2 ≤ t.xs.length) := by simp; omega
 have l0 : ((t.xs.length : Int) == 0) = decide (t.xs.length = 0) := by rw [beq_I]; simp
 have v1 := named_ev (s := t.nm) (n := 300)
 have v2 := named_ev (s := t.nm) (n := 60)
 have hcap := cap_ev (n := t.c)
 by_cases hk : t.k = 1
 ·cases hn : namedW t.nm 300 <;> by_cases h64 : t.xs.length ≤ 64 <;> cases hc : (t.c == 0)
  all_goals
   rw [e69, tpA_eq]
   simp (maxSteps := 100000000) only [ivc, rgb, anf, vop, vlen, vbuiltin, nilR, salloc, eq_self, Nat.reduceEqDiff, Nat.reduceLT, Nat.reduceLeDiff, Nat.reduceAdd, Nat.reduceBEq, reduceCtorEq, ↓reduceIte, tyb, tpC, l64, v1, hcap, hk, hn, h64, hc]
   try simp [nodeW, mkdW, hk, hn, h64]
 by_cases hk2 : t.k = 2
 ·cases hn : namedW t.nm 60 <;> by_cases h64 : t.xs.length = 0 <;> cases hc : (t.c == 0)
  all_goals
   rw [e69, tpA_eq]
   simp (maxSteps := 100000000) only [ivc, rgb, anf, vop, vlen, vbuiltin, nilR, salloc, eq_self, Nat.reduceEqDiff, Nat.reduceLT, Nat.reduceLeDiff, Nat.reduceAdd, Nat.reduceBEq, Int.reduceBEq, reduceCtorEq, ↓reduceIte, tyb, tpC, l0, v2, hcap, hk2, hn, h64, hc]
   try simp [nodeW, mkdW, opnW, hk2, hn, h64, hc]
 have q1 : (t.k == 1) = false := by simp [hk]
 have q2 : (t.k == 2) = false := by simp [hk2]
 by_cases hk3 : t.k = 3
 ·cases hc : (t.c == 0)
  all_goals
   rw [e69, tpA_eq]
   simp (maxSteps := 100000000) only [ivc, rgb, anf, vop, vlen, vbuiltin, nilR, salloc, eq_self, Nat.reduceEqDiff, Nat.reduceLT, Nat.reduceLeDiff, Nat.reduceAdd, Nat.reduceBEq, Int.reduceBEq, reduceCtorEq, ↓reduceIte, tyb, tpC, l64, l2, hcap, hk3, hc]
   try simp [nodeW, plnW, nmE, hk3, hc]
 have q3 : (t.k == 3) = false := by simp [hk3]
 by_cases hk4 : t.k = 4
 ·cases hc : (t.c == 0)
  all_goals
   rw [e69, tpA_eq]
   simp (maxSteps := 100000000) only [ivc, rgb, anf, vop, vlen, vbuiltin, nilR, salloc, eq_self, Nat.reduceEqDiff, Nat.reduceLT, Nat.reduceLeDiff, Nat.reduceAdd, Nat.reduceBEq, Int.reduceBEq, reduceCtorEq, ↓reduceIte, tyb, tpC, l64, l2, hcap, hk4, hc]
   try simp [nodeW, plnW, nmE, hk4, hc]
 have q4 : (t.k == 4) = false := by simp [hk4]
 by_cases hk5 : t.k = 5
 ·cases hc : (t.c == 0)
  all_goals
   rw [e69, tpA_eq]
   simp (maxSteps := 100000000) only [ivc, rgb, anf, vop, vlen, vbuiltin, nilR, salloc, eq_self, Nat.reduceEqDiff, Nat.reduceLT, Nat.reduceLeDiff, Nat.reduceAdd, Nat.reduceBEq, Int.reduceBEq, reduceCtorEq, ↓reduceIte, tyb, tpC, l64, l2, hcap, hk5, hc]
   try simp [nodeW, plnW, nmE, hk5, hc]
 have q5 : (t.k == 5) = false := by simp [hk5]
 by_cases hk6 : t.k = 6
 ·by_cases hl : t.xs.length = 2
  ·obtain ⟨a, b, hx⟩ : ∃ a b, t.xs = [a, b] := by
    match t.xs, hl with
    | [a, b], _ => exact ⟨a, b, rfl⟩
   have ta := tpA_eq a
   simp only [tpC] at ta
   cases hc : (t.c == 0)
   all_goals
    rw [e69, tpA_eq]
    simp (maxSteps := 100000000) only [ivc, rgb, anf, vop, vlen, vbuiltin, nilR, salloc, eq_self, Nat.reduceEqDiff, Nat.reduceLT, Nat.reduceLeDiff, Nat.reduceAdd, Nat.reduceBEq, Int.reduceLT, Int.reduceLE, Int.reduceToNat, Int.reduceBEq, reduceCtorEq, ↓reduceIte, tyb, tpC, hk6, hc, hx, ta, hcap]
    simp [nodeW, plnW, nmE, arrW, hk6, hc, hx]
    try (intro h1 h2; simp [h1, h2])
  ·have la : arrW t.xs = false := by
    match t.xs, hl with
    | [], _ => rfl
    | [_], _ => rfl
    | _ :: _ :: _ :: _, _ => rfl
   have lx : ((t.xs.length : Int) == 2) = false := by rw [beq_I]; simp; omega
   cases hx : t.xs with
   | nil =>
    cases hc : (t.c == 0)
    all_goals
     rw [e69, tpA_eq]
     simp (maxSteps := 100000000) only [ivc, rgb, mpb, anf, vop, vlen, vbuiltin, nilR, salloc, eq_self, Nat.reduceEqDiff, Nat.reduceLT, Nat.reduceLeDiff, Nat.reduceAdd, Nat.reduceBEq, Int.reduceLT, Int.reduceLE, Int.reduceToNat, Int.reduceBEq, reduceCtorEq, ↓reduceIte, tyb, tpC, hk6, hc, hx, hcap]
     simp [nodeW, plnW, nmE, hk6, hc, la]
   | cons a r =>
    have ta := tpA_eq a
    simp only [tpC] at ta
    rw [hx] at lx
    simp only [List.length_cons, Int.natCast_add, Int.cast_ofNat_Int] at lx
    cases hc : (t.c == 0)
    all_goals
     rw [e69, tpA_eq]
     simp (maxSteps := 100000000) only [ivc, rgb, anf, vop, vlen, vbuiltin, nilR, salloc, eq_self, Nat.reduceEqDiff, Nat.reduceLT, Nat.reduceLeDiff, Nat.reduceAdd, Nat.reduceBEq, Int.reduceLE, Int.reduceToNat, Int.reduceBEq, reduceCtorEq, ↓reduceIte, tyb, tpC, hk6, hc, hx, lx, ta, hcap]
     simp [nodeW, plnW, nmE, hk6, hc, la]
 have q6 : (t.k == 6) = false := by simp [hk6]
 by_cases hk7 : t.k = 7
 ·cases hc : (t.c == 0) <;> by_cases h64 : t.xs.length = 0
  all_goals
   rw [e69, tpA_eq]
   simp (maxSteps := 100000000) only [ivc, rgb, anf, vop, vlen, vbuiltin, nilR, salloc, eq_self, Nat.reduceEqDiff, Nat.reduceLT, Nat.reduceLeDiff, Nat.reduceAdd, Nat.reduceBEq, Int.reduceBEq, reduceCtorEq, ↓reduceIte, tyb, tpC, l0, hcap, hk7, hc, h64]
   try simp [nodeW, mkdW, opnW, nmE, hk7, hc, h64]
 have q7 : (t.k == 7) = false := by simp [hk7]
 cases hc : (t.c == 0)
 all_goals
  rw [e69, tpA_eq]
  simp (maxSteps := 100000000) only [ivc, rgb, anf, vop, vlen, vbuiltin, nilR, salloc, eq_self, Nat.reduceEqDiff, Nat.reduceLT, Nat.reduceLeDiff, Nat.reduceAdd, Nat.reduceBEq, reduceCtorEq, ↓reduceIte, tyb, tpC, hcap, q1, q2, q3, q4, q5, q6, q7, hc]
  try simp [nodeW, hk, hk2, hk3, hk4, hk5, hk6, hk7]
inductive Vl where
 | mk (k lo hi : Int) (nm : ByteArray) (xs : List Vl)
mutual
def vlA : Vl -> AV
 | .mk k lo hi nm xs => .agg [.int .i64 k, .int .u64 lo, .int .u64 hi, .str nm, .ro 5 (vlsA xs)]
def vlsA : List Vl -> List AV
 | [] => []
 | t :: r => vlA t :: vlsA r
end
theorem vlsA_eq : ∀ (l : List Vl), vlsA l = l.map vlA
 | [] => rfl
 | t :: r => by simp only [vlsA, List.map_cons, vlsA_eq r]
def Vl.k : Vl -> Int | .mk k _ _ _ _ => k
def Vl.lo : Vl -> Int | .mk _ lo _ _ _ => lo
def Vl.hi : Vl -> Int | .mk _ _ hi _ _ => hi
def Vl.nm : Vl -> ByteArray | .mk _ _ _ nm _ => nm
def Vl.xs : Vl -> List Vl | .mk _ _ _ _ xs => xs
def vlC (t : Vl) : List AV := [.int .i64 t.k, .int .u64 t.lo, .int .u64 t.hi, .str t.nm, .ro 5 (t.xs.map vlA)]
theorem vlA_eq (t : Vl) : vlA t = .agg (vlC t) := by
 obtain ⟨k, lo, hi, nm, xs⟩ := t
 simp only [vlA, vlC, Vl.k, Vl.lo, Vl.hi, Vl.nm, Vl.xs, vlsA_eq]
instance rf_vl : RowF vlA := ⟨fun t => by rw [vlA_eq]; rfl, fun t => by rw [vlA_eq]; rfl⟩
structure Mq where
 at_ : Int
 live : List Int
structure Fq where
 nm : ByteArray
 pa : Int
 cl : List Int
 ws : List Int
 mp : List Mq
structure Pq where
 fn : List Fq
 tx : List ByteArray
 ty : List Tp
 vl : List Vl
 en : List ByteArray
 se : List ByteArray
 ve : List (Int × Int)
 ofs : List Int
 co : List Int
def mqA (m : Mq) : AV := .agg [.int .i64 m.at_, .ro 1 (m.live.map (AV.int .i64))]
def fqC (f : Fq) : List AV := [.str f.nm, .int .i64 f.pa, .ro 1 (f.cl.map (AV.int .i64)), .ro 1 (f.ws.map (AV.int .u32)), .ro 2 (f.mp.map mqA)]
def fqA (f : Fq) : AV := .agg (fqC f)
def slA (s : Int × Int) : AV := .agg [.int .i64 s.1, .int .i64 s.2]
def pqC (p : Pq) : List AV := [.ro 5 (p.fn.map fqA), .ro 1 (p.tx.map AV.str), .ro 5 (p.ty.map tpA), .ro 5 (p.vl.map vlA), .ro 1 (p.en.map AV.str), .ro 1 (p.se.map AV.str), .ro 2 (p.ve.map slA), .ro 1 (p.ofs.map (AV.int .i64)), .ro 1 (p.co.map (AV.int .i64))]
def pqA (p : Pq) : AV := .agg (pqC p)
instance rf_mq : RowF mqA := ⟨fun _ => rfl, fun _ => rfl⟩
instance rf_fq : RowF fqA := ⟨fun _ => rfl, fun _ => rfl⟩
instance rf_sl : RowF slA := ⟨fun _ => rfl, fun _ => rfl⟩
def lenB {α : Type} (l : List α) : Prop := l.length ≤ 1000000000000000
structure bF (f : Fq) : Prop where
 cl : lenB f.cl
 ws : lenB f.ws
 mp : lenB f.mp
 lv : ∀ m ∈ f.mp, lenB m.live
structure bP (p : Pq) : Prop where
 fn : lenB p.fn
 tx : lenB p.tx
 ty : lenB p.ty
 vl : lenB p.vl
 en : lenB p.en
 se : lenB p.se
 ve : lenB p.ve
 ofs : lenB p.ofs
 co : lenB p.co
 fs : ∀ f ∈ p.fn, bF f
 ts : ∀ t ∈ p.ty, bT t
def lgAW (s : ByteArray) : Bool := decide ((60 : Int) < s.size)
theorem lgA_ev {s : ByteArray} : E.F 49 [.str s] [] = some ((.bool (lgAW s), []), True) := by
 rw [e49]
 simp (maxSteps := 100000000) only [ivc, rgb, anf, vlen, vbuiltin, nilR, eq_self, Nat.reduceLT, Nat.reduceLeDiff, Nat.reduceBEq, reduceCtorEq, ↓reduceIte, tyb]
 try rfl
theorem lgA_loop  {l : List _} (hs : l.length ≤ 1000000000000000) (hf : ∀ s ∈ l, E.F 49 [.str s] [] = some ((.bool (lgAW s), []), True)) : ∀ (r m : List _), l = m ++ r ->
  ∃ j : Int, 0 ≤ j /\ E.L 62 3 [.ro 1 (l.map AV.str), .fn (.func 49) [] [], .int .i64 0, .int .i64 l.length, .int .i64 m.length] [] = some ((if r.any lgAW then .ret else .exit 0, [.ro 1 (l.map AV.str), .fn (.func 49) [] [], .int .i64 (if r.any lgAW then j else 0), .int .i64 l.length, .int .i64 j], []), True) := by
 intro r
 induction r with
 | nil =>
  intro m h
  rw [List.append_nil] at h
  have q : ((m.length : Int) < l.length) = False := eq_false (by rw [h]; omega)
  refine ⟨m.length, by omega, ?_⟩
  rw [l62_3]
  simp (maxSteps := 100000000) only [ivc, rgb, anf, nilR, eq_self, Nat.reduceEqDiff, Nat.reduceLT, Nat.reduceBEq, reduceCtorEq, ↓reduceIte, tyb, q, List.any_nil]
 | cons y r ih =>
  intro m h
  have hi' : ((m.length : Int) < l.length) = True := eq_true (by rw [h]; simp; omega)
  have hw1 : IntKind.i64.wrap ((m.length : Int) + 1) = m.length + 1 := wrap_id (by omega) (by rw [h] at hs; simp at hs; omega)
  have hg := getD_map (f := AV.str) (show l[m.length]? = some y by rw [h]; simp)
  have hy := hf y (by rw [h]; simp)
  cases hp : lgAW y with
  | true =>
   rw [hp] at hy
   refine ⟨m.length, by omega, ?_⟩
   rw [l62_3]
   simp (maxSteps := 100000000) only [ivc, rgb, anf, nilR, eq_self, Nat.reduceEqDiff, Nat.reduceLT, Nat.reduceAdd, Nat.reduceMul, Nat.reduceBEq, reduceCtorEq, ↓reduceIte, tyb, hi', hg, hy, List.any_cons, hp]
   exact some_true (by omega)
  | false =>
   obtain ⟨j, hj, ih'⟩ := ih (m ++ [y]) (by rw [h]; simp)
   simp only [List.length_append, List.length_cons, List.length_nil, Int.natCast_add, Int.cast_ofNat_Int, Nat.zero_add] at ih'
   rw [hp] at hy
   refine ⟨j, hj, ?_⟩
   rw [l62_3]
   simp (maxSteps := 100000000) only [ivc, rgb, anf, nilR, eq_self, Nat.reduceEqDiff, Nat.reduceLT, Nat.reduceAdd, Nat.reduceMul, Nat.reduceBEq, reduceCtorEq, ↓reduceIte, tyb, hi', hw1, hg, hy, ih', List.any_cons, hp]
   exact some_true (by omega)
theorem lgA_idx  {l : List _} (hs : l.length ≤ 1000000000000000) (hf : ∀ s ∈ l, E.F 49 [.str s] [] = some ((.bool (lgAW s), []), True)) : ∃ j : Int, decide (0 ≤ j) = l.any lgAW /\ E.F 62 [.ro 1 (l.map AV.str), .fn (.func 49) [] []] [] = some ((.int .i64 j, []), True) := by
 obtain ⟨j, hj, L⟩ := lgA_loop hs hf l [] rfl
 simp only [List.length_nil, Int.natCast_zero] at L
 cases ha : l.any lgAW with
 | true =>
  rw [ha] at L
  simp only [if_true] at L
  refine ⟨j, by simp [hj], ?_⟩
  rw [e62]
  simp (maxSteps := 100000000) only [ivc, rgb, anf, vlen, vbuiltin, eq_self, Nat.reduceEqDiff, Nat.reduceLT, Nat.reduceLeDiff, Nat.reduceAdd, Nat.reduceBEq, Int.reduceNeg, reduceCtorEq, ↓reduceIte, tyb, L]
 | false =>
  rw [ha] at L
  simp only [Bool.false_eq_true, if_false] at L
  refine ⟨-1, by simp, ?_⟩
  rw [e62]
  simp (maxSteps := 100000000) only [ivc, rgb, anf, vlen, vbuiltin, eq_self, Nat.reduceEqDiff, Nat.reduceLT, Nat.reduceLeDiff, Nat.reduceAdd, Nat.reduceBEq, Int.reduceNeg, reduceCtorEq, ↓reduceIte, tyb, L]
theorem lgA_any  {l : List _} (hs : l.length ≤ 1000000000000000) (hf : ∀ s ∈ l, E.F 49 [.str s] [] = some ((.bool (lgAW s), []), True)) : E.F 50 [.ro 1 (l.map AV.str), .fn (.func 49) [] []] [] = some ((.bool (l.any lgAW), []), True) := by
 obtain ⟨j, hj, L⟩ := lgA_idx hs hf
 rw [e50]
 have hj' : decide (j ≥ 0) = l.any lgAW := hj
 simp (maxSteps := 100000000) only [ivc, rgb, anf, nilR, eq_self, Nat.reduceEqDiff, Nat.reduceLT, Nat.reduceLeDiff, Nat.reduceAdd, Nat.reduceBEq, reduceCtorEq, ↓reduceIte, tyb, L, hj']
theorem lgAs_ev {l : List ByteArray} (hs : lenB l) : E.F 50 [.ro 1 (l.map AV.str), .fn (.func 49) [] []] [] = some ((.bool (l.any lgAW), []), True) := lgA_any hs fun _ _ => lgA_ev
def lgBW (s : ByteArray) : Bool := decide ((20000 : Int) < s.size)
theorem lgB_ev {s : ByteArray} : E.F 66 [.str s] [] = some ((.bool (lgBW s), []), True) := by
 rw [e66]
 simp (maxSteps := 100000000) only [ivc, rgb, anf, vlen, vbuiltin, nilR, eq_self, Nat.reduceLT, Nat.reduceLeDiff, Nat.reduceBEq, reduceCtorEq, ↓reduceIte, tyb]
 try rfl
theorem lgB_loop  {l : List _} (hs : l.length ≤ 1000000000000000) (hf : ∀ s ∈ l, E.F 66 [.str s] [] = some ((.bool (lgBW s), []), True)) : ∀ (r m : List _), l = m ++ r ->
  ∃ j : Int, 0 ≤ j /\ E.L 62 3 [.ro 1 (l.map AV.str), .fn (.func 66) [] [], .int .i64 0, .int .i64 l.length, .int .i64 m.length] [] = some ((if r.any lgBW then .ret else .exit 0, [.ro 1 (l.map AV.str), .fn (.func 66) [] [], .int .i64 (if r.any lgBW then j else 0), .int .i64 l.length, .int .i64 j], []), True) := by
 intro r
 induction r with
 | nil =>
  intro m h
  rw [List.append_nil] at h
  have q : ((m.length : Int) < l.length) = False := eq_false (by rw [h]; omega)
  refine ⟨m.length, by omega, ?_⟩
  rw [l62_3]
  simp (maxSteps := 100000000) only [ivc, rgb, anf, nilR, eq_self, Nat.reduceEqDiff, Nat.reduceLT, Nat.reduceBEq, reduceCtorEq, ↓reduceIte, tyb, q, List.any_nil]
 | cons y r ih =>
  intro m h
  have hi' : ((m.length : Int) < l.length) = True := eq_true (by rw [h]; simp; omega)
  have hw1 : IntKind.i64.wrap ((m.length : Int) + 1) = m.length + 1 := wrap_id (by omega) (by rw [h] at hs; simp at hs; omega)
  have hg := getD_map (f := AV.str) (show l[m.length]? = some y by rw [h]; simp)
  have hy := hf y (by rw [h]; simp)
  cases hp : lgBW y with
  | true =>
   rw [hp] at hy
   refine ⟨m.length, by omega, ?_⟩
   rw [l62_3]
   simp (maxSteps := 100000000) only [ivc, rgb, anf, nilR, eq_self, Nat.reduceEqDiff, Nat.reduceLT, Nat.reduceAdd, Nat.reduceMul, Nat.reduceBEq, reduceCtorEq, ↓reduceIte, tyb, hi', hg, hy, List.any_cons, hp]
   exact some_true (by omega)
  | false =>
   obtain ⟨j, hj, ih'⟩ := ih (m ++ [y]) (by rw [h]; simp)
   simp only [List.length_append, List.length_cons, List.length_nil, Int.natCast_add, Int.cast_ofNat_Int, Nat.zero_add] at ih'
   rw [hp] at hy
   refine ⟨j, hj, ?_⟩
   rw [l62_3]
   simp (maxSteps := 100000000) only [ivc, rgb, anf, nilR, eq_self, Nat.reduceEqDiff, Nat.reduceLT, Nat.reduceAdd, Nat.reduceMul, Nat.reduceBEq, reduceCtorEq, ↓reduceIte, tyb, hi', hw1, hg, hy, ih', List.any_cons, hp]
   exact some_true (by omega)
theorem lgB_idx  {l : List _} (hs : l.length ≤ 1000000000000000) (hf : ∀ s ∈ l, E.F 66 [.str s] [] = some ((.bool (lgBW s), []), True)) : ∃ j : Int, decide (0 ≤ j) = l.any lgBW /\ E.F 62 [.ro 1 (l.map AV.str), .fn (.func 66) [] []] [] = some ((.int .i64 j, []), True) := by
 obtain ⟨j, hj, L⟩ := lgB_loop hs hf l [] rfl
 simp only [List.length_nil, Int.natCast_zero] at L
 cases ha : l.any lgBW with
 | true =>
  rw [ha] at L
  simp only [if_true] at L
  refine ⟨j, by simp [hj], ?_⟩
  rw [e62]
  simp (maxSteps := 100000000) only [ivc, rgb, anf, vlen, vbuiltin, eq_self, Nat.reduceEqDiff, Nat.reduceLT, Nat.reduceLeDiff, Nat.reduceAdd, Nat.reduceBEq, Int.reduceNeg, reduceCtorEq, ↓reduceIte, tyb, L]
 | false =>
  rw [ha] at L
  simp only [Bool.false_eq_true, if_false] at L
  refine ⟨-1, by simp, ?_⟩
  rw [e62]
  simp (maxSteps := 100000000) only [ivc, rgb, anf, vlen, vbuiltin, eq_self, Nat.reduceEqDiff, Nat.reduceLT, Nat.reduceLeDiff, Nat.reduceAdd, Nat.reduceBEq, Int.reduceNeg, reduceCtorEq, ↓reduceIte, tyb, L]
theorem lgB_any  {l : List _} (hs : l.length ≤ 1000000000000000) (hf : ∀ s ∈ l, E.F 66 [.str s] [] = some ((.bool (lgBW s), []), True)) : E.F 50 [.ro 1 (l.map AV.str), .fn (.func 66) [] []] [] = some ((.bool (l.any lgBW), []), True) := by
 obtain ⟨j, hj, L⟩ := lgB_idx hs hf
 rw [e50]
 have hj' : decide (j ≥ 0) = l.any lgBW := hj
 simp (maxSteps := 100000000) only [ivc, rgb, anf, nilR, eq_self, Nat.reduceEqDiff, Nat.reduceLT, Nat.reduceLeDiff, Nat.reduceAdd, Nat.reduceBEq, reduceCtorEq, ↓reduceIte, tyb, L, hj']
theorem lgBs_ev {l : List ByteArray} (hs : lenB l) : E.F 50 [.ro 1 (l.map AV.str), .fn (.func 66) [] []] [] = some ((.bool (l.any lgBW), []), True) := lgB_any hs fun _ _ => lgB_ev
def fewT (t : Tp) : Bool := decide (0 ≤ leftM t 20) && decide (t.nm.size ≤ 400)
theorem fewT_ev {t : Tp} (ht : bT t) : E.F 52 [tpA t] [] = some ((.bool (!fewT t), []), True) := by
 have L := lft_ev ht (n := 20)
 rw [tpA_eq] at L ⊢
 simp only [tpC] at L
 rw [e52]
 simp (maxSteps := 100000000) only [ivc, rgb, mpb, anf, vop, salloc, eq_self, Nat.reduceEqDiff, Nat.reduceLT, Nat.reduceLeDiff, Nat.reduceAdd, Nat.reduceBEq, reduceCtorEq, ↓reduceIte, tyb, tpC, L]
 try rfl
theorem fwT_loop  {l : List _} (hs : l.length ≤ 1000000000000000) (hf : ∀ t ∈ l, E.F 52 [tpA t] [] = some ((.bool (!fewT t), []), True)) : ∀ (r m : List _), l = m ++ r ->
  ∃ j : Int, 0 ≤ j /\ E.L 63 3 [.ro 5 (l.map tpA), .fn (.func 52) [] [], .int .i64 0, .int .i64 l.length, .int .i64 m.length] [] = some ((if r.any (fun t => !fewT t) then .ret else .exit 0, [.ro 5 (l.map tpA), .fn (.func 52) [] [], .int .i64 (if r.any (fun t => !fewT t) then j else 0), .int .i64 l.length, .int .i64 j], []), True) := by
 intro r
 induction r with
 | nil =>
  intro m h
  rw [List.append_nil] at h
  have q : ((m.length : Int) < l.length) = False := eq_false (by rw [h]; omega)
  refine ⟨m.length, by omega, ?_⟩
  rw [l63_3]
  simp (maxSteps := 100000000) only [ivc, rgb, anf, nilR, eq_self, Nat.reduceEqDiff, Nat.reduceLT, Nat.reduceBEq, reduceCtorEq, ↓reduceIte, tyb, q, List.any_nil]
 | cons y r ih =>
  intro m h
  have hi' : ((m.length : Int) < l.length) = True := eq_true (by rw [h]; simp; omega)
  have hw1 : IntKind.i64.wrap ((m.length : Int) + 1) = m.length + 1 := wrap_id (by omega) (by rw [h] at hs; simp at hs; omega)
  have hg := getD_map (f := tpA) (show l[m.length]? = some y by rw [h]; simp)
  have hy := hf y (by rw [h]; simp)
  rw [tpA_eq] at hg hy; simp only [tpC] at hg hy
  cases hp : (!fewT y) with
  | true =>
   rw [hp] at hy
   refine ⟨m.length, by omega, ?_⟩
   rw [l63_3]
   simp (maxSteps := 100000000) only [ivc, rgb, mpb, anf, nilR, eq_self, Nat.reduceEqDiff, Nat.reduceLT, Nat.reduceAdd, Nat.reduceMul, Nat.reduceBEq, reduceCtorEq, ↓reduceIte, tyb, hi', hg, hy, List.any_cons, hp]
   exact some_true (by omega)
  | false =>
   obtain ⟨j, hj, ih'⟩ := ih (m ++ [y]) (by rw [h]; simp)
   simp only [List.length_append, List.length_cons, List.length_nil, Int.natCast_add, Int.cast_ofNat_Int, Nat.zero_add] at ih'
   rw [hp] at hy
   refine ⟨j, hj, ?_⟩
   rw [l63_3]
   simp (maxSteps := 100000000) only [ivc, rgb, mpb, anf, nilR, eq_self, Nat.reduceEqDiff, Nat.reduceLT, Nat.reduceAdd, Nat.reduceMul, Nat.reduceBEq, reduceCtorEq, ↓reduceIte, tyb, hi', hw1, hg, hy, ih', List.any_cons, hp]
   exact some_true (by omega)
theorem fwT_idx  {l : List _} (hs : l.length ≤ 1000000000000000) (hf : ∀ t ∈ l, E.F 52 [tpA t] [] = some ((.bool (!fewT t), []), True)) : ∃ j : Int, decide (0 ≤ j) = l.any (fun t => !fewT t) /\ E.F 63 [.ro 5 (l.map tpA), .fn (.func 52) [] []] [] = some ((.int .i64 j, []), True) := by
 obtain ⟨j, hj, L⟩ := fwT_loop hs hf l [] rfl
 simp only [List.length_nil, Int.natCast_zero] at L
 cases ha : l.any (fun t => !fewT t) with
 | true =>
  rw [ha] at L
  simp only [if_true] at L
  refine ⟨j, by simp [hj], ?_⟩
  rw [e63]
  simp (maxSteps := 100000000) only [ivc, rgb, anf, vlen, vbuiltin, eq_self, Nat.reduceEqDiff, Nat.reduceLT, Nat.reduceLeDiff, Nat.reduceAdd, Nat.reduceBEq, Int.reduceNeg, reduceCtorEq, ↓reduceIte, tyb, L]
 | false =>
  rw [ha] at L
  simp only [Bool.false_eq_true, if_false] at L
  refine ⟨-1, by simp, ?_⟩
  rw [e63]
  simp (maxSteps := 100000000) only [ivc, rgb, anf, vlen, vbuiltin, eq_self, Nat.reduceEqDiff, Nat.reduceLT, Nat.reduceLeDiff, Nat.reduceAdd, Nat.reduceBEq, Int.reduceNeg, reduceCtorEq, ↓reduceIte, tyb, L]
theorem fwT_any  {l : List _} (hs : l.length ≤ 1000000000000000) (hf : ∀ t ∈ l, E.F 52 [tpA t] [] = some ((.bool (!fewT t), []), True)) : E.F 51 [.ro 5 (l.map tpA), .fn (.func 52) [] []] [] = some ((.bool (l.any (fun t => !fewT t)), []), True) := by
 obtain ⟨j, hj, L⟩ := fwT_idx hs hf
 rw [e51]
 have hj' : decide (j ≥ 0) = l.any (fun t => !fewT t) := hj
 simp (maxSteps := 100000000) only [ivc, rgb, anf, nilR, eq_self, Nat.reduceEqDiff, Nat.reduceLT, Nat.reduceLeDiff, Nat.reduceAdd, Nat.reduceMul, Nat.reduceBEq, reduceCtorEq, ↓reduceIte, tyb, L, hj']
theorem fwTs_ev {l : List Tp} (hs : lenB l) (hb : ∀ t ∈ l, bT t) : E.F 51 [.ro 5 (l.map tpA), .fn (.func 52) [] []] [] = some ((.bool (l.any fun t => !fewT t), []), True) := fwT_any hs fun t ht => fewT_ev (hb t ht)
def vbA (v : Vl) : Bool := decide ((2 : Int) < v.xs.length) || lgAW v.nm
theorem vbA_ev {v : Vl} : E.F 55 [vlA v, .ptr 100000 0 0] [(100000, ⟨true, 1, [.fn (.func 49) [] []]⟩)] = some ((.bool (vbA v), [(100000, ⟨true, 1, [.fn (.func 49) [] []]⟩)]), True) := by
 have L := lgA_ev (s := v.nm)
 rw [vlA_eq, e55]
 unfold vbA
 by_cases h : (2 : Int) < v.xs.length
 ·simp (maxSteps := 100000000) only [ivc, rgb, mpb, anf, vop, vlen, vbuiltin, nilR, salloc, eq_self, Nat.reduceEqDiff, Nat.reduceLT, Nat.reduceLeDiff, Nat.reduceAdd, Nat.reduceBEq, reduceCtorEq, ↓reduceIte, tyb, vlC, h]
  try rfl
 ·simp (maxSteps := 100000000) only [ivc, rgb, mpb, anf, vop, vlen, vbuiltin, nilR, salloc, eq_self, Nat.reduceEqDiff, Nat.reduceLT, Nat.reduceLeDiff, Nat.reduceAdd, Nat.reduceMul, Nat.reduceBEq, reduceCtorEq, ↓reduceIte, tyb, vlC, h, L]
  try rfl
theorem fwV_loop  {l : List _} (hs : l.length ≤ 1000000000000000) (hf : ∀ v ∈ l, E.F 55 [vlA v, .ptr 100000 0 0] [(100000, ⟨true, 1, [.fn (.func 49) [] []]⟩)] = some ((.bool (vbA v), [(100000, ⟨true, 1, [.fn (.func 49) [] []]⟩)]), True)) : ∀ (r m : List _), l = m ++ r ->
  ∃ j : Int, 0 ≤ j /\ E.L 65 3 [.ro 5 (l.map vlA), .fn (.func 55) [] [.ptr 100000 0 0], .int .i64 0, .int .i64 l.length, .int .i64 m.length] [(100000, ⟨true, 1, [.fn (.func 49) [] []]⟩)] = some ((if r.any vbA then .ret else .exit 0, [.ro 5 (l.map vlA), .fn (.func 55) [] [.ptr 100000 0 0], .int .i64 (if r.any vbA then j else 0), .int .i64 l.length, .int .i64 j], [(100000, ⟨true, 1, [.fn (.func 49) [] []]⟩)]), True) := by
 intro r
 induction r with
 | nil =>
  intro m h
  rw [List.append_nil] at h
  have q : ((m.length : Int) < l.length) = False := eq_false (by rw [h]; omega)
  refine ⟨m.length, by omega, ?_⟩
  rw [l65_3]
  simp (maxSteps := 100000000) only [ivc, rgb, mpb, anf, nilR, eq_self, Nat.reduceEqDiff, Nat.reduceLT, Nat.reduceBEq, reduceCtorEq, ↓reduceIte, tyb, q, List.any_nil]
 | cons y r ih =>
  intro m h
  have hi' : ((m.length : Int) < l.length) = True := eq_true (by rw [h]; simp; omega)
  have hw1 : IntKind.i64.wrap ((m.length : Int) + 1) = m.length + 1 := wrap_id (by omega) (by rw [h] at hs; simp at hs; omega)
  have hg := getD_map (f := vlA) (show l[m.length]? = some y by rw [h]; simp)
  have hy := hf y (by rw [h]; simp)
  rw [vlA_eq] at hg hy; simp only [vlC] at hg hy
  cases hp : vbA y with
  | true =>
   rw [hp] at hy
   refine ⟨m.length, by omega, ?_⟩
   rw [l65_3]
   simp (maxSteps := 100000000) only [ivc, rgb, mpb, anf, nilR, eq_self, Nat.reduceEqDiff, Nat.reduceLT, Nat.reduceAdd, Nat.reduceMul, Nat.reduceBEq, reduceCtorEq, ↓reduceIte, tyb, hi', hg, hy, List.any_cons, hp]
   exact some_true (by omega)
  | false =>
   obtain ⟨j, hj, ih'⟩ := ih (m ++ [y]) (by rw [h]; simp)
   simp only [List.length_append, List.length_cons, List.length_nil, Int.natCast_add, Int.cast_ofNat_Int, Nat.zero_add] at ih'
   rw [hp] at hy
   refine ⟨j, hj, ?_⟩
   rw [l65_3]
   simp (maxSteps := 100000000) only [ivc, rgb, mpb, anf, nilR, eq_self, Nat.reduceEqDiff, Nat.reduceLT, Nat.reduceAdd, Nat.reduceMul, Nat.reduceBEq, reduceCtorEq, ↓reduceIte, tyb, hi', hw1, hg, hy, ih', List.any_cons, hp]
   exact some_true (by omega)
theorem fwV_idx  {l : List _} (hs : l.length ≤ 1000000000000000) (hf : ∀ v ∈ l, E.F 55 [vlA v, .ptr 100000 0 0] [(100000, ⟨true, 1, [.fn (.func 49) [] []]⟩)] = some ((.bool (vbA v), [(100000, ⟨true, 1, [.fn (.func 49) [] []]⟩)]), True)) : ∃ j : Int, decide (0 ≤ j) = l.any vbA /\ E.F 65 [.ro 5 (l.map vlA), .fn (.func 55) [] [.ptr 100000 0 0]] [(100000, ⟨true, 1, [.fn (.func 49) [] []]⟩)] = some ((.int .i64 j, [(100000, ⟨true, 1, [.fn (.func 49) [] []]⟩)]), True) := by
 obtain ⟨j, hj, L⟩ := fwV_loop hs hf l [] rfl
 simp only [List.length_nil, Int.natCast_zero] at L
 cases ha : l.any vbA with
 | true =>
  rw [ha] at L
  simp only [if_true] at L
  refine ⟨j, by simp [hj], ?_⟩
  rw [e65]
  simp (maxSteps := 100000000) only [ivc, rgb, mpb, anf, vlen, vbuiltin, eq_self, Nat.reduceEqDiff, Nat.reduceLT, Nat.reduceLeDiff, Nat.reduceAdd, Nat.reduceBEq, Int.reduceNeg, reduceCtorEq, ↓reduceIte, tyb, L]
 | false =>
  rw [ha] at L
  simp only [Bool.false_eq_true, if_false] at L
  refine ⟨-1, by simp, ?_⟩
  rw [e65]
  simp (maxSteps := 100000000) only [ivc, rgb, mpb, anf, vlen, vbuiltin, eq_self, Nat.reduceEqDiff, Nat.reduceLT, Nat.reduceLeDiff, Nat.reduceAdd, Nat.reduceBEq, Int.reduceNeg, reduceCtorEq, ↓reduceIte, tyb, L]
theorem fwV_any  {l : List _} (hs : l.length ≤ 1000000000000000) (hf : ∀ v ∈ l, E.F 55 [vlA v, .ptr 100000 0 0] [(100000, ⟨true, 1, [.fn (.func 49) [] []]⟩)] = some ((.bool (vbA v), [(100000, ⟨true, 1, [.fn (.func 49) [] []]⟩)]), True)) : E.F 54 [.ro 5 (l.map vlA), .fn (.func 55) [] [.ptr 100000 0 0]] [(100000, ⟨true, 1, [.fn (.func 49) [] []]⟩)] = some ((.bool (l.any vbA), [(100000, ⟨true, 1, [.fn (.func 49) [] []]⟩)]), True) := by
 obtain ⟨j, hj, L⟩ := fwV_idx hs hf
 rw [e54]
 have hj' : decide (j ≥ 0) = l.any vbA := hj
 simp (maxSteps := 100000000) only [ivc, rgb, mpb, anf, nilR, eq_self, Nat.reduceEqDiff, Nat.reduceLT, Nat.reduceLeDiff, Nat.reduceAdd, Nat.reduceMul, Nat.reduceBEq, reduceCtorEq, ↓reduceIte, tyb, L, hj']
def vbB (v : Vl) : Bool := decide ((0 : Int) < v.xs.length) || decide ((300 : Int) < v.nm.size)
theorem vbB_ev {v : Vl} : E.F 57 [vlA v] [] = some ((.bool (vbB v), []), True) := by
 rw [vlA_eq, e57]
 simp (maxSteps := 100000000) only [ivc, rgb, anf, vop, vlen, vbuiltin, nilR, salloc, eq_self, Nat.reduceEqDiff, Nat.reduceLT, Nat.reduceLeDiff, Nat.reduceAdd, Nat.reduceBEq, reduceCtorEq, ↓reduceIte, tyb, vlC]
 try rfl
theorem ckV_loop  {l : List _} (hs : l.length ≤ 1000000000000000) (hf : ∀ v ∈ l, E.F 57 [vlA v] [] = some ((.bool (vbB v), []), True)) : ∀ (r m : List _), l = m ++ r ->
  ∃ j : Int, 0 ≤ j /\ E.L 65 3 [.ro 5 (l.map vlA), .fn (.func 57) [] [], .int .i64 0, .int .i64 l.length, .int .i64 m.length] [] = some ((if r.any vbB then .ret else .exit 0, [.ro 5 (l.map vlA), .fn (.func 57) [] [], .int .i64 (if r.any vbB then j else 0), .int .i64 l.length, .int .i64 j], []), True) := by
 intro r
 induction r with
 | nil =>
  intro m h
  rw [List.append_nil] at h
  have q : ((m.length : Int) < l.length) = False := eq_false (by rw [h]; omega)
  refine ⟨m.length, by omega, ?_⟩
  rw [l65_3]
  simp (maxSteps := 100000000) only [ivc, rgb, anf, nilR, eq_self, Nat.reduceEqDiff, Nat.reduceLT, Nat.reduceBEq, reduceCtorEq, ↓reduceIte, tyb, q, List.any_nil]
 | cons y r ih =>
  intro m h
  have hi' : ((m.length : Int) < l.length) = True := eq_true (by rw [h]; simp; omega)
  have hw1 : IntKind.i64.wrap ((m.length : Int) + 1) = m.length + 1 := wrap_id (by omega) (by rw [h] at hs; simp at hs; omega)
  have hg := getD_map (f := vlA) (show l[m.length]? = some y by rw [h]; simp)
  have hy := hf y (by rw [h]; simp)
  rw [vlA_eq] at hg hy; simp only [vlC] at hg hy
  cases hp : vbB y with
  | true =>
   rw [hp] at hy
   refine ⟨m.length, by omega, ?_⟩
   rw [l65_3]
   simp (maxSteps := 100000000) only [ivc, rgb, mpb, anf, nilR, eq_self, Nat.reduceEqDiff, Nat.reduceLT, Nat.reduceAdd, Nat.reduceMul, Nat.reduceBEq, reduceCtorEq, ↓reduceIte, tyb, hi', hg, hy, List.any_cons, hp]
   exact some_true (by omega)
  | false =>
   obtain ⟨j, hj, ih'⟩ := ih (m ++ [y]) (by rw [h]; simp)
   simp only [List.length_append, List.length_cons, List.length_nil, Int.natCast_add, Int.cast_ofNat_Int, Nat.zero_add] at ih'
   rw [hp] at hy
   refine ⟨j, hj, ?_⟩
   rw [l65_3]
   simp (maxSteps := 100000000) only [ivc, rgb, mpb, anf, nilR, eq_self, Nat.reduceEqDiff, Nat.reduceLT, Nat.reduceAdd, Nat.reduceMul, Nat.reduceBEq, reduceCtorEq, ↓reduceIte, tyb, hi', hw1, hg, hy, ih', List.any_cons, hp]
   exact some_true (by omega)
theorem ckV_idx  {l : List _} (hs : l.length ≤ 1000000000000000) (hf : ∀ v ∈ l, E.F 57 [vlA v] [] = some ((.bool (vbB v), []), True)) : ∃ j : Int, decide (0 ≤ j) = l.any vbB /\ E.F 65 [.ro 5 (l.map vlA), .fn (.func 57) [] []] [] = some ((.int .i64 j, []), True) := by
 obtain ⟨j, hj, L⟩ := ckV_loop hs hf l [] rfl
 simp only [List.length_nil, Int.natCast_zero] at L
 cases ha : l.any vbB with
 | true =>
  rw [ha] at L
  simp only [if_true] at L
  refine ⟨j, by simp [hj], ?_⟩
  rw [e65]
  simp (maxSteps := 100000000) only [ivc, rgb, anf, vlen, vbuiltin, eq_self, Nat.reduceEqDiff, Nat.reduceLT, Nat.reduceLeDiff, Nat.reduceAdd, Nat.reduceBEq, Int.reduceNeg, reduceCtorEq, ↓reduceIte, tyb, L]
 | false =>
  rw [ha] at L
  simp only [Bool.false_eq_true, if_false] at L
  refine ⟨-1, by simp, ?_⟩
  rw [e65]
  simp (maxSteps := 100000000) only [ivc, rgb, anf, vlen, vbuiltin, eq_self, Nat.reduceEqDiff, Nat.reduceLT, Nat.reduceLeDiff, Nat.reduceAdd, Nat.reduceBEq, Int.reduceNeg, reduceCtorEq, ↓reduceIte, tyb, L]
theorem ckV_any  {l : List _} (hs : l.length ≤ 1000000000000000) (hf : ∀ v ∈ l, E.F 57 [vlA v] [] = some ((.bool (vbB v), []), True)) : E.F 54 [.ro 5 (l.map vlA), .fn (.func 57) [] []] [] = some ((.bool (l.any vbB), []), True) := by
 obtain ⟨j, hj, L⟩ := ckV_idx hs hf
 rw [e54]
 have hj' : decide (j ≥ 0) = l.any vbB := hj
 simp (maxSteps := 100000000) only [ivc, rgb, anf, nilR, eq_self, Nat.reduceEqDiff, Nat.reduceLT, Nat.reduceLeDiff, Nat.reduceAdd, Nat.reduceMul, Nat.reduceBEq, reduceCtorEq, ↓reduceIte, tyb, L, hj']
theorem ckVs_ev {l : List Vl} (hs : lenB l) : E.F 54 [.ro 5 (l.map vlA), .fn (.func 57) [] []] [] = some ((.bool (l.any vbB), []), True) := ckV_any hs fun _ _ => vbB_ev
theorem long_ev {l : List ByteArray} (hs : lenB l) : E.F 56 [.ro 1 (l.map AV.str)] [] = some ((.bool (l.any lgBW), []), True) := by
 have L := lgBs_ev hs
 rw [e56]
 simp (maxSteps := 100000000) only [ivc, rgb, anf, eq_self, Nat.reduceLT, Nat.reduceLeDiff, Nat.reduceBEq, reduceCtorEq, ↓reduceIte, L]
def byt (n : Int) : Bool := decide (0 ≤ n) && decide (n ≤ 255)
theorem byt_true {n : Int} (h : byt n = true) : 0 ≤ n /\ n ≤ 255 := by
 unfold byt at h
 rw [Bool.and_eq_true] at h
 exact ⟨of_decide_eq_true h.1, of_decide_eq_true h.2⟩
theorem byt_false {n : Int} (h : byt n = false) : n < 0 \/ 255 < n := by
 by_cases h1 : n < 0
 ·exact .inl h1
 ·refine .inr ?_
  by_cases h2 : n ≤ 255
  ·unfold byt at h
   rw [decide_eq_true (by omega), decide_eq_true h2] at h
   cases h
  ·omega
def packN (a b c d : Int) : Int := a + 256 * (b + 256 * (c + 256 * d))
def packM (a b c d : Int) : AV := if (byt a && byt b && byt c && byt d) = true then .tup [.int .u32 (packN a b c d), .int .i64 0] else .tup [.int .u32 0, .int .i64 3]
theorem u32id {y : Int} (h0 : 0 ≤ y) (h1 : y < 4294967296) : IntKind.u32.wrap y = y := by
 show y % 4294967296 = y
 exact Int.emod_eq_of_lt h0 h1
theorem u32nat {y : Int} (h0 : 0 ≤ y) (h1 : y < 4294967296) : (BitVec.ofInt IntKind.u32.bits y).toNat = y.toNat := by
 rw [BitVec.toNat_ofInt]
 show (y % ((2 ^ 32 : Nat) : Int)).toNat = y.toNat
 rw [Int.emod_eq_of_lt h0 (by omega)]
theorem and255 {y : Int} (h0 : 0 ≤ y) (h1 : y < 4294967296) : bitsI .and .u32 y 255 = y % 256 := by
 unfold bitsI
 simp only
 rw [BitVec.toNat_and]
 have e2 : (BitVec.ofInt IntKind.u32.bits 255).toNat = 2 ^ 8 - 1 := by decide
 rw [u32nat h0 h1, e2, Nat.and_two_pow_sub_one_eq_mod]
 rw [u32id (by omega) (by omega)]
 omega
theorem or32 {x y : Int} (k : Nat) (h0 : 0 ≤ x) (h1 : x < 2 ^ k) (h2 : 0 ≤ y) (h3 : y * 2 ^ k + x < 4294967296) : bitsI .or .u32 x (y * 2 ^ k) = x + y * 2 ^ k := by
 have hp : (0 : Int) < 2 ^ k := by have := Nat.two_pow_pos k; exact_mod_cast this
 have hy : 0 ≤ y * 2 ^ k := Int.mul_nonneg h2 (Int.le_of_lt hp)
 unfold bitsI
 simp only
 rw [BitVec.toNat_or, u32nat h0 (by omega), u32nat hy (by omega)]
 obtain ⟨a, rfl⟩ := Int.eq_ofNat_of_zero_le h0
 obtain ⟨b, rfl⟩ := Int.eq_ofNat_of_zero_le h2
 have e1 : ((b : Int) * 2 ^ k).toNat = 2 ^ k * b := by
  have : (b : Int) * 2 ^ k = ((2 ^ k * b : Nat) : Int) := by rw [Nat.mul_comm]; simp
  rw [this, Int.toNat_natCast]
 have hlt : a < 2 ^ k := by
  have : ((2 ^ k : Nat) : Int) = 2 ^ k := by simp
  omega
 rw [e1, Int.toNat_natCast, Nat.or_comm, <- Nat.two_pow_add_eq_or_of_lt hlt b]
 have e2 : (((2 ^ k * b + a : Nat)) : Int) = (b : Int) * 2 ^ k + a := by rw [Nat.mul_comm]; simp
 rw [e2, u32id (by omega) (by omega)]
 omega
theorem unpack_ev {w : Int} (h0 : 0 ≤ w) (h1 : w < 4294967296) : E.F 15 [.int .u32 w] [] = some ((.tup [.int .i64 (w % 256), .int .i64 (w / 256 % 256), .int .i64 (w / 65536 % 256), .int .i64 (w / 16777216)], []), True) := by
 rw [e15]
 have f1 : w.fdiv (2 ^ min 8 IntKind.u32.bits) = w / 256 := by
  show w.fdiv 256 = _
  exact Int.fdiv_eq_ediv_of_nonneg _ (by omega)
 have f2 : w.fdiv (2 ^ min 16 IntKind.u32.bits) = w / 65536 := by
  show w.fdiv 65536 = _
  exact Int.fdiv_eq_ediv_of_nonneg _ (by omega)
 have f3 : w.fdiv (2 ^ min 24 IntKind.u32.bits) = w / 16777216 := by
  show w.fdiv 16777216 = _
  exact Int.fdiv_eq_ediv_of_nonneg _ (by omega)
 have a1 := and255 h0 h1
 have a2 := and255 (y := w / 256) (by omega) (by omega)
 have a3 := and255 (y := w / 65536) (by omega) (by omega)
 have w4 : IntKind.i64.wrap (w / 16777216) = w / 16777216 := wrap_id (by omega) (by omega)
 have w5 : IntKind.i64.wrap (w % 256) = w % 256 := wrap_id (by omega) (by omega)
 have w6 : IntKind.i64.wrap (w / 256 % 256) = w / 256 % 256 := wrap_id (by omega) (by omega)
 have w7 : IntKind.i64.wrap (w / 65536 % 256) = w / 65536 % 256 := wrap_id (by omega) (by omega)
 simp (maxSteps := 100000000) only [ivc, rgb, anf, vop, nilR, eq_self, Nat.reduceEqDiff, Nat.reduceLT, Nat.reduceLeDiff, Nat.reduceBEq, Int.reduceLE, Int.reduceToNat, reduceCtorEq, ↓reduceIte, tyb, f1, f2, f3, a1, a2, a3, w4, w5, w6, w7]
theorem pack_ev {a b c d : Int} : E.F 13 [.int .i64 a, .int .i64 b, .int .i64 c, .int .i64 d] [] = some ((packM a b c d, []), True) := by
 rw [e13]
 unfold packM
 cases ha : byt a with
 | false =>
  rcases byt_false ha with h | h
  ·simp (maxSteps := 100000000) only [ivc, rgb, mpb, anf, vop, nilR, eq_self, Nat.reduceEqDiff, Nat.reduceLT, Nat.reduceLeDiff, Nat.reduceAdd, Nat.reduceBEq, Int.reduceLT, Int.reduceLE, Int.reduceToNat, reduceCtorEq, ↓reduceIte, tyb, l13_4, h]
  ·have h2 : ¬ a < 0 := by omega
   simp (maxSteps := 100000000) only [ivc, rgb, mpb, anf, vop, nilR, eq_self, Nat.reduceEqDiff, Nat.reduceLT, Nat.reduceLeDiff, Nat.reduceAdd, Nat.reduceBEq, Int.reduceLT, Int.reduceLE, Int.reduceToNat, reduceCtorEq, ↓reduceIte, tyb, l13_4, h, h2]
 | true =>
 obtain ⟨a1, a2⟩ := byt_true ha
 have a3 : ¬ a < 0 := by omega
 have a4 : ¬ 255 < a := by omega
 have a5 := u32id (y := a) (by omega) (by omega)
 cases hb : byt b with
 | false =>
  rcases byt_false hb with h | h
  ·simp (maxSteps := 100000000) only [ivc, rgb, mpb, anf, vop, nilR, eq_self, Nat.reduceEqDiff, Nat.reduceLT, Nat.reduceLeDiff, Nat.reduceAdd, Nat.reduceBEq, Int.reduceLT, Int.reduceLE, Int.reduceNeg, Int.reduceToNat, Int.reduceAdd, Int.reduceMul, reduceCtorEq, ↓reduceIte, tyb, l13_4, a3, a4, h]
  ·have h2 : ¬ b < 0 := by omega
   simp (maxSteps := 100000000) only [ivc, rgb, mpb, anf, vop, nilR, eq_self, Nat.reduceEqDiff, Nat.reduceLT, Nat.reduceLeDiff, Nat.reduceAdd, Nat.reduceBEq, Int.reduceLT, Int.reduceLE, Int.reduceNeg, Int.reduceToNat, Int.reduceAdd, Int.reduceMul, reduceCtorEq, ↓reduceIte, tyb, l13_4, a3, a4, h, h2]
 | true =>
 obtain ⟨b1, b2⟩ := byt_true hb
 have b3 : ¬ b < 0 := by omega
 have b4 : ¬ 255 < b := by omega
 cases hc : byt c with
 | false =>
  rcases byt_false hc with h | h
  ·simp (maxSteps := 100000000) only [ivc, rgb, mpb, anf, vop, nilR, eq_self, Nat.reduceEqDiff, Nat.reduceLT, Nat.reduceLeDiff, Nat.reduceAdd, Nat.reduceBEq, Int.reduceLT, Int.reduceLE, Int.reduceNeg, Int.reduceToNat, Int.reduceAdd, Int.reduceMul, reduceCtorEq, ↓reduceIte, tyb, l13_4, a3, a4, b3, b4, h]
  ·have h2 : ¬ c < 0 := by omega
   simp (maxSteps := 100000000) only [ivc, rgb, mpb, anf, vop, nilR, eq_self, Nat.reduceEqDiff, Nat.reduceLT, Nat.reduceLeDiff, Nat.reduceAdd, Nat.reduceBEq, Int.reduceLT, Int.reduceLE, Int.reduceNeg, Int.reduceToNat, Int.reduceAdd, Int.reduceMul, reduceCtorEq, ↓reduceIte, tyb, l13_4, a3, a4, b3, b4, h, h2]
 | true =>
 obtain ⟨c1, c2⟩ := byt_true hc
 have c3 : ¬ c < 0 := by omega
 have c4 : ¬ 255 < c := by omega
 cases hd : byt d with
 | false =>
  rcases byt_false hd with h | h
  ·simp (maxSteps := 100000000) only [ivc, rgb, mpb, anf, vop, nilR, eq_self, Nat.reduceEqDiff, Nat.reduceLT, Nat.reduceLeDiff, Nat.reduceAdd, Nat.reduceBEq, Int.reduceLT, Int.reduceLE, Int.reduceNeg, Int.reduceToNat, Int.reduceAdd, Int.reduceMul, reduceCtorEq, ↓reduceIte, tyb, l13_4, a3, a4, b3, b4, c3, c4, h]
  ·have h2 : ¬ d < 0 := by omega
   simp (maxSteps := 100000000) only [ivc, rgb, mpb, anf, vop, nilR, eq_self, Nat.reduceEqDiff, Nat.reduceLT, Nat.reduceLeDiff, Nat.reduceAdd, Nat.reduceBEq, Int.reduceLT, Int.reduceLE, Int.reduceNeg, Int.reduceToNat, Int.reduceAdd, Int.reduceMul, reduceCtorEq, ↓reduceIte, tyb, l13_4, a3, a4, b3, b4, c3, c4, h, h2]
 | true =>
 obtain ⟨d1, d2⟩ := byt_true hd
 have d3 : ¬ d < 0 := by omega
 have d4 : ¬ 255 < d := by omega
 simp (maxSteps := 100000000) only [ivc, rgb, mpb, anf, vop, nilR, eq_self, Nat.reduceEqDiff, Nat.reduceLT, Nat.reduceLeDiff, Nat.reduceAdd, Nat.reduceBEq, Int.reduceLT, Int.reduceLE, Int.reduceNeg, Int.reduceToNat, Int.reduceAdd, Int.reduceMul, reduceCtorEq, ↓reduceIte, tyb, l13_4, a3, a4, b3, b4, c3, c4, d3, d4]
 have w1 := u32id (y := a) (by omega) (by omega)
 have w2 := u32id (y := b) (by omega) (by omega)
 have w3 := u32id (y := c) (by omega) (by omega)
 have w4 := u32id (y := d) (by omega) (by omega)
 have m0 : 2 ^ min 0 IntKind.u32.bits = (2 ^ 0 : Int) := rfl
 have m1 : 2 ^ min 8 IntKind.u32.bits = (2 ^ 8 : Int) := rfl
 have m2 : 2 ^ min 16 IntKind.u32.bits = (2 ^ 16 : Int) := rfl
 have m3 : 2 ^ min 24 IntKind.u32.bits = (2 ^ 24 : Int) := rfl
 rw [w1, w2, w3, w4, m0, m1, m2, m3]
 have z0 := u32id (y := a * 2 ^ 0) (by omega) (by omega)
 have z1 := u32id (y := b * 2 ^ 8) (by omega) (by omega)
 have z2 := u32id (y := c * 2 ^ 16) (by omega) (by omega)
 have z3 := u32id (y := d * 2 ^ 24) (by omega) (by omega)
 rw [z0, z1, z2, z3]
 have o0 := or32 (x := 0) (y := a) 0 (by omega) (by omega) (by omega) (by omega)
 rw [o0]
 have o1 := or32 (x := 0 + a * 2 ^ 0) (y := b) 8 (by omega) (by omega) (by omega) (by omega)
 rw [o1]
 have o2 := or32 (x := 0 + a * 2 ^ 0 + b * 2 ^ 8) (y := c) 16 (by omega) (by omega) (by omega) (by omega)
 rw [o2]
 have o3 := or32 (x := 0 + a * 2 ^ 0 + b * 2 ^ 8 + c * 2 ^ 16) (y := d) 24 (by omega) (by omega) (by omega) (by omega)
 rw [o3]
 have e : 0 + a * 2 ^ 0 + b * 2 ^ 8 + c * 2 ^ 16 + d * 2 ^ 24 = packN a b c d := by unfold packN; omega
 rw [e]
def opZ : OpRow := ⟨0, 0, 0, 0, [], false, 0, false, false⟩
def opIn (n : Int) : Bool := decide (0 ≤ n) && decide (n < 24)
def rowW (n : Int) : OpRow := if opIn n = true then rowsT.getD n.toNat opZ else opZ
theorem opIn_true {n : Int} (h : opIn n = true) : 0 ≤ n /\ n < 24 := by
 unfold opIn at h
 rw [Bool.and_eq_true] at h
 exact ⟨of_decide_eq_true h.1, of_decide_eq_true h.2⟩
theorem opIn_false {n : Int} (h : opIn n = false) : n < 0 \/ 24 ≤ n := by
 by_cases h1 : n < 0
 ·exact .inl h1
 ·refine .inr ?_
  by_cases h2 : n < 24
  ·unfold opIn at h
   rw [decide_eq_true (by omega), decide_eq_true h2] at h
   cases h
  ·omega
theorem tab_get : ∀ i, i < 24 -> (tabA.drop (i * 9)).take 9 = rowA (rowsT.getD i opZ) := fun i h => by
 have : i = 0 \/ i = 1 \/ i = 2 \/ i = 3 \/ i = 4 \/ i = 5 \/ i = 6 \/ i = 7 \/ i = 8 \/ i = 9 \/ i = 10 \/ i = 11 \/ i = 12 \/ i = 13 \/ i = 14 \/ i = 15 \/ i = 16 \/ i = 17 \/ i = 18 \/ i = 19 \/ i = 20 \/ i = 21 \/ i = 22 \/ i = 23 := by omega
 rcases this with rfl | rfl | rfl | rfl | rfl | rfl | rfl | rfl | rfl | rfl | rfl | rfl | rfl | rfl | rfl | rfl | rfl | rfl | rfl | rfl | rfl | rfl | rfl | rfl <;> rfl
theorem g0 : G 0 = .rop (.agg tabA) 0 := rfl
theorem row_ev {n : Int} : E.F 34 [.int .i64 n] [] = some ((.tup [.agg (rowA (rowW n)), .bool (opIn n)], []), True) := by
 rw [e34]
 unfold rowW
 cases h : opIn n with
 | false =>
  rcases opIn_false h with h1 | h1
  ·simp (maxSteps := 100000000) only [ivc, rgb, mpb, anf, vop, nilR, salloc, eq_self, Nat.reduceEqDiff, Nat.reduceLT, Nat.reduceLeDiff, Nat.reduceAdd, Nat.reduceBEq, reduceCtorEq, ↓reduceIte, tyb, h1, rowA, opZ]
  ·have h2 : ¬ n < 0 := by omega
   simp (maxSteps := 100000000) only [ivc, rgb, mpb, anf, vop, nilR, salloc, eq_self, Nat.reduceEqDiff, Nat.reduceLT, Nat.reduceLeDiff, Nat.reduceAdd, Nat.reduceBEq, reduceCtorEq, ↓reduceIte, tyb, h1, h2, rowA, opZ]
 | true =>
  obtain ⟨h1, h2⟩ := opIn_true h
  have h3 : ¬ n < 0 := by omega
  have h4 : ¬ 24 ≤ n := by omega
  have t := tab_get n.toNat (by omega)
  have t2 : tabA.length = 216 := rfl
  have t3 : n.toNat * 9 + 9 ≤ 216 := by omega
  simp (maxSteps := 100000000) only [ivc, rgb, mpb, anf, nilR, salloc, eq_self, Nat.reduceEqDiff, Nat.reduceLT, Nat.reduceLeDiff, Nat.reduceAdd, Nat.reduceBEq, reduceCtorEq, ↓reduceIte, tyb, h1, h2, h3, h4, g0, t, t2, t3, rowA]
structure Shp where
 a : Int
 b : Int
 c : Int
 w : Bool
 x : List Int
 le : Int
structure Ins where
 at_ : Int
 op : Int
 a : Int
 b : Int
 c : Int
 x : List Int
 ra : Int
 l : List Int
 n : Int
def insA (i : Ins) : List AV := [.int .i64 i.at_, .int .i64 i.op, .int .i64 i.a, .int .i64 i.b, .int .i64 i.c, .ro 1 (i.x.map (.int .i64)), .int .i64 i.ra, .ro 1 (i.l.map (.int .i64)), .int .i64 i.n]
def formedM (i : Ins) (r : OpRow) : Bool :=
 if ((i.x.length : Int) != (r.x.length : Int)) || (!r.li && decide ((0 : Int) < i.l.length)) || (r.li && (((i.l.length : Int) != i.b) || decide (i.b < r.le) || decide (60 < i.b))) then false
 else if ((r.a == 0) && (i.a != 0)) || ((r.w == 0) && (((r.b == 0) && (i.b != 0)) || ((r.c == 0) && (i.c != 0)))) then false
 else if r.c != 7 then i.ra == -1
 else (i.c == 1) || ((i.c == 0) && (i.ra == -1))
theorem some_eq {x y : AV × HL} {φ : Prop} (h : x = y) (hφ : φ) : (some (x, φ) : Option ((AV × HL) × Prop)) = some (y, True) := by rw [h, eq_true hφ]
theorem formed_ev {i : Ins} {r : OpRow} : E.F 35 [.agg (insA i), .agg (rowA r)] [] = some ((.bool (formedM i r), []), True) := by
 rw [e35]
 obtain ⟨at_, op, a, b, c, x, ra, l, n⟩ := i
 obtain ⟨ra', rb, rc, rw, rx, rli, rle, rwr, rsa⟩ := r
 simp (maxSteps := 100000000) only [ivc, rgb, anf, vop, vlen, vbuiltin, nilR, salloc, eq_self, Nat.reduceEqDiff, Nat.reduceLT, Nat.reduceLeDiff, Nat.reduceAdd, Nat.reduceBEq, Int.reduceNeg, reduceCtorEq, ↓reduceIte, tyb, insA, rowA, formedM]
 generalize ((x.length : Int) != (rx.length : Int)) = p1
 generalize decide ((0 : Int) < l.length) = p2
 generalize ((l.length : Int) != b) = p3
 generalize decide (b < rle) = p4
 generalize decide (60 < b) = p5
 generalize (ra' == 0) = p6
 generalize (a != 0) = p7
 generalize (rw == 0) = p8
 generalize (rb == 0) = p9
 generalize (b != 0) = p10
 generalize (rc == 0) = p11
 generalize (c != 0) = p12
 generalize (rc != 7) = p13
 generalize (c == 1) = p14
 generalize (c == 0) = p15
 generalize (ra == -1) = p16
 split
 ·refine some_eq rfl ?_
  and_intros <;> (intros; first | (simp_all; done) | (cases p9 <;> cases p10 <;> simp_all))
 split
 ·refine some_eq rfl ?_
  and_intros <;> (intros; first | (simp_all; done) | (cases p9 <;> cases p10 <;> simp_all))
 split
 ·refine some_eq rfl ?_
  and_intros <;> (intros; first | (simp_all; done) | (cases p9 <;> cases p10 <;> simp_all))
 ·refine some_eq rfl ?_
  and_intros <;> (intros; first | (simp_all; done) | (cases p9 <;> cases p10 <;> simp_all))
end Go.Proofs.YtfdipcpmfoidoaaDoor

