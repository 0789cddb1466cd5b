/- CodeFlows: in a program that Check admits, each instruction's next places are beginnings of instructions or the end, its registers are the function's, and its list's registers are of class any (up to 12 functions of up to 200 words; else: that the program is awake). The package's tables hackamore/code.table, unicode/utf8.first and unicode/utf8.acceptRanges are as the program's text lays them. -/
import Derived.Test.YtfdipcpmfoidoaaDoorC4
/- The loops of the flows. -/
namespace Go.Proofs.YtfdipcpmfoidoaaDoor
open Go Go.Aw
set_option linter.unusedSimpArgs false
set_option linter.unusedVariables false
set_option maxRecDepth 100000
set_option maxHeartbeats 40000000
def nxV (p : Pq) (l : List Ins) (bn : Nat) (K j : Int) (nx : List Int) (t : Int) : List AV := [.junk, .ptr 60000 0 0, .sl 60001 0 bn, .ptr 60002 0 0, .ro 5 (p.fn.map fqA), .int .i64 p.fn.length, .int .i64 K, .ro 9 (l.map insV), .int .i64 l.length, .int .i64 j, .ro 1 (nx.map (.int .i64)), .int .i64 nx.length, .int .i64 t]
def nxH (f : Fq) (bs : List Bool) (i : Ins) : HL := [(60000, ⟨true, 5, [.agg (fqC f)]⟩), (60001, ⟨false, 1, bs.map AV.bool⟩), (60002, ⟨true, 9, [.agg (insA i)]⟩)]
theorem nx_loop {p : Pq} {f : Fq} {l : List Ins} {bs : List Bool} {i : Ins} {K j : Int} {nx : List Int} (hs : nx.length ≤ 1000000) (hn : ∀ n ∈ nx, 0 ≤ n /\ n < (bs.length : Int) /\ bs.getD n.toNat false = true) : ∀ (r a : List Int), nx = a ++ r ->
  ∃ k : Int, E.L 6 24 (nxV p l bs.length K j nx a.length) (nxH f bs i) = some ((.exit 6, nxV p l bs.length K j nx k, nxH f bs i), True) := by
 intro r
 induction r with
 | nil =>
  intro a h
  rw [List.append_nil] at h
  have q : ((a.length : Int) < nx.length) = False := eq_false (by rw [h]; omega)
  refine ⟨a.length, ?_⟩
  simp only [nxV]
  rw [l6_24]
  simp (maxSteps := 100000000) only [ivc, rgb, anf, nilR, eq_self, Nat.reduceEqDiff, Nat.reduceLT, Nat.reduceLeDiff, Nat.reduceAdd, Nat.reduceBEq, reduceCtorEq, ↓reduceIte, tyb, nxH, fqC, insA, q]
 | cons y r ih =>
  intro a h
  have hi' : ((a.length : Int) < nx.length) = True := eq_true (by rw [h]; simp; omega)
  have hw1 : IntKind.i64.wrap ((a.length : Int) + 1) = a.length + 1 := wrap_id (by omega) (by rw [h] at hs; simp at hs; omega)
  have hg := getD_map (f := AV.int .i64) (show nx[a.length]? = some y by rw [h]; simp)
  obtain ⟨n0, n1, n2⟩ := hn y (by rw [h]; simp)
  have hgb : (bs.map AV.bool).getD y.toNat .junk = .bool true := by
   have hlt : y.toNat < bs.length := by omega
   rw [List.getD_eq_getElem?_getD] at n2 ⊢
   rw [List.getElem?_map]
   rw [List.getElem?_eq_getElem hlt] at n2 ⊢
   simpa using n2
  have c0 : (y < 0) = False := eq_false (by omega)
  have c1 : ((bs.length : Int) ≤ y) = False := eq_false (by omega)
  have c2 : (0 ≤ y) = True := eq_true n0
  have c3 : (y < (bs.length : Int)) = True := eq_true n1
  obtain ⟨k, ih'⟩ := ih (a ++ [y]) (by rw [h]; simp)
  simp only [List.length_append, List.length_cons, List.length_nil, Int.natCast_add, Int.cast_ofNat_Int, Nat.zero_add, nxV, nxH, fqC, insA] at ih'
  refine ⟨k, ?_⟩
  simp only [nxV]
  rw [l6_24]
  simp (maxSteps := 100000000) only [ivc, rgb, anf, vop, vlen, vbuiltin, nilR, eq_self, Nat.reduceEqDiff, Nat.reduceLT, Nat.reduceLeDiff, Nat.reduceAdd, Nat.reduceBEq, reduceCtorEq, ↓reduceIte, tyb, nxH, fqC, insA, hi', hw1, hg, hgb, c0, c1, c2, c3, ih']
  exact some_true (by omega)
def bsV (p : Pq) (l : List Ins) (bn : Nat) (K t : Int) : List AV := [.ptr 60000 0 0, .ro 9 (l.map insV), .sl 60001 0 bn, .ro 5 (p.fn.map fqA), .int .i64 p.fn.length, .int .i64 K, .ro 9 (l.map insV), .int .i64 l.length, .int .i64 t]
def bsH (f : Fq) (bs : List Bool) : HL := [(60000, ⟨true, 5, [.agg (fqC f)]⟩), (60001, ⟨false, 1, bs.map AV.bool⟩)]
theorem bs_loop {p : Pq} {f : Fq} {l : List Ins} {K : Int} (n : Nat) (hs : l.length ≤ 1000000) (hn : ∀ i ∈ l, 0 ≤ i.at_ /\ i.at_ < (n : Int)) : ∀ (r a : List Ins) (bs : List Bool), bs.length = n -> l = a ++ r ->
  ∃ k : Int, E.L 6 16 (bsV p l n K a.length) (bsH f bs) = some ((.exit 2, bsV p l n K k, bsH f (begM r bs)), True) := by
 intro r
 induction r with
 | nil =>
  intro a bs hb h
  rw [List.append_nil] at h
  have q : ((a.length : Int) < l.length) = False := eq_false (by rw [h]; omega)
  refine ⟨a.length, ?_⟩
  simp only [bsV]
  rw [l6_16]
  simp (maxSteps := 100000000) only [ivc, rgb, anf, nilR, eq_self, Nat.reduceEqDiff, Nat.reduceLT, Nat.reduceLeDiff, Nat.reduceAdd, Nat.reduceBEq, reduceCtorEq, ↓reduceIte, tyb, bsH, fqC, q, begM, List.foldl_nil]
 | cons y r ih =>
  intro a bs hb h
  have hi' : ((a.length : Int) < l.length) = True := eq_true (by rw [h]; simp; omega)
  have hw1 : IntKind.i64.wrap ((a.length : Int) + 1) = a.length + 1 := wrap_id (by omega) (by rw [h] at hs; simp at hs; omega)
  have hg := getD_map (f := insV) (show l[a.length]? = some y by rw [h]; simp)
  simp only [insV, insA] at hg
  obtain ⟨n0, n1⟩ := hn y (by rw [h]; simp)
  have c2 : (0 ≤ y.at_) = True := eq_true n0
  have c3 : (y.at_ < (n : Int)) = True := eq_true n1
  have hgb : (bs.map AV.bool).getD y.at_.toNat .junk = .bool (bs.getD y.at_.toNat false) := row_get false (by omega)
  have hst : (bs.map AV.bool).set y.at_.toNat (.bool true) = (bs.set y.at_.toNat true).map AV.bool := by rw [List.map_set]
  obtain ⟨k, ih'⟩ := ih (a ++ [y]) (bs.set y.at_.toNat true) (by rw [List.length_set]; exact hb) (by rw [h]; simp)
  simp only [List.length_append, List.length_cons, List.length_nil, Int.natCast_add, Int.cast_ofNat_Int, Nat.zero_add, bsV, bsH, fqC] at ih'
  refine ⟨k, ?_⟩
  rw [show begM (y :: r) bs = begM r (bs.set y.at_.toNat true) from rfl]
  simp only [bsV]
  rw [l6_16]
  simp (maxSteps := 100000000) only [ivc, rgb, mpb, anf, vop, nilR, salloc, eq_self, Nat.reduceEqDiff, Nat.reduceLT, Nat.reduceLeDiff, Nat.reduceAdd, Nat.reduceBEq, reduceCtorEq, ↓reduceIte, tyb, bsH, fqC, hi', hw1, hg, c2, c3, hgb, hst, ih']
  exact some_true (by omega)
structure flOk (f : Fq) (bs : List Bool) (i : Ins) : Prop where
 nx : ∀ n ∈ nextM i, 0 ≤ n /\ n < (bs.length : Int) /\ bs.getD n.toNat false = true
 rd : ∀ r ∈ (usesM i).1, 0 ≤ r /\ r < f.cl.length
 wr : (usesM i).2 < f.cl.length
 li : ∀ r ∈ i.l, 0 ≤ r /\ r < f.cl.length /\ f.cl.getD r.toNat 0 = 2
 ll : i.l.length ≤ 80
theorem flR_no {f : Fq} {l : List Int} (h : ∀ r ∈ l, 0 ≤ r /\ r < f.cl.length) : l.any (flR f) = false := by
 rw [List.any_eq_false]
 intro r hr
 obtain ⟨h1, h2⟩ := h r hr
 unfold flR
 rw [decide_eq_false (show ¬ r < 0 by omega), decide_eq_false (show ¬ (f.cl.length : Int) ≤ r by omega)]
 simp
theorem flL_no {f : Fq} {l : List Int} (h : ∀ r ∈ l, 0 ≤ r /\ r < f.cl.length /\ f.cl.getD r.toNat 0 = 2) : l.any (flL f) = false := by
 rw [List.any_eq_false]
 intro r hr
 obtain ⟨h1, h2, h3⟩ := h r hr
 unfold flL
 rw [h3]
 simp
def fiV (p : Pq) (l : List Ins) (bn : Nat) (K t : Int) : List AV := [.junk, .ptr 60000 0 0, .sl 60001 0 bn, .ro 5 (p.fn.map fqA), .int .i64 p.fn.length, .int .i64 K, .ro 9 (l.map insV), .int .i64 l.length, .int .i64 t]
theorem fi_loop {p : Pq} {f : Fq} {l : List Ins} {bs : List Bool} {K : Int} (hs : l.length ≤ 1000000) (hok : ∀ i ∈ l, flOk f bs i) : ∀ (r a : List Ins), l = a ++ r ->
  ∃ k : Int, E.L 6 21 (fiV p l bs.length K a.length) (bsH f bs) = some ((.exit 4, fiV p l bs.length K k, bsH f bs), True) := by
 intro r
 induction r with
 | nil =>
  intro a h
  rw [List.append_nil] at h
  have q : ((a.length : Int) < l.length) = False := eq_false (by rw [h]; omega)
  refine ⟨a.length, ?_⟩
  simp only [fiV]
  rw [l6_21]
  simp (maxSteps := 100000000) only [ivc, rgb, anf, nilR, eq_self, Nat.reduceEqDiff, Nat.reduceLT, Nat.reduceLeDiff, Nat.reduceAdd, Nat.reduceBEq, reduceCtorEq, ↓reduceIte, tyb, bsH, fqC, q]
 | cons y r ih =>
  intro a h
  have hi' : ((a.length : Int) < l.length) = True := eq_true (by rw [h]; simp; omega)
  have hw1 : IntKind.i64.wrap ((a.length : Int) + 1) = a.length + 1 := wrap_id (by omega) (by rw [h] at hs; simp at hs; omega)
  have hg := getD_map (f := insV) (show l[a.length]? = some y by rw [h]; simp)
  simp only [insV, insA] at hg
  have ok := hok y (by rw [h]; simp)
  have L1 := next_ev (i := y)
  obtain ⟨j, L2⟩ := nx_loop (p := p) (f := f) (l := l) (bs := bs) (i := y) (K := K) (j := a.length) (nx := nextM y) (by have := next_len (i := y); omega) ok.nx (nextM y) [] rfl
  have L3 := uses_ev (i := y) ok.ll
  have L4 := flR_any (f := f) (l := (usesM y).1) (by have := uses_len (i := y) ok.ll; omega) (fun r _ => flR_ev)
  have L5 := flL_any (f := f) (l := y.l) (by have := ok.ll; omega) (fun r hr => flL_ev (ok.li r hr).1 (ok.li r hr).2.1)
  rw [flR_no ok.rd] at L4
  rw [flL_no ok.li] at L5
  have c1 : ((f.cl.length : Int) ≤ (usesM y).2) = False := eq_false (by have := ok.wr; omega)
  obtain ⟨k, ih'⟩ := ih (a ++ [y]) (by rw [h]; simp)
  simp only [List.length_append, List.length_cons, List.length_nil, Int.natCast_add, Int.cast_ofNat_Int, Nat.zero_add, fiV, bsH, fqC] at ih'
  simp only [List.length_nil, Int.natCast_zero, nxV, nxH, fqC, insA] at L2
  simp only [insA] at L1 L3
  refine ⟨k, ?_⟩
  simp only [fiV]
  rw [l6_21]
  simp (maxSteps := 100000000) only [ivc, rgb, mpb, anf, vop, vlen, vbuiltin, nilR, salloc, eq_self, Nat.reduceEqDiff, Nat.reduceLT, Nat.reduceLeDiff, Nat.reduceAdd, Nat.reduceMul, Nat.reduceBEq, reduceCtorEq, ↓reduceIte, tyb, bsH, fqC, hi', hw1, hg, L1, L2, L3, L4, L5, c1, ih']
  exact some_true (by omega)
def beg1 (n : Nat) : List Bool := List.replicate (n + 1) false
theorem al_len {f : Fq} (hs : f.ws.length ≤ 20000) : (alW f).1.length ≤ 1000000 := by
 have := allM_len (ws := f.ws) f.ws.length 0 [] (by simp) (by omega)
 rw [Int.natCast_zero] at this
 unfold alW
 omega
theorem fl_ok {p : Pq} {f : Fq} (hs : f.ws.length ≤ 20000) (h : (fnCk p f).2 = 0) : ∀ i ∈ (alW f).1, flOk f (begM (alW f).1 (beg0 f.ws.length)) i := by
 obtain ⟨h1, h2⟩ := fnCk_ok h
 have hc := al_chain h1
 intro i hi
 obtain ⟨hg, hw⟩ := h2 i hi
 obtain ⟨u1, u2⟩ := flow_uses hg hw
 refine ⟨fun n hn => ?_, u1, u2, flow_list hg hw, by have := hg.ll; omega⟩
 have := okN_beg hc (flow_next (by omega) hc hi hg hw n hn)
 rw [begM_len, beg0_len]
 exact ⟨this.1, by have := this.2.1; omega, this.2.2⟩
theorem fo_loop {p : Pq} (hb : bP p) (hu : ∀ f ∈ p.fn, ∀ x ∈ f.ws, u32r x) (hw : ∀ f ∈ p.fn, f.ws.length ≤ 200) (hok : ∀ f ∈ p.fn, (fnCk p f).2 = 0) : ∀ (r a : List Fq) (b : AV), b = .junk \/ b = .bool false -> p.fn = a ++ r ->
  ∃ (b' : AV) (k : Int), (b' = .junk \/ b' = .bool false) /\ E.L 6 8 [b, .ro 5 (p.fn.map fqA), .int .i64 p.fn.length, .int .i64 a.length] [] = some ((.exit 0, [b', .ro 5 (p.fn.map fqA), .int .i64 p.fn.length, .int .i64 k], []), True) := by
 have hs : p.fn.length ≤ 1000000000000000 := hb.fn
 intro r
 induction r with
 | nil =>
  intro a b hbb h
  rw [List.append_nil] at h
  have q : ((a.length : Int) < p.fn.length) = False := eq_false (by rw [h]; omega)
  rcases hbb with rfl | rfl
  ·refine ⟨.junk, a.length, .inl rfl, ?_⟩
   rw [l6_8]
   simp (maxSteps := 100000000) only [ivc, rgb, anf, nilR, eq_self, Nat.reduceEqDiff, Nat.reduceLT, Nat.reduceBEq, reduceCtorEq, ↓reduceIte, tyb, q]
  ·refine ⟨.bool false, a.length, .inr rfl, ?_⟩
   rw [l6_8]
   simp (maxSteps := 100000000) only [ivc, rgb, anf, nilR, eq_self, Nat.reduceEqDiff, Nat.reduceLT, Nat.reduceBEq, reduceCtorEq, ↓reduceIte, tyb, q]
 | cons y r ih =>
  intro a b hbb h
  have hm : y ∈ p.fn := by rw [h]; simp
  have hi' : ((a.length : Int) < p.fn.length) = True := eq_true (by rw [h]; simp; omega)
  have hw1 : IntKind.i64.wrap ((a.length : Int) + 1) = a.length + 1 := wrap_id (by omega) (by rw [h] at hs; simp at hs; omega)
  have hg := getD_map (f := fqA) (show p.fn[a.length]? = some y by rw [h]; simp)
  simp only [fqA, fqC] at hg
  have h200 := hw y hm
  have L1 := all_ev (ws := y.ws) (by omega) (hu y hm)
  change E.F _ _ _ = some ((.tup [.ro 9 ((alW y).1.map insV), .int .i64 (alW y).2.1, .int .i64 (alW y).2.2], []), True) at L1
  obtain ⟨e2, _⟩ := fnCk_ok (hok y hm)
  have e1 : (alW y).2.1 = 0 := (allM_err (readM y.ws) y.ws.length y.ws.length 0 []).1 e2
  rw [e1, e2] at L1
  have hc := al_chain e2
  have hw2 : IntKind.i64.wrap ((y.ws.length : Int) + 1) = y.ws.length + 1 := wrap_id (by omega) (by omega)
  have ht : ((y.ws.length : Int) + 1).toNat = y.ws.length + 1 := by omega
  have hrep : AV.bool false :: List.replicate y.ws.length (AV.bool false) = (beg1 y.ws.length).map AV.bool := by rw [beg1, List.map_replicate]; rfl
  have hgr : ((beg1 y.ws.length).map AV.bool).getD y.ws.length .junk = .bool ((beg1 y.ws.length).getD y.ws.length false) := row_get false (by simp [beg1])
  have hst : ((beg1 y.ws.length).map AV.bool).set y.ws.length (.bool true) = (beg0 y.ws.length).map AV.bool := by rw [beg0, List.map_set, beg1]
  have c0 : (0 ≤ (y.ws.length : Int) + 1) = True := eq_true (by omega)
  have c1 : ((y.ws.length : Int) + 1 ≤ 281474976710656) = True := eq_true (by omega)
  have c2 : ((y.ws.length : Int) < (y.ws.length : Int) + 1) = True := eq_true (by omega)
  have c3 : (0 ≤ (y.ws.length : Int)) = True := eq_true (by omega)
  obtain ⟨j1, L2⟩ := bs_loop (p := p) (f := y) (l := (alW y).1) (K := a.length) (y.ws.length + 1) (al_len (by omega)) (fun i hi => by have := (chn_mem hc).2 i hi; omega) (alW y).1 [] (beg0 y.ws.length) beg0_len rfl
  obtain ⟨j2, L3⟩ := fi_loop (p := p) (f := y) (l := (alW y).1) (bs := begM (alW y).1 (beg0 y.ws.length)) (K := a.length) (al_len (by omega)) (fl_ok (by omega) (hok y hm)) (alW y).1 [] rfl
  rw [begM_len, beg0_len] at L3
  obtain ⟨b', k, hb', ih'⟩ := ih (a ++ [y]) .junk (.inl rfl) (by rw [h]; simp)
  simp only [List.length_append, List.length_cons, List.length_nil, Int.natCast_add, Int.cast_ofNat_Int, Nat.zero_add] at ih'
  simp only [List.length_nil, Int.cast_ofNat_Int, bsV, bsH, fqC] at L2
  simp only [List.length_nil, Int.cast_ofNat_Int, fiV, bsH, fqC] at L3
  refine ⟨b', k, hb', ?_⟩
  rcases hbb with rfl | rfl
  all_goals
   rw [l6_8]
   simp (maxSteps := 100000000) only [ivc, rgb, mpb, anf, vop, vlen, vbuiltin, nilR, salloc, eq_self, Nat.reduceEqDiff, Nat.reduceLT, Nat.reduceAdd, Nat.reduceBEq, reduceCtorEq, ↓reduceIte, tyb, hi', hw1, hw2, ht, hrep, hgr, hst, c0, c1, c2, c3, hg, L1, L2, L3, ih']
   exact some_true (by omega)
theorem flows_ev {p : Pq} (hb : bP p) (hu : ∀ f ∈ p.fn, ∀ x ∈ f.ws, u32r x) : E.F 6 [pqA p] [] = some ((.bool true, []), True) := by
 have L1 := few_ev hb (n := 200)
 have L2 := awake_ev
 cases hf : fewW 200 p with
 | false =>
  rw [hf] at L1
  rw [e6, show pqA p = .agg (pqC p) from rfl]
  rw [show pqA p = .agg (pqC p) from rfl] at L1
  simp only [pqC] at L1
  simp (maxSteps := 100000000) only [ivc, rgb, mpb, anf, vop, salloc, eq_self, Nat.reduceEqDiff, Nat.reduceLT, Nat.reduceLeDiff, Nat.reduceAdd, Nat.reduceBEq, reduceCtorEq, ↓reduceIte, tyb, pqC, L1, L2]
 | true =>
  rw [hf] at L1
  have fp := few_parts hf
  have L3 := check_ev hb hu fp
  rw [show pqA p = .agg (pqC p) from rfl] at L1 L3 ⊢
  simp only [pqC, fltA] at L1 L3
  by_cases hk : (ckM p).2 = 0
  ·obtain ⟨b', k, hb', L4⟩ := fo_loop hb hu fp.ws (ckM_ok hk) p.fn [] (.bool false) (.inr rfl) rfl
   simp only [List.length_nil, Int.natCast_zero] at L4
   rw [hk] at L3
   rcases hb' with rfl | rfl
   all_goals
    rw [e6]
    simp (maxSteps := 100000000) only [ivc, rgb, mpb, anf, vop, vlen, vbuiltin, nilR, salloc, eq_self, Nat.reduceEqDiff, Nat.reduceLT, Nat.reduceLeDiff, Nat.reduceAdd, Nat.reduceBEq, reduceCtorEq, ↓reduceIte, tyb, pqC, L1, L2, L3, L4]
    try done
  ·have hq : ((ckM p).2 != 0) = true := by simp [hk]
   rw [e6]
   simp (maxSteps := 100000000) only [ivc, rgb, mpb, anf, vop, nilR, salloc, eq_self, Nat.reduceEqDiff, Nat.reduceLT, Nat.reduceLeDiff, Nat.reduceAdd, Nat.reduceBEq, reduceCtorEq, ↓reduceIte, tyb, pqC, L1, L2, L3, hq]
end Go.Proofs.YtfdipcpmfoidoaaDoor

namespace Go.Proofs.YtfdipcpmfoidoaaDoor
open Go Go.Aw
set_option linter.unusedSimpArgs false
set_option linter.unusedVariables false
set_option maxRecDepth 100000
theorem flows_lifted (os : Os) (started : os.Started) (H : Type) (enc : TypeId × Value -> H) :
  ReturnsInHanded {} Tryd.checked os 6 .any (fun w args => (Rows.codeFlowsSpec.pre enc Tryd.prog Tryd.f6 [] false w args /\ laidMetH Tryd.prog laidL w) /\ sizedMet enc Tryd.prog Tryd.f6 (OpenSpec.ofChange Rows.codeFlowsSpec) false w args)
   (Rows.codeFlowsSpec.post enc Tryd.prog Tryd.f6 false true false false) := by
 refine returnsInHanded_of_change_and (C := Tryd.checked) (X := fun w _ => laidMetH Tryd.prog laidL w) (fun _ _ _ hh h => h.of_heap hh) own started (by kernel_rfl) Tryd.func6
  (ChangeSpec.witness_shaped (enc := enc) (C := Tryd.checked) (os := os) (X := fun w _ => laidMetH Tryd.prog laidL w) false (World.laidAll Tryd.prog os laidL) #[.agg #[.slice none 0 0, .slice none 0 0, .slice none 0 0, .slice none 0 0, .slice none 0 0, .slice none 0 0, .slice none 0 0, .slice none 0 0, .slice none 0 0]] 8 (World.laidAll_os _ _ _) (World.shaped_of_ZipB (by kernel_rfl) (by kernel_rfl)) (by kernel_rfl) (by kernel_rfl) (by kernel_rfl) (door_met os _)) ?_
 intro W base args ds gs before hval hW _ hsz hL _
 refine law_contractG (G := G) (A := AN) evok laidOut (fn := Tryd.f6) (l := [67, 61, 75, 9, 3, 25, 24, 35, 73, 115, 62, 63, 106, 64, 112, 110, 65, 159]) (by kernel_rfl) (ts := [67]) (by rw [Tryd.params6]) (by kernel_rfl) (by kernel_rfl) (tb := 4) (by kernel_rfl) Tryd.underlying4 rfl (tab_laid hL) hval hW hsz (fun ds h => ?_) fun nx hl ht => ?_
 ·match ds, h with
  | [a], _ => exact ⟨rfl, rfl, rfl⟩
 ·match nx, hl with
  | [a], _ =>
   obtain ⟨p, ⟨hb, hu⟩, ha⟩ := prog_of (ht 0 67 a rfl rfl)
   refine ⟨[], ?_⟩
   have := flows_ev hb hu
   show E.F 6 [argA Tryd.prog 67 a.2] [] = _
   rw [ha]
   simp only [argA, Tryd.underlying67]
   exact this
theorem flows_holds : Rows.CodeFlowsSaid :=
 OpenClaim.holds_of_wide 6 Tryd.f6 rfl rfl rfl rfl rfl rfl rfl ⟨rfl, rfl, rfl, rfl, rfl⟩ rfl rfl rfl rfl rfl (by kernel_rfl) Tryd.func6 (by kernel_rfl)
  (of_decide_eq_true (by kernel_rfl)) (by unfold Func.isWrapper; first | (rw [if_pos (by decide +kernel)]; kernel_rfl) | (rw [if_neg (by decide +kernel)]; exact ⟨rfl, rfl⟩))
  (fun os started H enc _ => flows_lifted os started H enc)
theorem flows_card : Rows.CodeFlowsCardSaid :=
 Claim7.holds_tied_plain_at .later [] [.data, .widerDeep, .pinned] true (true, "09bf8b756bc8d9dfa2faf4825854ee5bd48bd8245ec705a19d468fbba49fe3eb") false
  flows_holds (fun _ h => by cases h) (by kernel_rfl) (fun _ h => by cases h) codeFlows_row_tie rfl ⟨rfl, rfl⟩ (by kernel_rfl) rfl
  (fun f fn hf hfn => by
   obtain rfl : f = 6 := Option.some.inj ((show Tryd.prog.funcNamed "hackamore/hackamorelaw24.CodeFlows" = some 6 by kernel_rfl).symm.trans hf) |>.symm
   obtain rfl : fn = Tryd.f6 := (Option.some.inj (Tryd.func6.symm.trans hfn)).symm
   exact ⟨by kernel_rfl, fun j t ht => by
    rw [Tryd.params6] at ht
    have hm : t ∈ [67] := by simpa using Array.mem_of_getElem? ht
    have hall : ([67].all fun u => !Tryd.prog.wantsStandIn u) = true := by kernel_rfl
    exact (show Tryd.prog.wantsStandIn t = false by simpa using List.all_eq_true.1 hall t hm)⟩)
  (by kernel_rfl)
end Go.Proofs.YtfdipcpmfoidoaaDoor

