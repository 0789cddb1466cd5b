/- A part of the proof of CodeFlowsCardSaid. -/
import Derived.Test.YtfdipcpmfoidoaaDoorC3
/- Next, Safe, what is used. -/
namespace Go.Proofs.YtfdipcpmfoidoaaDoor
open Go Go.Aw
set_option linter.unusedSimpArgs false
set_option linter.unusedVariables false
set_option maxRecDepth 100000
set_option maxHeartbeats 40000000
def isR (n : Int) : Bool := (n == 2) || (n == 3) || (n == 4)
theorem isR_ev {n : Int} : E.F 43 [.int .i64 n] [] = some ((.bool (isR n), []), True) := by
 rw [e43]
 unfold isR
 simp (maxSteps := 100000000) only [ivc, rgb, anf, nilR, eq_self, Nat.reduceEqDiff, Nat.reduceLT, Nat.reduceLeDiff, Nat.reduceBEq, reduceCtorEq, ↓reduceIte, tyb]
def wideW (i : Ins) : Int := IntKind.i64.wrap (i.b + IntKind.i64.wrap (256 * i.c))
theorem wide_ev {i : Ins} : E.F 46 [.agg (insA i)] [] = some ((.int .i64 (wideW i), []), True) := by
 simp only [insA]
 rw [e46]
 unfold wideW
 simp (maxSteps := 100000000) only [ivc, rgb, anf, vop, nilR, salloc, eq_self, Nat.reduceEqDiff, Nat.reduceLT, Nat.reduceLeDiff, Nat.reduceAdd, Nat.reduceBEq, reduceCtorEq, ↓reduceIte, tyb]
theorem safe_ev {i : Ins} : E.F 27 [.agg (insA i)] [] = some ((.bool (opIn i.op && (rowW i.op).sa), []), True) := by
 have ro := row_ev (n := i.op)
 simp only [insA]
 simp only [rowA] at ro
 rw [e27]
 simp (maxSteps := 100000000) only [ivc, rgb, mpb, anf, vop, salloc, eq_self, Nat.reduceEqDiff, Nat.reduceLT, Nat.reduceLeDiff, Nat.reduceAdd, Nat.reduceBEq, reduceCtorEq, ↓reduceIte, tyb, ro]
def nxW (i : Ins) : Int := IntKind.i64.wrap (i.at_ + i.n)
def cmpM (a b : Int) : List Int := if a = b then [a] else [a, b]
def nextM (i : Ins) : List Int :=
 if ((i.op == 20) || (i.op == 21) || (i.op == 22)) = true then []
 else if (i.op == 18) = true then [wideW i]
 else if (i.op == 19) = true then cmpM (nxW i) (wideW i)
 else if 0 ≤ i.ra then cmpM (nxW i) i.ra
 else [nxW i]
theorem next_ev {i : Ins} : E.F 25 [.agg (insA i)] [] = some ((.ro 1 ((nextM i).map (.int .i64)), []), True) := by
 have wd := wide_ev (i := i)
 have c1 := cmp1 (a := nxW i)
 unfold nextM
 simp only [insA] at wd ⊢
 rw [e25]
 have hnx : IntKind.i64.wrap (i.at_ + i.n) = nxW i := rfl
 cases h20 : (i.op == 20) with
 | true => simp (maxSteps := 100000000) only [ivc, rgb, anf, vop, nilR, salloc, eq_self, Nat.reduceEqDiff, Nat.reduceLT, Nat.reduceLeDiff, Nat.reduceAdd, Nat.reduceBEq, ↓reduceIte, tyb, hnx, h20]
 | false =>
 cases h21 : (i.op == 21) with
 | true => simp (maxSteps := 100000000) only [ivc, rgb, anf, vop, nilR, salloc, eq_self, Nat.reduceEqDiff, Nat.reduceLT, Nat.reduceLeDiff, Nat.reduceAdd, Nat.reduceBEq, ↓reduceIte, tyb, hnx, h20, h21]
 | false =>
 cases h22 : (i.op == 22) with
 | true => simp (maxSteps := 100000000) only [ivc, rgb, anf, vop, nilR, salloc, eq_self, Nat.reduceEqDiff, Nat.reduceLT, Nat.reduceLeDiff, Nat.reduceAdd, Nat.reduceBEq, ↓reduceIte, tyb, hnx, h20, h21, h22]
 | false =>
 cases h18 : (i.op == 18) with
 | true => simp (maxSteps := 100000000) only [ivc, rgb, mpb, anf, vop, nilR, salloc, eq_self, Nat.reduceEqDiff, Nat.reduceLT, Nat.reduceLeDiff, Nat.reduceAdd, Nat.reduceBEq, ↓reduceIte, tyb, hnx, wd, h20, h21, h22, h18]
 | false =>
 cases h19 : (i.op == 19) with
 | true =>
  have n19 : (i.op != 19) = false := by simp [h19, bne]
  by_cases hc : nxW i = wideW i
  ·have C := cmpS (a := nxW i)
   have cm : cmpM (nxW i) (wideW i) = [nxW i] := by unfold cmpM; rw [if_pos hc]
   have b1 : (wideW i != nxW i) = false := by simp [hc]
   rw [<- hc] at wd b1 cm ⊢
   simp (maxSteps := 100000000) only [ivc, rgb, mpb, anf, vop, nilR, salloc, sappend, eq_self, Nat.reduceEqDiff, Nat.reduceLT, Nat.reduceLeDiff, Nat.reduceAdd, Nat.reduceMul, Nat.reduceBEq, ↓reduceIte, tyb, hnx, wd, h20, h21, h22, h18, h19, cm, C]
  ·have C := cmp2 hc
   have cm : cmpM (nxW i) (wideW i) = [nxW i, wideW i] := by unfold cmpM; rw [if_neg hc]
   have b1 : (wideW i != nxW i) = true := by simp [Ne.symm hc]
   simp (maxSteps := 100000000) only [ivc, rgb, mpb, anf, vop, nilR, salloc, sappend, eq_self, Nat.reduceEqDiff, Nat.reduceLT, Nat.reduceLeDiff, Nat.reduceAdd, Nat.reduceMul, Nat.reduceBEq, ↓reduceIte, tyb, hnx, wd, h20, h21, h22, h18, h19, cm, C]
 | false =>
  have n19 : (i.op != 19) = true := by simp [h19, bne]
  by_cases hr : 0 ≤ i.ra
  ·have hr' := eq_true hr
   by_cases hc : nxW i = i.ra
   ·have C := cmpS (a := nxW i)
    have cm : cmpM (nxW i) (i.ra) = [nxW i] := by unfold cmpM; rw [if_pos hc]
    have b1 : (i.ra != nxW i) = false := by simp [hc]
    rw [<- hc] at b1 cm hr' ⊢
    simp (maxSteps := 100000000) only [ivc, rgb, anf, vop, nilR, salloc, sappend, eq_self, Nat.reduceEqDiff, Nat.reduceLT, Nat.reduceLeDiff, Nat.reduceAdd, Nat.reduceMul, Nat.reduceBEq, ↓reduceIte, tyb, hnx, h20, h21, h22, h18, h19, hr', cm, C]
   ·have C := cmp2 hc
    have cm : cmpM (nxW i) (i.ra) = [nxW i, i.ra] := by unfold cmpM; rw [if_neg hc]
    have b1 : (i.ra != nxW i) = true := by simp [Ne.symm hc]
    simp (maxSteps := 100000000) only [ivc, rgb, anf, vop, nilR, salloc, sappend, eq_self, Nat.reduceEqDiff, Nat.reduceLT, Nat.reduceLeDiff, Nat.reduceAdd, Nat.reduceMul, Nat.reduceBEq, ↓reduceIte, tyb, hnx, h20, h21, h22, h18, h19, hr', cm, C]
  ·have hr' := eq_false hr
   simp (maxSteps := 100000000) only [ivc, rgb, anf, vop, nilR, salloc, eq_self, Nat.reduceEqDiff, Nat.reduceLT, Nat.reduceLeDiff, Nat.reduceAdd, Nat.reduceMul, Nat.reduceBEq, ↓reduceIte, tyb, hnx, h20, h21, h22, h18, h19, hr', c1]
def usesM (i : Ins) : List Int × Int :=
 if opIn i.op = true then
  ((if (rowW i.op).wr = true then [] else if isR (rowW i.op).a = true then [i.a] else []) ++ ((if isR (rowW i.op).b = true then [i.b] else []) ++ ((if isR (rowW i.op).c = true then [i.c] else []) ++ (if (rowW i.op).li = true then i.l else []))),
   if (rowW i.op).wr = true then i.a else -1)
 else ([], -1)
theorem uses_ev {i : Ins} (hl : i.l.length ≤ 80) : E.F 22 [.agg (insA i)] [] = some ((.tup [.ro 1 ((usesM i).1.map (.int .i64)), .int .i64 (usesM i).2], []), True) := by
 have ro := row_ev (n := i.op)
 have ia := isR_ev (n := (rowW i.op).a)
 have ib := isR_ev (n := (rowW i.op).b)
 have ic := isR_ev (n := (rowW i.op).c)
 unfold usesM
 simp only [insA]
 simp only [rowA] at ro
 cases h : opIn i.op with
 | false =>
  rw [h] at ro
  rw [e22]
  simp (maxSteps := 100000000) only [ivc, rgb, mpb, anf, vop, salloc, eq_self, Nat.reduceEqDiff, Nat.reduceLT, Nat.reduceLeDiff, Nat.reduceAdd, Nat.reduceBEq, Int.reduceNeg, ↓reduceIte, tyb, ro]
 | true =>
 rw [h] at ro
 generalize rowW i.op = r at *
 cases hb : isR r.b <;> cases hc : isR r.c <;> cases hli : r.li <;> cases hw : r.wr <;> cases ha : isR r.a <;> rw [ha] at ia <;> rw [hb] at ib <;> rw [hc] at ic
 all_goals
  rw [e22]
  simp (maxSteps := 100000000) only [ivc, rgb, mpb, anf, vop, salloc, sappend, eq_self, Nat.reduceEqDiff, Nat.reduceLT, Nat.reduceLeDiff, Nat.reduceAdd, Nat.reduceMul, Nat.reduceBEq, Int.reduceNeg, ↓reduceIte, tyb, ro, ia, ib, ic, hw, hli]
 all_goals first
  | exact some_true (by omega)
  | (rw [List.take_of_length_le (by simp; omega)]; exact some_true (by omega))
theorem next_len {i : Ins} : (nextM i).length ≤ 2 := by
 unfold nextM cmpM
 repeat' split
 all_goals simp
theorem uses_len {i : Ins} (h : i.l.length ≤ 80) : (usesM i).1.length ≤ 100 := by
 unfold usesM
 split
 ·simp only [List.length_append]
  repeat' split
  all_goals simp
  all_goals omega
 ·simp
def inH (p : Pq) (f : Fq) (i : Ins) (m : List (Int × Bool)) : HL := [(60000, ⟨true, 15, [.agg (ckC p f 100000)]⟩), (60001, ⟨true, 9, [.agg (insA i)]⟩), (100000, mpOb m)]
def inX (p : Pq) (f : Fq) (m : List (Int × Bool)) (z : Int × Int) : Bool := partW p f m z.1 z.2
theorem inx_loop {p : Pq} {f : Fq} {i : Ins} {m : List (Int × Bool)} {xs : List Int} (hl : xs.length = i.x.length) (hs : xs.length ≤ 1000) : ∀ (r a : List Int) (r' a' : List Int), xs = a ++ r -> i.x = a' ++ r' -> a.length = a'.length -> (∀ x ∈ r', 0 ≤ x) ->
  ∃ k : Int, E.L 72 6 [.ptr 60000 0 0, .ptr 60001 0 0, .bool false, .ro 1 (xs.map (AV.int .i64)), .int .i64 xs.length, .int .i64 a.length] (inH p f i m) =
   some ((if (r.zip r').all (inX p f m) then .exit 0 else .ret, [.ptr 60000 0 0, .ptr 60001 0 0, .bool false, .ro 1 (xs.map (AV.int .i64)), .int .i64 xs.length, .int .i64 k], inH p f i m), True) := by
 intro r
 induction r with
 | nil =>
  intro a r' a' h h' hm hr
  rw [List.append_nil] at h
  have q : ((a.length : Int) < xs.length) = False := eq_false (by rw [h]; omega)
  refine ⟨a.length, ?_⟩
  rw [l72_6]
  simp (maxSteps := 100000000) only [ivc, rgb, mpb, anf, nilR, eq_self, Nat.reduceEqDiff, Nat.reduceLT, Nat.reduceLeDiff, Nat.reduceAdd, Nat.reduceBEq, reduceCtorEq, ↓reduceIte, tyb, inH, ckC, pqC, fqC, insA, mpOb_eq, q]
 | cons y r ih =>
  intro a r' a' h h' hm hr
  have hpos : 0 < r'.length := by
   have e1 := congrArg List.length h
   have e2 := congrArg List.length h'
   simp at e1 e2; omega
  obtain ⟨z, r', rfl⟩ := List.exists_cons_of_length_pos hpos
  have hi' : ((a.length : Int) < xs.length) = True := eq_true (by rw [h]; simp; omega)
  have hib : ((a.length : Int) < i.x.length) = True := eq_true (by rw [<- hl]; exact of_eq_true hi')
  have hw1 : IntKind.i64.wrap ((a.length : Int) + 1) = a.length + 1 := wrap_id (by omega) (by rw [h] at hs; simp at hs; omega)
  have hg := getD_map (f := AV.int .i64) (show xs[a.length]? = some y by rw [h]; simp)
  have hg' := getD_map (f := AV.int .i64) (show i.x[a.length]? = some z by rw [h', hm]; simp)
  have L := part_ev (p := p) (f := f) (c := y) (n := z) (m := m) (hr z (by simp))
  simp only [ckC, pqC, fqC, mpOb_eq, List.cons_append, List.nil_append] at L
  cases hp : partW p f m y z with
  | true =>
   rw [hp] at L
   obtain ⟨k, ih'⟩ := ih (a ++ [y]) r' (a' ++ [z]) (by rw [h]; simp) (by rw [h']; simp) (by simp [hm]) (fun x hx => hr x (by simp [hx]))
   simp only [List.length_append, List.length_cons, List.length_nil, Int.natCast_add, Int.cast_ofNat_Int, Nat.zero_add, inH, ckC, pqC, fqC, insA, mpOb_eq, List.cons_append, List.nil_append] at ih'
   refine ⟨k, ?_⟩
   have hx : inX p f m (y, z) = true := hp
   rw [l72_6]
   simp (maxSteps := 100000000) only [ivc, rgb, mpb, anf, vop, nilR, eq_self, Nat.reduceEqDiff, Nat.reduceLT, Nat.reduceLeDiff, Nat.reduceAdd, Nat.reduceMul, Nat.reduceBEq, reduceCtorEq, ↓reduceIte, tyb, inH, ckC, pqC, fqC, insA, mpOb_eq, hi', hib, hw1, hg, hg', L, ih', hx]
   exact some_true (by omega)
  | false =>
   rw [hp] at L
   refine ⟨a.length, ?_⟩
   have hx : inX p f m (y, z) = false := hp
   rw [l72_6]
   simp (maxSteps := 100000000) only [ivc, rgb, mpb, anf, vop, nilR, eq_self, Nat.reduceEqDiff, Nat.reduceLT, Nat.reduceLeDiff, Nat.reduceAdd, Nat.reduceMul, Nat.reduceBEq, reduceCtorEq, ↓reduceIte, tyb, inH, ckC, pqC, fqC, insA, mpOb_eq, hi', hib, hg, hg', L, hx]
   exact some_true (by omega)
theorem inl_loop {p : Pq} {f : Fq} {i : Ins} {m : List (Int × Bool)} (hs : i.l.length ≤ 1000) : ∀ (r a : List Int), i.l = a ++ r -> (∀ x ∈ r, 0 ≤ x) ->
  ∃ k : Int, E.L 72 12 [.ptr 60000 0 0, .ptr 60001 0 0, .bool false, .ro 1 (i.l.map (AV.int .i64)), .int .i64 i.l.length, .int .i64 a.length] (inH p f i m) =
   some ((if r.all (partW p f m 3) then .exit 2 else .ret, [.ptr 60000 0 0, .ptr 60001 0 0, .bool false, .ro 1 (i.l.map (AV.int .i64)), .int .i64 i.l.length, .int .i64 k], inH p f i m), True) := by
 intro r
 induction r with
 | nil =>
  intro a h hr
  rw [List.append_nil] at h
  have q : ((a.length : Int) < i.l.length) = False := eq_false (by rw [h]; omega)
  refine ⟨a.length, ?_⟩
  rw [l72_12]
  simp (maxSteps := 100000000) only [ivc, rgb, mpb, anf, nilR, eq_self, Nat.reduceEqDiff, Nat.reduceLT, Nat.reduceLeDiff, Nat.reduceAdd, Nat.reduceBEq, reduceCtorEq, ↓reduceIte, tyb, inH, ckC, pqC, fqC, insA, mpOb_eq, q]
 | cons y r ih =>
  intro a h hr
  have hi' : ((a.length : Int) < i.l.length) = True := eq_true (by rw [h]; simp; omega)
  have hw1 : IntKind.i64.wrap ((a.length : Int) + 1) = a.length + 1 := wrap_id (by omega) (by rw [h] at hs; simp at hs; omega)
  have hg := getD_map (f := AV.int .i64) (show i.l[a.length]? = some y by rw [h]; simp)
  have L := part_ev (p := p) (f := f) (c := 3) (n := y) (m := m) (hr y (by simp))
  simp only [ckC, pqC, fqC, mpOb_eq, List.cons_append, List.nil_append] at L
  cases hp : partW p f m 3 y with
  | true =>
   rw [hp] at L
   obtain ⟨k, ih'⟩ := ih (a ++ [y]) (by rw [h]; simp) (fun x hx => hr x (by simp [hx]))
   simp only [List.length_append, List.length_cons, List.length_nil, Int.natCast_add, Int.cast_ofNat_Int, Nat.zero_add, inH, ckC, pqC, fqC, insA, mpOb_eq, List.cons_append, List.nil_append] at ih'
   refine ⟨k, ?_⟩
   rw [l72_12]
   simp (maxSteps := 100000000) only [ivc, rgb, mpb, anf, vop, nilR, eq_self, Nat.reduceEqDiff, Nat.reduceLT, Nat.reduceLeDiff, Nat.reduceAdd, Nat.reduceMul, Nat.reduceBEq, reduceCtorEq, ↓reduceIte, tyb, inH, ckC, pqC, fqC, insA, mpOb_eq, hi', hw1, hg, L, ih', hp]
   exact some_true (by omega)
  | false =>
   rw [hp] at L
   refine ⟨a.length, ?_⟩
   rw [l72_12]
   simp (maxSteps := 100000000) only [ivc, rgb, mpb, anf, vop, nilR, eq_self, Nat.reduceEqDiff, Nat.reduceLT, Nat.reduceLeDiff, Nat.reduceAdd, Nat.reduceMul, Nat.reduceBEq, reduceCtorEq, ↓reduceIte, tyb, inH, ckC, pqC, fqC, insA, mpOb_eq, hi', hg, L, hp]
   exact some_true (by omega)
end Go.Proofs.YtfdipcpmfoidoaaDoor

/- Reading what was written. -/
namespace Go.Proofs.YtfdipcpmfoidoaaDoor
open Go Go.Aw
set_option linter.unusedSimpArgs false
set_option linter.unusedVariables false
set_option maxRecDepth 100000
set_option maxHeartbeats 4000000
theorem wordsM_parts {i : Ins} {ws : List Int} (h : wordsM i = (0, ws)) : opIn i.op = true /\ formedM i (rowW i.op) = true /\ (byt i.op && byt i.a && byt i.b && byt i.c) = true /\ (xsOf i).all wok = true /\ (chL i.l).all cok = true /\ ws = packN i.op i.a i.b i.c :: (xsOf i ++ (chL i.l).map cw) := by
 unfold wordsM at h
 split at h
 ·rename_i h1
  simp only [Bool.and_eq_true] at h1
  split at h
  ·rename_i h2
   split at h
   ·rename_i h3
    split at h
    ·rename_i h4
     cases h
     exact ⟨h1.1, h1.2, h2, h3, h4, rfl⟩
    ·cases h
   ·cases h
  ·cases h
 ·cases h
theorem formed_parts {i : Ins} {r : OpRow} (h : formedM i r = true) : i.x.length = r.x.length /\ (r.li = false -> i.l = []) /\ (r.li = true -> (i.l.length : Int) = i.b) /\ ((r.c == 7 && i.c == 1) = false -> i.ra = -1) := by
 unfold formedM at h
 split at h
 ·cases h
 ·rename_i h1
  split at h
  ·cases h
  ·refine ⟨?_, ?_, ?_, ?_⟩
   ·simp at h1; omega
   ·intro hl
    rw [hl] at h1
    simp at h1
    exact h1.2
   ·intro hl
    rw [hl] at h1
    simp at h1
    omega
   ·intro hc
    split at h
    ·simpa using h
    ·rename_i h2
     have h2' : (r.c == 7) = true := by simpa using h2
     rw [h2', Bool.true_and] at hc
     rw [hc] at h
     simp at h
     exact h.2
end Go.Proofs.YtfdipcpmfoidoaaDoor

/- All parts of an instruction are there. -/
namespace Go.Proofs.YtfdipcpmfoidoaaDoor
open Go Go.Aw
set_option linter.unusedSimpArgs false
set_option linter.unusedVariables false
set_option maxRecDepth 100000
set_option maxHeartbeats 40000000
structure gdP (i : Ins) : Prop where
 op : 0 ≤ i.op /\ i.op < 24
 a : 0 ≤ i.a /\ i.a ≤ 255
 b : 0 ≤ i.b /\ i.b ≤ 255
 c : 0 ≤ i.c /\ i.c ≤ 255
 xl : i.x.length = (rowW i.op).x.length
 xw : ∀ x ∈ i.x, 0 ≤ x /\ x ≤ 2147483647
 lw : ∀ x ∈ i.l, 0 ≤ x /\ x ≤ 255
 ll : i.l.length ≤ 60
 ra : -1 ≤ i.ra /\ i.ra ≤ 2147483647
 ls : (rowW i.op).li = false -> i.l = []
 rz : ((rowW i.op).c == 7 && i.c == 1) = false -> i.ra = -1
theorem formed_60 {i : Ins} {r : OpRow} (h : formedM i r = true) (hli : r.li = true) : i.b ≤ 60 := by
 unfold formedM at h
 split at h
 ·cases h
 ·rename_i h1
  simp only [hli, Bool.true_and, Bool.or_eq_true, not_or, decide_eq_true_eq] at h1
  omega
theorem gd_parts {i : Ins} (h : (wordsM i).1 = 0) : gdP i := by
 obtain ⟨h1, h2, h3, h4, h5, _⟩ := wordsM_parts (i := i) (ws := (wordsM i).2) (by rw [<- h])
 obtain ⟨g1, g2, g3, g4⟩ := formed_parts h2
 simp only [Bool.and_eq_true] at h3
 obtain ⟨⟨⟨b0, b1⟩, b2⟩, b3⟩ := h3
 have hl : i.l.all byt = true := by rw [<- (ch_eq _ i.l (Nat.le_refl _)).1]; exact h5
 have hx : i.x.all wok = true := by
  unfold xsOf at h4
  rw [List.all_append, Bool.and_eq_true] at h4
  exact h4.1
 refine ⟨opIn_true h1, byt_true b1, byt_true b2, byt_true b3, g1, fun x hx' => wok_true (List.all_eq_true.1 hx x hx'), fun x hx' => byt_true (List.all_eq_true.1 hl x hx'), ?_, ?_, g2, g4⟩
 ·cases hli : (rowW i.op).li with
  | false => rw [g2 hli]; simp
  | true =>
   have := g3 hli
   have := formed_60 h2 hli
   omega
 ·cases hc : ((rowW i.op).c == 7 && i.c == 1) with
  | false => rw [g4 hc]; omega
  | true =>
   unfold xsOf at h4
   rw [if_pos hc, List.all_append, Bool.and_eq_true] at h4
   have := wok_true (List.all_eq_true.1 h4.2 i.ra (by simp))
   omega
theorem wide_id {i : Ins} (h : gdP i) : wideW i = i.b + 256 * i.c := by
 have hb := h.b
 have hc := h.c
 unfold wideW
 have h1 : IntKind.i64.wrap (256 * i.c) = 256 * i.c := wrap_id (by omega) (by omega)
 rw [h1, wrap_id (by omega) (by omega)]
def inP (p : Pq) (f : Fq) (m : List (Int × Bool)) (i : Ins) : Bool :=
 partW p f m (rowW i.op).a i.a && partW p f m (rowW i.op).b i.b && partW p f m (rowW i.op).c i.c && (((rowW i.op).w == 0) || partW p f m (rowW i.op).w (wideW i))
def inZ (p : Pq) (f : Fq) (m : List (Int × Bool)) (i : Ins) : Bool :=
 if i.op = 1 then f.cl.getD i.a.toNat 0 == f.cl.getD i.b.toNat 0
 else if i.op = 0 then (f.cl.getD i.a.toNat 0 == 2) || kndW ((p.vl.map Vl.k).getD (wideW i).toNat 0)
 else (i.ra == -1) || (lkI m i.ra).getD false
def insW (p : Pq) (f : Fq) (m : List (Int × Bool)) (i : Ins) : Bool :=
 inP p f m i && ((rowW i.op).x.zip i.x).all (inX p f m) && i.l.all (partW p f m 3) && inZ p f m i
theorem cls_lt {p : Pq} {f : Fq} {m : List (Int × Bool)} {n : Int} (h : partW p f m 4 n = true) : n < f.cl.length := by
 have : clsW f n 0 = true := h
 unfold clsW at this
 rw [Bool.and_eq_true] at this
 exact of_decide_eq_true this.1
theorem val_lt {p : Pq} {f : Fq} {m : List (Int × Bool)} {n : Int} (h : partW p f m 8 n = true) : n < p.vl.length := of_decide_eq_true h
theorem row0 : rowW 0 = ⟨4, 0, 0, 8, [], false, 0, true, false⟩ := rfl
theorem row1 : rowW 1 = ⟨4, 4, 0, 0, [], false, 0, true, false⟩ := rfl
theorem vk_get {p : Pq} {n : Nat} (h : n < p.vl.length) : ∃ v : Vl, (p.vl.map vlA).getD n .junk = vlA v /\ (p.vl.map Vl.k).getD n 0 = v.k := by
 refine ⟨p.vl[n], by simp [List.getD_eq_getElem?_getD, h], by simp [List.getD_eq_getElem?_getD, h]⟩
theorem ins_ev {p : Pq} {f : Fq} {m : List (Int × Bool)} {i : Ins} (h : gdP i) :
  E.F 72 [.agg (ckC p f 100000), .agg (insA i)] [(100000, mpOb m)] = some ((.bool (insW p f m i), [(100000, mpOb m)]), True) := by
 have h3 : ¬ i.op < 0 := by have := h.op; omega
 have h1 : 0 ≤ i.op := h.op.1
 have h2 : i.op < 24 := h.op.2
 have t1 : (tabA.drop (i.op.toNat * 9)).take 9 = rowA (rowW i.op) := by
  have := tab_get i.op.toNat (by omega)
  rw [this]
  unfold rowW
  rw [if_pos (by unfold opIn; rw [decide_eq_true h1, decide_eq_true h2]; rfl)]
 have t2 : tabA.length = 216 := rfl
 have t3 : i.op.toNat * 9 + 9 ≤ 216 := by omega
 have La := part_ev (p := p) (f := f) (m := m) (c := (rowW i.op).a) (n := i.a) h.a.1
 have Lb := part_ev (p := p) (f := f) (m := m) (c := (rowW i.op).b) (n := i.b) h.b.1
 have Lc := part_ev (p := p) (f := f) (m := m) (c := (rowW i.op).c) (n := i.c) h.c.1
 have hw0 : 0 ≤ wideW i := by rw [wide_id h]; have := h.b; have := h.c; omega
 have Lw := part_ev (p := p) (f := f) (m := m) (c := (rowW i.op).w) (n := wideW i) hw0
 have wd := wide_ev (i := i)
 obtain ⟨k1, L1⟩ := inx_loop (p := p) (f := f) (i := i) (m := m) h.xl.symm (by have := rowW_x i.op; omega) (rowW i.op).x [] i.x [] rfl rfl rfl (fun x hx => (h.xw x hx).1)
 obtain ⟨k2, L2⟩ := inl_loop (p := p) (f := f) (i := i) (m := m) (by have := h.ll; omega) i.l [] rfl (fun x hx => (h.lw x hx).1)
 simp only [List.length_nil, Int.natCast_zero, inH, ckC, pqC, fqC, insA, mpOb_eq, List.cons_append, List.nil_append] at L1 L2
 simp only [ckC, pqC, fqC, insA, mpOb_eq, List.cons_append, List.nil_append] at La Lb Lc Lw wd
 unfold insW inP
 cases pa : partW p f m (rowW i.op).a i.a
 ·rw [pa] at La
  rw [e72]
  simp (maxSteps := 100000000) only [ivc, rgb, mpb, anf, vop, nilR, salloc, eq_self, Nat.reduceEqDiff, Nat.reduceLT, Nat.reduceLeDiff, Nat.reduceAdd, Nat.reduceMul, Nat.reduceBEq, Int.reduceNeg, reduceCtorEq, ↓reduceIte, tyb, ckC, pqC, fqC, insA, rowA, mpOb_eq, g0, t1, t2, t3, h1, h2, La]
 rw [pa] at La
 cases pb : partW p f m (rowW i.op).b i.b
 ·rw [pb] at Lb
  rw [e72]
  simp (maxSteps := 100000000) only [ivc, rgb, mpb, anf, vop, nilR, salloc, eq_self, Nat.reduceEqDiff, Nat.reduceLT, Nat.reduceLeDiff, Nat.reduceAdd, Nat.reduceMul, Nat.reduceBEq, Int.reduceNeg, reduceCtorEq, ↓reduceIte, tyb, ckC, pqC, fqC, insA, rowA, mpOb_eq, g0, t1, t2, t3, h1, h2, La, Lb]
 rw [pb] at Lb
 cases pc : partW p f m (rowW i.op).c i.c
 ·rw [pc] at Lc
  rw [e72]
  simp (maxSteps := 100000000) only [ivc, rgb, mpb, anf, vop, nilR, salloc, eq_self, Nat.reduceEqDiff, Nat.reduceLT, Nat.reduceLeDiff, Nat.reduceAdd, Nat.reduceMul, Nat.reduceBEq, Int.reduceNeg, reduceCtorEq, ↓reduceIte, tyb, ckC, pqC, fqC, insA, rowA, mpOb_eq, g0, t1, t2, t3, h1, h2, La, Lb, Lc]
 rw [pc] at Lc
 have hW : ∃ q : Bool, ((rowW i.op).w == 0 || partW p f m (rowW i.op).w (wideW i)) = q := ⟨_, rfl⟩
 obtain ⟨q, hq⟩ := hW
 rw [hq]
 have key : (q = false -> E.F 72 [.agg (ckC p f 100000), .agg (insA i)] [(100000, mpOb m)] = some ((.bool false, [(100000, mpOb m)]), True)) := fun e => by
  subst e
  rw [Bool.or_eq_false_iff] at hq
  obtain ⟨w0, w1⟩ := hq
  rw [w1] at Lw
  rw [e72]
  simp (maxSteps := 100000000) only [ivc, rgb, mpb, anf, vop, nilR, salloc, eq_self, Nat.reduceEqDiff, Nat.reduceLT, Nat.reduceLeDiff, Nat.reduceAdd, Nat.reduceMul, Nat.reduceBEq, Int.reduceNeg, reduceCtorEq, ↓reduceIte, tyb, ckC, pqC, fqC, insA, rowA, mpOb_eq, g0, t1, t2, t3, h1, h2, La, Lb, Lc, Lw, wd, w0, bne]
 cases q with
 | false => rw [key rfl]; simp
 | true =>
  clear key
  have hw : ((rowW i.op).w == 0) = true \/ ((rowW i.op).w == 0) = false /\ partW p f m (rowW i.op).w (wideW i) = true := by
   rw [Bool.or_eq_true] at hq
   cases hw : ((rowW i.op).w == 0) with
   | true => exact .inl rfl
   | false => rw [hw] at hq; exact .inr ⟨rfl, hq.resolve_left (by simp)⟩
  have hcom : ∀ (P : Prop), ((((rowW i.op).w == 0) = true -> P) /\ (((rowW i.op).w == 0) = false -> partW p f m (rowW i.op).w (wideW i) = true -> P)) -> P := fun P hP => by
   rcases hw with w0 | ⟨w0, w1⟩
   ·exact hP.1 w0
   ·exact hP.2 w0 w1
  simp only [Bool.true_and, Bool.and_self]
  cases hx : ((rowW i.op).x.zip i.x).all (inX p f m) with
  | false =>
   rw [hx] at L1
   simp only [Bool.false_eq_true, if_false] at L1
   refine hcom _ ⟨fun w0 => ?_, fun w0 w1 => ?_⟩
   ·rw [e72]
    simp (maxSteps := 100000000) only [ivc, rgb, mpb, anf, vop, vlen, vbuiltin, nilR, salloc, eq_self, Nat.reduceEqDiff, Nat.reduceLT, Nat.reduceLeDiff, Nat.reduceAdd, Nat.reduceMul, Nat.reduceBEq, Int.reduceNeg, reduceCtorEq, ↓reduceIte, tyb, ckC, pqC, fqC, insA, rowA, mpOb_eq, g0, t1, t2, t3, h1, h2, La, Lb, Lc, w0, bne, L1]
   ·rw [w1] at Lw
    rw [e72]
    simp (maxSteps := 100000000) only [ivc, rgb, mpb, anf, vop, vlen, vbuiltin, nilR, salloc, eq_self, Nat.reduceEqDiff, Nat.reduceLT, Nat.reduceLeDiff, Nat.reduceAdd, Nat.reduceMul, Nat.reduceBEq, Int.reduceNeg, reduceCtorEq, ↓reduceIte, tyb, ckC, pqC, fqC, insA, rowA, mpOb_eq, g0, t1, t2, t3, h1, h2, La, Lb, Lc, Lw, wd, w0, bne, L1]
  | true =>
   rw [hx] at L1
   simp only [if_true] at L1
   cases hl : i.l.all (partW p f m 3) with
   | false =>
    rw [hl] at L2
    simp only [Bool.false_eq_true, if_false] at L2
    refine hcom _ ⟨fun w0 => ?_, fun w0 w1 => ?_⟩
    ·rw [e72]
     simp (maxSteps := 100000000) only [ivc, rgb, mpb, anf, vop, vlen, vbuiltin, nilR, salloc, eq_self, Nat.reduceEqDiff, Nat.reduceLT, Nat.reduceLeDiff, Nat.reduceAdd, Nat.reduceMul, Nat.reduceBEq, Int.reduceNeg, reduceCtorEq, ↓reduceIte, tyb, ckC, pqC, fqC, insA, rowA, mpOb_eq, g0, t1, t2, t3, h1, h2, La, Lb, Lc, w0, bne, L1, L2]
    ·rw [w1] at Lw
     rw [e72]
     simp (maxSteps := 100000000) only [ivc, rgb, mpb, anf, vop, vlen, vbuiltin, nilR, salloc, eq_self, Nat.reduceEqDiff, Nat.reduceLT, Nat.reduceLeDiff, Nat.reduceAdd, Nat.reduceMul, Nat.reduceBEq, Int.reduceNeg, reduceCtorEq, ↓reduceIte, tyb, ckC, pqC, fqC, insA, rowA, mpOb_eq, g0, t1, t2, t3, h1, h2, La, Lb, Lc, Lw, wd, w0, bne, L1, L2]
   | true =>
    rw [hl] at L2
    simp only [if_true] at L2
    unfold inZ
    by_cases o1 : i.op = 1
    ·have q1 : (i.op == 1) = true := by rw [o1]; rfl
     have ha : i.a < f.cl.length := cls_lt (p := p) (m := m) (by rw [o1, row1] at pa; exact pa)
     have hb : i.b < f.cl.length := cls_lt (p := p) (m := m) (by rw [o1, row1] at pb; exact pb)
     have ga : (f.cl.map (AV.int .i64)).getD i.a.toNat .junk = .int .i64 (f.cl.getD i.a.toNat 0) := row_get 0 (by have := h.a; omega)
     have gb : (f.cl.map (AV.int .i64)).getD i.b.toNat .junk = .int .i64 (f.cl.getD i.b.toNat 0) := row_get 0 (by have := h.b; omega)
     have a0 := h.a.1
     have b0 := h.b.1
     rw [if_pos o1]
     refine hcom _ ⟨fun w0 => ?_, fun w0 w1 => ?_⟩
     ·rw [e72]
      simp (maxSteps := 100000000) only [ivc, rgb, mpb, anf, vop, vlen, vbuiltin, nilR, salloc, eq_self, Nat.reduceEqDiff, Nat.reduceLT, Nat.reduceLeDiff, Nat.reduceAdd, Nat.reduceMul, Nat.reduceBEq, Int.reduceNeg, reduceCtorEq, ↓reduceIte, tyb, ckC, pqC, fqC, insA, rowA, mpOb_eq, g0, t1, t2, t3, h1, h2, La, Lb, Lc, w0, bne, L1, L2, q1, ga, gb, ha, hb, a0, b0]
     ·rw [w1] at Lw
      rw [e72]
      simp (maxSteps := 100000000) only [ivc, rgb, mpb, anf, vop, vlen, vbuiltin, nilR, salloc, eq_self, Nat.reduceEqDiff, Nat.reduceLT, Nat.reduceLeDiff, Nat.reduceAdd, Nat.reduceMul, Nat.reduceBEq, Int.reduceNeg, reduceCtorEq, ↓reduceIte, tyb, ckC, pqC, fqC, insA, rowA, mpOb_eq, g0, t1, t2, t3, h1, h2, La, Lb, Lc, Lw, wd, w0, bne, L1, L2, q1, ga, gb, ha, hb, a0, b0]
    ·have q1 : (i.op == 1) = false := by rw [beq_eq_false_iff_ne]; exact o1
     rw [if_neg o1]
     by_cases o0 : i.op = 0
     ·have q0 : (i.op == 0) = true := by rw [o0]; rfl
      have w0 : ((rowW i.op).w == 0) = false := by rw [o0]; rfl
      have w1 : partW p f m (rowW i.op).w (wideW i) = true := by rw [w0] at hq; simpa using hq
      have ha : i.a < f.cl.length := cls_lt (p := p) (m := m) (by rw [o0, row0] at pa; exact pa)
      have hv : wideW i < p.vl.length := val_lt (f := f) (m := m) (by rw [o0, row0] at w1; exact w1)
      have ga : (f.cl.map (AV.int .i64)).getD i.a.toNat .junk = .int .i64 (f.cl.getD i.a.toNat 0) := row_get 0 (by have := h.a; omega)
      have a0 := h.a.1
      obtain ⟨v, gv, kv⟩ := vk_get (p := p) (n := (wideW i).toNat) (by omega)
      rw [vlA_eq] at gv
      simp only [vlC] at gv
      have kd := knd_ev (n := v.k)
      rw [w1] at Lw
      rw [if_pos o0, kv]
      cases hc : (f.cl.getD i.a.toNat 0 == 2)
      all_goals
       rw [e72]
       simp (maxSteps := 100000000) only [ivc, rgb, mpb, anf, vop, vlen, vbuiltin, nilR, salloc, eq_self, Nat.reduceEqDiff, Nat.reduceLT, Nat.reduceLeDiff, Nat.reduceAdd, Nat.reduceMul, Nat.reduceBEq, Int.reduceLE, Int.reduceNeg, Int.reduceToNat, reduceCtorEq, ↓reduceIte, tyb, ckC, pqC, fqC, insA, rowA, mpOb_eq, g0, t1, t2, t3, h1, h2, La, Lb, Lc, Lw, wd, w0, bne, L1, L2, q1, q0, ga, ha, a0, hv, hw0, gv, kd, hc]
     ·have q0 : (i.op == 0) = false := by rw [beq_eq_false_iff_ne]; exact o0
      rw [if_neg o0]
      cases hr : (i.ra == -1)
      all_goals
       refine hcom _ ⟨fun w0 => ?_, fun w0 w1 => ?_⟩
       ·rw [e72]
        simp (maxSteps := 100000000) only [ivc, rgb, mpb, anf, vop, vlen, vbuiltin, nilR, salloc, eq_self, Nat.reduceEqDiff, Nat.reduceLT, Nat.reduceLeDiff, Nat.reduceAdd, Nat.reduceMul, Nat.reduceBEq, Int.reduceNeg, reduceCtorEq, ↓reduceIte, tyb, ckC, pqC, fqC, insA, rowA, mpOb_eq, g0, t1, t2, t3, h1, h2, La, Lb, Lc, w0, bne, L1, L2, q1, q0, hr, mlk_IB]
       ·rw [w1] at Lw
        rw [e72]
        simp (maxSteps := 100000000) only [ivc, rgb, mpb, anf, vop, vlen, vbuiltin, nilR, salloc, eq_self, Nat.reduceEqDiff, Nat.reduceLT, Nat.reduceLeDiff, Nat.reduceAdd, Nat.reduceMul, Nat.reduceBEq, Int.reduceNeg, reduceCtorEq, ↓reduceIte, tyb, ckC, pqC, fqC, insA, rowA, mpOb_eq, g0, t1, t2, t3, h1, h2, La, Lb, Lc, Lw, wd, w0, bne, L1, L2, q1, q0, hr, mlk_IB]
theorem mput_IB {m : List (Int × Bool)} {n : Int} {b : Bool} : mput (m.map (prI .i64 AV.bool)) (.int .i64 n) (.bool b) = (ptI m n b).map (prI .i64 AV.bool) := mput_I rfl
def safeW (i : Ins) : Bool := opIn i.op && (rowW i.op).sa
def sfM (m : List (Int × Bool)) (l : List Ins) : List (Int × Bool) := l.foldl (fun m i => ptI m i.at_ (safeW i)) m
def mpH1 (p : Pq) (f : Fq) (m s : List (Int × Bool)) : HL := [(60000, ⟨true, 15, [.agg (ckC p f 100000)]⟩), (60001, mpOb s), (100000, mpOb m)]
theorem sf_loop {p : Pq} {f : Fq} {m : List (Int × Bool)} {l : List Ins} (hs : l.length ≤ 1000000) : ∀ (r a : List Ins) (s : List (Int × Bool)), l = a ++ r ->
  ∃ k : Int, E.L 73 4 [.ptr 60000 0 0, .mp 60001 5, .ro 9 (l.map insV), .int .i64 l.length, .int .i64 a.length] (mpH1 p f m s) =
   some ((.exit 0, [.ptr 60000 0 0, .mp 60001 5, .ro 9 (l.map insV), .int .i64 l.length, .int .i64 k], mpH1 p f m (sfM s r)), True) := by
 intro r
 induction r with
 | nil =>
  intro a s h
  rw [List.append_nil] at h
  have q : ((a.length : Int) < l.length) = False := eq_false (by rw [h]; omega)
  refine ⟨a.length, ?_⟩
  rw [l73_4]
  simp (maxSteps := 100000000) only [ivc, rgb, mpb, anf, nilR, eq_self, Nat.reduceEqDiff, Nat.reduceLT, Nat.reduceLeDiff, Nat.reduceAdd, Nat.reduceBEq, reduceCtorEq, ↓reduceIte, tyb, mpH1, ckC, pqC, fqC, mpOb_eq, q, sfM, List.foldl_nil]
 | cons y r ih =>
  intro a s h
  have hi' : ((a.length : Int) < l.length) = True := eq_true (by rw [h]; simp; omega)
  have hw1 : IntKind.i64.wrap ((a.length : Int) + 1) = a.length + 1 := wrap_id (by omega) (by rw [h] at hs; simp at hs; omega)
  have hg := getD_map (f := insV) (show l[a.length]? = some y by rw [h]; simp)
  have L : E.F 27 [.agg (insA y)] [] = some ((.bool (safeW y), []), True) := safe_ev
  obtain ⟨k, ih'⟩ := ih (a ++ [y]) (ptI s y.at_ (safeW y)) (by rw [h]; simp)
  simp only [List.length_append, List.length_cons, List.length_nil, Int.natCast_add, Int.cast_ofNat_Int, Nat.zero_add, mpH1, ckC, pqC, fqC, mpOb_eq, List.cons_append, List.nil_append] at ih'
  simp only [insV, insA] at hg
  simp only [insA] at L
  refine ⟨k, ?_⟩
  rw [l73_4]
  simp (maxSteps := 100000000) only [ivc, rgb, mpb, anf, vop, nilR, salloc, eq_self, Nat.reduceEqDiff, Nat.reduceLT, Nat.reduceLeDiff, Nat.reduceAdd, Nat.reduceBEq, reduceCtorEq, ↓reduceIte, tyb, mpH1, ckC, pqC, fqC, mpOb_eq, hi', hw1, hg, L, mput_IB, ih', sfM, List.foldl_cons]
  exact some_true (by omega)
def prevB (pv : Option Int) (x : Int) : Bool := match pv with
 | some a => decide (x ≤ a)
 | none => false
def lvB (n : Int) (pv : Option Int) (x : Int) : Bool := decide (x < 0) || decide (n ≤ x) || prevB pv x
def lvW (n : Int) : Option Int -> List Int -> Bool
 | _, [] => true
 | pv, x :: r => !lvB n pv x && lvW n (some x) r
def mpH2 (p : Pq) (f : Fq) (m s : List (Int × Bool)) (y : Mq) : HL := [(60000, ⟨true, 15, [.agg (ckC p f 100000)]⟩), (60001, mpOb s), (60002, ⟨true, 2, [mqA y]⟩), (100000, mpOb m)]
def mpV2 (f : Fq) (y : Mq) (a b : AV) (k j : Int) : List AV := [.ptr 60000 0 0, a, b, .mp 60001 5, .ptr 60002 0 0, .ro 2 (f.mp.map mqA), .int .i64 f.mp.length, .int .i64 k, .ro 1 (y.live.map (AV.int .i64)), .int .i64 y.live.length, .int .i64 j]
theorem nil_or_concat {α : Type} (l : List α) : l = [] \/ ∃ a x, l = a ++ [x] := by
 cases h : l.getLast? with
 | none => exact .inl (List.getLast?_eq_none_iff.1 h)
 | some x => obtain ⟨a, rfl⟩ := List.getLast?_eq_some_iff.1 h; exact .inr ⟨a, x, rfl⟩
theorem lv_loop {p : Pq} {f : Fq} {m s : List (Int × Bool)} {y : Mq} {k : Int} (hs : lenB y.live) : ∀ (r a : List Int), y.live = a ++ r ->
  ∃ j : Int, E.L 73 14 (mpV2 f y .junk .junk k a.length) (mpH2 p f m s y) =
   some ((if lvW f.cl.length a.getLast? r then .exit 4 else .ret, mpV2 f y (if lvW f.cl.length a.getLast? r then .junk else .int .i64 y.at_) (if lvW f.cl.length a.getLast? r then .junk else .bool false) k j, mpH2 p f m s y), True) := by
 intro r
 induction r with
 | nil =>
  intro a h
  rw [List.append_nil] at h
  have q : ((a.length : Int) < y.live.length) = False := eq_false (by rw [h]; omega)
  refine ⟨a.length, ?_⟩
  simp only [mpV2]
  rw [l73_14]
  simp (maxSteps := 100000000) only [ivc, rgb, mpb, anf, nilR, eq_self, Nat.reduceEqDiff, Nat.reduceLT, Nat.reduceLeDiff, Nat.reduceAdd, Nat.reduceBEq, reduceCtorEq, ↓reduceIte, tyb, mpH2, mqA, ckC, pqC, fqC, mpOb_eq, q, lvW]
 | cons x r ih =>
  intro a h
  have hs' : y.live.length ≤ 1000000000000000 := hs
  have hl : a.length < y.live.length := by rw [h]; simp
  have hi' : ((a.length : Int) < y.live.length) = True := eq_true (by omega)
  have hw1 : IntKind.i64.wrap ((a.length : Int) + 1) = a.length + 1 := wrap_id (by omega) (by omega)
  have hg := getD_map (f := AV.int .i64) (show y.live[a.length]? = some x by rw [h]; simp)
  have hv : lvW f.cl.length a.getLast? (x :: r) = (!lvB f.cl.length a.getLast? x && lvW f.cl.length (some x) r) := rfl
  obtain ⟨j, ih'⟩ := ih (a ++ [x]) (by rw [h]; simp)
  rw [show (a ++ [x]).getLast? = some x by simp] at ih'
  simp only [List.length_append, List.length_cons, List.length_nil, Int.natCast_add, Int.cast_ofNat_Int, Nat.zero_add, mpV2, mpH2, mqA, ckC, pqC, fqC, mpOb_eq, List.cons_append, List.nil_append] at ih'
  rw [hv]
  rcases nil_or_concat a with rfl | ⟨a', z, rfl⟩
  ·simp only [List.length_nil, Int.natCast_zero, Int.zero_add] at hi' hg hw1 ih'
   cases hb : lvB f.cl.length ([] : List Int).getLast? x with
   | true =>
    have hb' : (decide (x < 0) || decide ((f.cl.length : Int) ≤ x)) = true := by simpa [lvB, prevB] using hb
    refine ⟨0, ?_⟩
    simp only [mpV2]
    rw [l73_14]
    simp (maxSteps := 100000000) only [ivc, rgb, mpb, anf, vop, vlen, vbuiltin, nilR, eq_self, Nat.reduceEqDiff, Nat.reduceLT, Nat.reduceLeDiff, Nat.reduceAdd, Nat.reduceBEq, Int.reduceLT, Int.reduceLE, Int.reduceNeg, Int.reduceToNat, Int.reduceSub, reduceCtorEq, ↓reduceIte, tyb, mpH2, mqA, ckC, pqC, fqC, mpOb_eq, hi', hg, hb']
   | false =>
    have hb' : (decide (x < 0) || decide ((f.cl.length : Int) ≤ x)) = false := by simpa [lvB, prevB] using hb
    refine ⟨j, ?_⟩
    simp only [mpV2]
    rw [l73_14]
    simp (maxSteps := 100000000) only [ivc, rgb, mpb, anf, vop, vlen, vbuiltin, nilR, eq_self, Nat.reduceEqDiff, Nat.reduceLT, Nat.reduceLeDiff, Nat.reduceAdd, Nat.reduceBEq, Int.reduceLT, Int.reduceLE, Int.reduceNeg, Int.reduceToNat, Int.reduceSub, reduceCtorEq, ↓reduceIte, tyb, mpH2, mqA, ckC, pqC, fqC, mpOb_eq, Int.zero_add, hi', hg, hw1, hb', ih']
  ·have hz := getD_map (f := AV.int .i64) (show y.live[a'.length]? = some z by rw [h]; simp)
   have hlt : a'.length < y.live.length := by simp at hl; omega
   have hla : (a' ++ [z]).length = a'.length + 1 := by simp
   have hw2 : IntKind.i64.wrap (((a' ++ [z]).length : Int) - 1) = a'.length := by rw [hla, wrap_id (by omega) (by omega)]; omega
   have hp0 : ((0 : Int) < (a' ++ [z]).length) = True := eq_true (by omega)
   have hz2 : (0 ≤ (a'.length : Int)) = True := eq_true (by omega)
   have hz3 : ((a'.length : Int) < y.live.length) = True := eq_true (by omega)
   have hlast : (a' ++ [z]).getLast? = some z := by simp
   rw [hlast]
   generalize hA : (a' ++ [z]).length = A at *
   cases hb : lvB f.cl.length (some z) x with
   | true =>
    have hb' : ((decide (x < 0) || decide ((f.cl.length : Int) ≤ x)) || decide (x ≤ z)) = true := hb
    refine ⟨A, ?_⟩
    simp only [mpV2]
    rw [l73_14]
    simp (maxSteps := 100000000) only [ivc, rgb, mpb, anf, vop, vlen, vbuiltin, nilR, eq_self, Nat.reduceEqDiff, Nat.reduceLT, Nat.reduceLeDiff, Nat.reduceAdd, Nat.reduceBEq, reduceCtorEq, ↓reduceIte, tyb, mpH2, mqA, ckC, pqC, fqC, mpOb_eq, hi', hg, hb', hw2, hp0, hz, hz2, hz3]
    exact some_true (by omega)
   | false =>
    have hb' : ((decide (x < 0) || decide ((f.cl.length : Int) ≤ x)) || decide (x ≤ z)) = false := hb
    refine ⟨j, ?_⟩
    simp only [mpV2]
    rw [l73_14]
    simp (maxSteps := 100000000) only [ivc, rgb, mpb, anf, vop, vlen, vbuiltin, nilR, eq_self, Nat.reduceEqDiff, Nat.reduceLT, Nat.reduceLeDiff, Nat.reduceAdd, Nat.reduceBEq, reduceCtorEq, ↓reduceIte, tyb, mpH2, mqA, ckC, pqC, fqC, mpOb_eq, hi', hg, hw1, hb', ih', hw2, hp0, hz, hz2, hz3]
    exact some_true (by omega)
def mpB (s : List (Int × Bool)) (pv : Option Int) (y : Mq) : Bool := prevB pv y.at_ || !((lkI s y.at_).getD false)
def mpsW (n : Int) (s : List (Int × Bool)) : Option Int -> List Mq -> Int × Bool
 | _, [] => (0, true)
 | pv, y :: r => if mpB s pv y = true then (y.at_, false) else if lvW n none y.live = true then mpsW n s (some y.at_) r else (y.at_, false)
def mpV1 (f : Fq) (a b : AV) (k : Int) : List AV := [.ptr 60000 0 0, a, b, .mp 60001 5, .ro 2 (f.mp.map mqA), .int .i64 f.mp.length, .int .i64 k]
theorem mps_loop {p : Pq} {f : Fq} {m s : List (Int × Bool)} (hb : bF f) : ∀ (r a : List Mq), f.mp = a ++ r ->
  ∃ k : Int, E.L 73 9 (mpV1 f .junk .junk a.length) (mpH1 p f m s) =
   some ((if (mpsW f.cl.length s (a.getLast?.map Mq.at_) r).2 then .exit 2 else .ret, mpV1 f (if (mpsW f.cl.length s (a.getLast?.map Mq.at_) r).2 then .junk else .int .i64 (mpsW f.cl.length s (a.getLast?.map Mq.at_) r).1) (if (mpsW f.cl.length s (a.getLast?.map Mq.at_) r).2 then .junk else .bool false) k, mpH1 p f m s), True) := by
 have hs : f.mp.length ≤ 1000000000000000 := hb.mp
 intro r
 induction r with
 | nil =>
  intro a h
  rw [List.append_nil] at h
  have q : ((a.length : Int) < f.mp.length) = False := eq_false (by rw [h]; omega)
  refine ⟨a.length, ?_⟩
  simp only [mpV1]
  rw [l73_9]
  simp (maxSteps := 100000000) only [ivc, rgb, mpb, anf, nilR, eq_self, Nat.reduceEqDiff, Nat.reduceLT, Nat.reduceLeDiff, Nat.reduceAdd, Nat.reduceBEq, reduceCtorEq, ↓reduceIte, tyb, mpH1, ckC, pqC, fqC, mpOb_eq, q, mpsW]
 | cons y r ih =>
  intro a h
  have hl : a.length < f.mp.length := by rw [h]; simp
  have hi' : ((a.length : Int) < f.mp.length) = True := eq_true (by omega)
  have hw1 : IntKind.i64.wrap ((a.length : Int) + 1) = a.length + 1 := wrap_id (by omega) (by omega)
  have hg := getD_map (f := mqA) (show f.mp[a.length]? = some y by rw [h]; simp)
  simp only [mqA] at hg
  have hv : ∀ pv, mpsW f.cl.length s pv (y :: r) = if mpB s pv y = true then (y.at_, false) else if lvW f.cl.length none y.live = true then mpsW f.cl.length s (some y.at_) r else (y.at_, false) := fun _ => rfl
  obtain ⟨j, L⟩ := lv_loop (p := p) (f := f) (m := m) (s := s) (y := y) (k := a.length) (hb.lv y (by rw [h]; simp)) y.live [] rfl
  obtain ⟨k, ih'⟩ := ih (a ++ [y]) (by rw [h]; simp)
  rw [show (a ++ [y]).getLast? = some y by simp] at ih'
  simp only [Option.map_some, List.length_append, List.length_cons, List.length_nil, Int.natCast_add, Int.cast_ofNat_Int, Nat.zero_add, mpV1, mpH1, ckC, pqC, fqC, mpOb_eq, List.cons_append, List.nil_append] at ih'
  simp only [List.getLast?_nil, List.length_nil, Int.natCast_zero, mpV2, mpH2, mqA, ckC, pqC, fqC, mpOb_eq, List.cons_append, List.nil_append] at L
  rw [hv]
  rcases nil_or_concat a with rfl | ⟨a', z, rfl⟩
  ·simp only [List.length_nil, Int.natCast_zero, Int.zero_add] at hi' hg hw1 ih' L
   cases hb : mpB s (([] : List Mq).getLast?.map Mq.at_) y with
   | true =>
    have hb' : (!((lkI s y.at_).getD false)) = true := by simpa [mpB, prevB] using hb
    refine ⟨0, ?_⟩
    simp only [mpV1, Bool.false_eq_true, if_false, if_true]
    rw [l73_9]
    simp (maxSteps := 100000000) only [ivc, rgb, mpb, anf, vop, nilR, salloc, eq_self, Nat.reduceEqDiff, Nat.reduceLT, Nat.reduceLeDiff, Nat.reduceAdd, Nat.reduceBEq, Int.reduceLT, Int.reduceLE, Int.reduceNeg, Int.reduceToNat, Int.reduceSub, reduceCtorEq, ↓reduceIte, tyb, mpH1, ckC, pqC, fqC, mpOb_eq, mlk_IB, hi', hg, hb']
   | false =>
    have hb' : (!((lkI s y.at_).getD false)) = false := by simpa [mpB, prevB] using hb
    cases hlv : lvW f.cl.length none y.live with
    | true =>
     simp only [hlv, if_true] at L
     refine ⟨k, ?_⟩
     simp only [mpV1, Bool.false_eq_true, if_false, if_true]
     rw [l73_9]
     simp (maxSteps := 100000000) only [ivc, rgb, mpb, anf, vop, vlen, vbuiltin, nilR, salloc, eq_self, Nat.reduceEqDiff, Nat.reduceLT, Nat.reduceLeDiff, Nat.reduceAdd, Nat.reduceBEq, Int.reduceLT, Int.reduceLE, Int.reduceNeg, Int.reduceToNat, Int.reduceSub, reduceCtorEq, ↓reduceIte, tyb, mpH1, ckC, pqC, fqC, mpOb_eq, Int.zero_add, mlk_IB, hi', hg, hw1, hb', L, ih']
    | false =>
     simp only [hlv, Bool.false_eq_true, if_false] at L
     refine ⟨0, ?_⟩
     simp only [mpV1, Bool.false_eq_true, if_false]
     rw [l73_9]
     simp (maxSteps := 100000000) only [ivc, rgb, mpb, anf, vop, vlen, vbuiltin, nilR, salloc, eq_self, Nat.reduceEqDiff, Nat.reduceLT, Nat.reduceLeDiff, Nat.reduceAdd, Nat.reduceBEq, Int.reduceLT, Int.reduceLE, Int.reduceNeg, Int.reduceToNat, Int.reduceSub, reduceCtorEq, ↓reduceIte, tyb, mpH1, ckC, pqC, fqC, mpOb_eq, mlk_IB, hi', hg, hb', L]
  ·have hz := getD_map (f := mqA) (show f.mp[a'.length]? = some z by rw [h]; simp)
   simp only [mqA] at hz
   have hlt : a'.length < f.mp.length := by simp at hl; omega
   have hla : (a' ++ [z]).length = a'.length + 1 := by simp
   have hw2 : IntKind.i64.wrap (((a' ++ [z]).length : Int) - 1) = a'.length := by rw [hla, wrap_id (by omega) (by omega)]; omega
   have hp0 : ((0 : Int) < (a' ++ [z]).length) = True := eq_true (by omega)
   have hz2 : (0 ≤ (a'.length : Int)) = True := eq_true (by omega)
   have hz3 : ((a'.length : Int) < f.mp.length) = True := eq_true (by omega)
   have hlast : ((a' ++ [z]).getLast?.map Mq.at_) = some z.at_ := by simp
   rw [hlast]
   generalize hA : (a' ++ [z]).length = A at *
   cases hb : mpB s (some z.at_) y with
   | true =>
    have hb' : (decide (y.at_ ≤ z.at_) || !((lkI s y.at_).getD false)) = true := hb
    refine ⟨A, ?_⟩
    simp only [mpV1, Bool.false_eq_true, if_false, if_true]
    rw [l73_9]
    simp (maxSteps := 100000000) only [ivc, rgb, mpb, anf, vop, nilR, salloc, eq_self, Nat.reduceEqDiff, Nat.reduceLT, Nat.reduceLeDiff, Nat.reduceAdd, Nat.reduceBEq, reduceCtorEq, ↓reduceIte, tyb, mpH1, ckC, pqC, fqC, mpOb_eq, mlk_IB, hi', hg, hb', hw2, hp0, hz, hz2, hz3]
    exact some_true (by omega)
   | false =>
    have hb' : (decide (y.at_ ≤ z.at_) || !((lkI s y.at_).getD false)) = false := hb
    cases hlv : lvW f.cl.length none y.live with
    | true =>
     simp only [hlv, if_true] at L
     refine ⟨k, ?_⟩
     simp only [mpV1, Bool.false_eq_true, if_false, if_true]
     rw [l73_9]
     simp (maxSteps := 100000000) only [ivc, rgb, mpb, anf, vop, vlen, vbuiltin, nilR, salloc, eq_self, Nat.reduceEqDiff, Nat.reduceLT, Nat.reduceLeDiff, Nat.reduceAdd, Nat.reduceBEq, reduceCtorEq, ↓reduceIte, tyb, mpH1, ckC, pqC, fqC, mpOb_eq, mlk_IB, hi', hg, hw1, hb', L, ih', hw2, hp0, hz, hz2, hz3]
     exact some_true (by omega)
    | false =>
     simp only [hlv, Bool.false_eq_true, if_false] at L
     refine ⟨A, ?_⟩
     simp only [mpV1, Bool.false_eq_true, if_false]
     rw [l73_9]
     simp (maxSteps := 100000000) only [ivc, rgb, mpb, anf, vop, vlen, vbuiltin, nilR, salloc, eq_self, Nat.reduceEqDiff, Nat.reduceLT, Nat.reduceLeDiff, Nat.reduceAdd, Nat.reduceBEq, reduceCtorEq, ↓reduceIte, tyb, mpH1, ckC, pqC, fqC, mpOb_eq, mlk_IB, hi', hg, hb', L, hw2, hp0, hz, hz2, hz3]
     exact some_true (by omega)
theorem maps_ev {p : Pq} {f : Fq} {m : List (Int × Bool)} {l : List Ins} (hs : l.length ≤ 1000000) (hb : bF f) :
  E.F 73 [.agg (ckC p f 100000), .ro 9 (l.map insV)] [(100000, mpOb m)] = some ((.tup [.int .i64 (mpsW f.cl.length (sfM [] l) none f.mp).1, .bool (mpsW f.cl.length (sfM [] l) none f.mp).2], [(100000, mpOb m)]), True) := by
 obtain ⟨k1, L1⟩ := sf_loop (p := p) (f := f) (m := m) hs l [] [] rfl
 obtain ⟨k2, L2⟩ := mps_loop (p := p) (f := f) (m := m) (s := sfM [] l) hb f.mp [] rfl
 simp only [List.length_nil, Int.natCast_zero, List.getLast?_nil, Option.map_none, mpV1, mpH1, ckC, pqC, fqC, mpOb_eq, List.cons_append, List.nil_append, List.map_nil] at L1 L2
 have hz : ∀ (n : Int) (s : List (Int × Bool)) (pv : Option Int) (r : List Mq), (mpsW n s pv r).2 = true -> (mpsW n s pv r).1 = 0 := fun n s pv r => by
  induction r generalizing pv with
  | nil => intro _; rfl
  | cons y r ih =>
   intro h
   simp only [mpsW] at h ⊢
   split at h
   ·cases h
   ·rename_i h1
    rw [if_neg h1]
    split at h
    ·rename_i h2
     rw [if_pos h2]
     exact ih _ h
    ·cases h
 rw [e73]
 cases h : (mpsW f.cl.length (sfM [] l) none f.mp).2 with
 | true =>
  have h0 := hz _ _ _ _ h
  simp only [h, h0, if_true] at L2
  simp (maxSteps := 100000000) only [ivc, rgb, mpb, anf, vop, vlen, vbuiltin, salloc, eq_self, Nat.reduceEqDiff, Nat.reduceLT, Nat.reduceLeDiff, Nat.reduceAdd, Nat.reduceBEq, reduceCtorEq, ↓reduceIte, tyb, ckC, pqC, fqC, mpOb_eq, L1, L2, h0]
 | false =>
  simp only [h, Bool.false_eq_true, if_false] at L2
  simp (maxSteps := 100000000) only [ivc, rgb, mpb, anf, vop, vlen, vbuiltin, salloc, eq_self, Nat.reduceEqDiff, Nat.reduceLT, Nat.reduceLeDiff, Nat.reduceAdd, Nat.reduceBEq, reduceCtorEq, ↓reduceIte, tyb, ckC, pqC, fqC, mpOb_eq, L1, L2]
def clB (k : Int) : Bool := (k != 1) && (k != 2)
theorem clB_ev {k : Int} : E.F 70 [.int .i64 k] [] = some ((.bool (clB k), []), True) := by
 unfold clB
 cases h : (k == 1) <;> cases h2 : (k == 2)
 all_goals
  rw [e70]
  simp (maxSteps := 100000000) only [ivc, rgb, anf, nilR, eq_self, Nat.reduceEqDiff, Nat.reduceLT, Nat.reduceLeDiff, Nat.reduceBEq, reduceCtorEq, ↓reduceIte, tyb, h, h2, bne]
  try rfl
theorem clB_loop  {l : List _} (hs : l.length ≤ 1000000000000000) (hf : ∀ k ∈ l, E.F 70 [.int .i64 k] [] = some ((.bool (clB k), []), True)) : ∀ (r m : List _), l = m ++ r ->
  ∃ j : Int, 0 ≤ j /\ E.L 60 3 [.ro 1 (l.map (AV.int .i64)), .fn (.func 70) [] [], .int .i64 0, .int .i64 l.length, .int .i64 m.length] [] = some ((if r.any clB then .ret else .exit 0, [.ro 1 (l.map (AV.int .i64)), .fn (.func 70) [] [], .int .i64 (if r.any clB then j else 0), .int .i64 l.length, .int .i64 j], []), True) := by
 intro r
 induction r with
 | nil =>
  intro m h
  rw [List.append_nil] at h
  have q : ((m.length : Int) < l.length) = False := eq_false (by rw [h]; omega)
  refine ⟨m.length, by omega, ?_⟩
  rw [l60_3]
  simp (maxSteps := 100000000) only [ivc, rgb, anf, nilR, eq_self, Nat.reduceEqDiff, Nat.reduceLT, Nat.reduceBEq, reduceCtorEq, ↓reduceIte, tyb, q, List.any_nil]
 | cons y r ih =>
  intro m h
  have hi' : ((m.length : Int) < l.length) = True := eq_true (by rw [h]; simp; omega)
  have hw1 : IntKind.i64.wrap ((m.length : Int) + 1) = m.length + 1 := wrap_id (by omega) (by rw [h] at hs; simp at hs; omega)
  have hg := getD_map (f := AV.int .i64) (show l[m.length]? = some y by rw [h]; simp)
  have hy := hf y (by rw [h]; simp)
  cases hp : clB y with
  | true =>
   rw [hp] at hy
   refine ⟨m.length, by omega, ?_⟩
   rw [l60_3]
   simp (maxSteps := 100000000) only [ivc, rgb, anf, nilR, eq_self, Nat.reduceEqDiff, Nat.reduceLT, Nat.reduceAdd, Nat.reduceMul, Nat.reduceBEq, reduceCtorEq, ↓reduceIte, tyb, hi', hg, hy, List.any_cons, hp]
   exact some_true (by omega)
  | false =>
   obtain ⟨j, hj, ih'⟩ := ih (m ++ [y]) (by rw [h]; simp)
   simp only [List.length_append, List.length_cons, List.length_nil, Int.natCast_add, Int.cast_ofNat_Int, Nat.zero_add] at ih'
   rw [hp] at hy
   refine ⟨j, hj, ?_⟩
   rw [l60_3]
   simp (maxSteps := 100000000) only [ivc, rgb, anf, nilR, eq_self, Nat.reduceEqDiff, Nat.reduceLT, Nat.reduceAdd, Nat.reduceMul, Nat.reduceBEq, reduceCtorEq, ↓reduceIte, tyb, hi', hw1, hg, hy, ih', List.any_cons, hp]
   exact some_true (by omega)
theorem clB_idx  {l : List _} (hs : l.length ≤ 1000000000000000) (hf : ∀ k ∈ l, E.F 70 [.int .i64 k] [] = some ((.bool (clB k), []), True)) : ∃ j : Int, decide (0 ≤ j) = l.any clB /\ E.F 60 [.ro 1 (l.map (AV.int .i64)), .fn (.func 70) [] []] [] = some ((.int .i64 j, []), True) := by
 obtain ⟨j, hj, L⟩ := clB_loop hs hf l [] rfl
 simp only [List.length_nil, Int.natCast_zero] at L
 cases ha : l.any clB with
 | true =>
  rw [ha] at L
  simp only [if_true] at L
  refine ⟨j, by simp [hj], ?_⟩
  rw [e60]
  simp (maxSteps := 100000000) only [ivc, rgb, anf, vlen, vbuiltin, eq_self, Nat.reduceEqDiff, Nat.reduceLT, Nat.reduceLeDiff, Nat.reduceAdd, Nat.reduceBEq, Int.reduceNeg, reduceCtorEq, ↓reduceIte, tyb, L]
 | false =>
  rw [ha] at L
  simp only [Bool.false_eq_true, if_false] at L
  refine ⟨-1, by simp, ?_⟩
  rw [e60]
  simp (maxSteps := 100000000) only [ivc, rgb, anf, vlen, vbuiltin, eq_self, Nat.reduceEqDiff, Nat.reduceLT, Nat.reduceLeDiff, Nat.reduceAdd, Nat.reduceBEq, Int.reduceNeg, reduceCtorEq, ↓reduceIte, tyb, L]
theorem clB_any  {l : List _} (hs : l.length ≤ 1000000000000000) (hf : ∀ k ∈ l, E.F 70 [.int .i64 k] [] = some ((.bool (clB k), []), True)) : E.F 31 [.ro 1 (l.map (AV.int .i64)), .fn (.func 70) [] []] [] = some ((.bool (l.any clB), []), True) := by
 obtain ⟨j, hj, L⟩ := clB_idx hs hf
 rw [e31]
 have hj' : decide (j ≥ 0) = l.any clB := hj
 simp (maxSteps := 100000000) only [ivc, rgb, anf, nilR, eq_self, Nat.reduceEqDiff, Nat.reduceLT, Nat.reduceLeDiff, Nat.reduceAdd, Nat.reduceMul, Nat.reduceBEq, reduceCtorEq, ↓reduceIte, tyb, L, hj']
theorem clBs_ev {l : List Int} (hs : lenB l) : E.F 31 [.ro 1 (l.map (AV.int .i64)), .fn (.func 70) [] []] [] = some ((.bool (l.any clB), []), True) := clB_any hs fun _ _ => clB_ev
theorem ct_loop {l : List Int} {x : Int} (hs : l.length ≤ 1000000000000000) : ∀ (r m : List Int), l = m ++ r ->
  ∃ j : Int, 0 ≤ j /\ E.L 77 3 [.ro 1 (l.map (AV.int .i64)), .int .i64 x, .int .i64 0, .int .i64 l.length, .int .i64 m.length] [] = some ((if r.any (x == ·) then .ret else .exit 0, [.ro 1 (l.map (AV.int .i64)), .int .i64 x, .int .i64 (if r.any (x == ·) then j else 0), .int .i64 l.length, .int .i64 j], []), True) := by
 intro r
 induction r with
 | nil =>
  intro m h
  rw [List.append_nil] at h
  have q : ((m.length : Int) < l.length) = False := eq_false (by rw [h]; omega)
  refine ⟨m.length, by omega, ?_⟩
  rw [l77_3]
  simp (maxSteps := 100000000) only [ivc, rgb, anf, nilR, eq_self, Nat.reduceEqDiff, Nat.reduceLT, Nat.reduceBEq, reduceCtorEq, ↓reduceIte, tyb, q, List.any_nil]
 | cons y r ih =>
  intro m h
  have hi' : ((m.length : Int) < l.length) = True := eq_true (by rw [h]; simp; omega)
  have hw1 : IntKind.i64.wrap ((m.length : Int) + 1) = m.length + 1 := wrap_id (by omega) (by rw [h] at hs; simp at hs; omega)
  have hg := getD_map (f := AV.int .i64) (show l[m.length]? = some y by rw [h]; simp)
  cases hp : (x == y) with
  | true =>
   refine ⟨m.length, by omega, ?_⟩
   rw [l77_3]
   simp (maxSteps := 100000000) only [ivc, rgb, anf, nilR, eq_self, Nat.reduceEqDiff, Nat.reduceLT, Nat.reduceBEq, reduceCtorEq, ↓reduceIte, tyb, hi', hg, List.any_cons, hp]
   exact some_true (by omega)
  | false =>
   obtain ⟨j, hj, ih'⟩ := ih (m ++ [y]) (by rw [h]; simp)
   simp only [List.length_append, List.length_cons, List.length_nil, Int.natCast_add, Int.cast_ofNat_Int, Nat.zero_add] at ih'
   refine ⟨j, hj, ?_⟩
   rw [l77_3]
   simp (maxSteps := 100000000) only [ivc, rgb, anf, nilR, eq_self, Nat.reduceEqDiff, Nat.reduceLT, Nat.reduceBEq, reduceCtorEq, ↓reduceIte, tyb, hi', hw1, hg, ih', List.any_cons, hp]
   exact some_true (by omega)
theorem ct_ev {l : List Int} {x : Int} (hs : lenB l) : E.F 71 [.ro 1 (l.map (AV.int .i64)), .int .i64 x] [] = some ((.bool (l.any (x == ·)), []), True) := by
 have I : ∃ j : Int, decide (0 ≤ j) = l.any (x == ·) /\ E.F 77 [.ro 1 (l.map (AV.int .i64)), .int .i64 x] [] = some ((.int .i64 j, []), True) := by
  obtain ⟨j, hj, L⟩ := ct_loop (x := x) hs l [] rfl
  simp only [List.length_nil, Int.natCast_zero] at L
  cases ha : l.any (x == ·) with
  | true =>
   simp only [ha, if_true] at L
   refine ⟨j, by simp [hj], ?_⟩
   rw [e77]
   simp (maxSteps := 100000000) only [ivc, rgb, anf, vlen, vbuiltin, eq_self, Nat.reduceEqDiff, Nat.reduceLT, Nat.reduceLeDiff, Nat.reduceAdd, Nat.reduceBEq, Int.reduceNeg, reduceCtorEq, ↓reduceIte, tyb, L]
  | false =>
   simp only [ha, Bool.false_eq_true, if_false] at L
   refine ⟨-1, by simp, ?_⟩
   rw [e77]
   simp (maxSteps := 100000000) only [ivc, rgb, anf, vlen, vbuiltin, eq_self, Nat.reduceEqDiff, Nat.reduceLT, Nat.reduceLeDiff, Nat.reduceAdd, Nat.reduceBEq, Int.reduceNeg, reduceCtorEq, ↓reduceIte, tyb, L]
 obtain ⟨j, hj, L⟩ := I
 rw [e71]
 have hj' : decide (j ≥ 0) = l.any (x == ·) := hj
 simp (maxSteps := 100000000) only [ivc, rgb, anf, nilR, eq_self, Nat.reduceEqDiff, Nat.reduceLT, Nat.reduceLeDiff, Nat.reduceAdd, Nat.reduceBEq, reduceCtorEq, ↓reduceIte, tyb, L, hj']
theorem readM_gd {ws : List Int} {n : Int} (h : (readM ws n).2 = 0) : gdP (readM ws n).1 := by
 refine gd_parts ?_
 unfold readM at h ⊢
 split at h
 ·cases h
 ·rename_i h0
  rw [if_neg h0]
  split at h
  ·rename_i h1
   rw [if_pos h1]
   split at h
   ·rename_i h2
    rw [if_pos h2]
    split at h
    ·rename_i h3
     rw [if_pos h3]
     exact h3.1
    ·cases h
   ·cases h
  ·cases h
theorem allM_gd {ws : List Int} : ∀ (f : Nat) (p : Int) (l : List Ins), (∀ i ∈ l, gdP i) -> ∀ i ∈ (allM (readM ws) ws.length f p l).1, gdP i
 | 0, p, l, h => h
 | f + 1, p, l, h => by
  unfold allM
  split
  ·split
   ·rename_i h2
    refine allM_gd f _ _ fun i hi => ?_
    rcases List.mem_append.1 hi with hi | hi
    ·exact h i hi
    ·rw [List.mem_singleton.1 hi]; exact readM_gd h2
   ·simp
  ·exact h
def bgM (m : List (Int × Bool)) (l : List Ins) : List (Int × Bool) := l.foldl (fun m i => ptI m i.at_ true) m
def fnH (p : Pq) (f : Fq) (m : List (Int × Bool)) : HL := [(60000, ⟨true, 15, [.agg (ckC p f 100000)]⟩), (100000, mpOb m)]
theorem bg_loop {p : Pq} {f : Fq} {l : List Ins} (hs : l.length ≤ 1000000) : ∀ (r a : List Ins) (m : List (Int × Bool)), l = a ++ r ->
  ∃ k : Int, E.L 59 11 [.ptr 60000 0 0, .ro 9 (l.map insV), .ro 9 (l.map insV), .int .i64 l.length, .int .i64 a.length] (fnH p f m) =
   some ((.exit 0, [.ptr 60000 0 0, .ro 9 (l.map insV), .ro 9 (l.map insV), .int .i64 l.length, .int .i64 k], fnH p f (bgM m r)), True) := by
 intro r
 induction r with
 | nil =>
  intro a m h
  rw [List.append_nil] at h
  have q : ((a.length : Int) < l.length) = False := eq_false (by rw [h]; omega)
  refine ⟨a.length, ?_⟩
  rw [l59_11]
  simp (maxSteps := 100000000) only [ivc, rgb, mpb, anf, nilR, eq_self, Nat.reduceEqDiff, Nat.reduceLT, Nat.reduceLeDiff, Nat.reduceAdd, Nat.reduceBEq, reduceCtorEq, ↓reduceIte, tyb, fnH, ckC, pqC, fqC, mpOb_eq, q, bgM, List.foldl_nil]
 | cons y r ih =>
  intro a m h
  have hi' : ((a.length : Int) < l.length) = True := eq_true (by rw [h]; simp; omega)
  have hw1 : IntKind.i64.wrap ((a.length : Int) + 1) = a.length + 1 := wrap_id (by omega) (by rw [h] at hs; simp at hs; omega)
  have hg := getD_map (f := insV) (show l[a.length]? = some y by rw [h]; simp)
  obtain ⟨k, ih'⟩ := ih (a ++ [y]) (ptI m y.at_ true) (by rw [h]; simp)
  simp only [List.length_append, List.length_cons, List.length_nil, Int.natCast_add, Int.cast_ofNat_Int, Nat.zero_add, fnH, ckC, pqC, fqC, mpOb_eq, List.cons_append, List.nil_append] at ih'
  simp only [insV, insA] at hg
  refine ⟨k, ?_⟩
  rw [l59_11]
  simp (maxSteps := 100000000) only [ivc, rgb, mpb, anf, vop, nilR, salloc, eq_self, Nat.reduceEqDiff, Nat.reduceLT, Nat.reduceLeDiff, Nat.reduceAdd, Nat.reduceBEq, reduceCtorEq, ↓reduceIte, tyb, fnH, ckC, pqC, fqC, mpOb_eq, hi', hw1, hg, mput_IB, ih', bgM, List.foldl_cons]
  exact some_true (by omega)
def inE (p : Pq) (f : Fq) (m : List (Int × Bool)) : List Ins -> Option Int
 | [] => none
 | i :: r => if insW p f m i = true then inE p f m r else some i.at_
def inEx (x : Option Int) : Exit := match x with
 | none => .exit 2
 | some _ => .ret
def inEa (x : Option Int) : AV := match x with
 | none => .junk
 | some a => .int .i64 a
def inEb (x : Option Int) : AV := match x with
 | none => .junk
 | some _ => .int .i64 261
theorem in_loop {p : Pq} {f : Fq} {m : List (Int × Bool)} {l : List Ins} (hs : l.length ≤ 1000000) (hg0 : ∀ i ∈ l, gdP i) : ∀ (r a : List Ins), l = a ++ r ->
  ∃ k : Int, E.L 59 16 [.ptr 60000 0 0, .junk, .junk, .ro 9 (l.map insV), .ro 9 (l.map insV), .int .i64 l.length, .int .i64 a.length] (fnH p f m) =
   some ((inEx (inE p f m r), [.ptr 60000 0 0, inEa (inE p f m r), inEb (inE p f m r), .ro 9 (l.map insV), .ro 9 (l.map insV), .int .i64 l.length, .int .i64 k], fnH p f m), True) := by
 intro r
 induction r with
 | nil =>
  intro a h
  rw [List.append_nil] at h
  have q : ((a.length : Int) < l.length) = False := eq_false (by rw [h]; omega)
  refine ⟨a.length, ?_⟩
  rw [l59_16]
  simp (maxSteps := 100000000) only [ivc, rgb, mpb, anf, nilR, eq_self, Nat.reduceEqDiff, Nat.reduceLT, Nat.reduceLeDiff, Nat.reduceAdd, Nat.reduceBEq, reduceCtorEq, ↓reduceIte, tyb, fnH, ckC, pqC, fqC, mpOb_eq, q, inE, inEx, inEa, inEb]
 | cons y r ih =>
  intro a h
  have hi' : ((a.length : Int) < l.length) = True := eq_true (by rw [h]; simp; omega)
  have hw1 : IntKind.i64.wrap ((a.length : Int) + 1) = a.length + 1 := wrap_id (by omega) (by rw [h] at hs; simp at hs; omega)
  have hg := getD_map (f := insV) (show l[a.length]? = some y by rw [h]; simp)
  have L := ins_ev (p := p) (f := f) (m := m) (hg0 y (by rw [h]; simp))
  obtain ⟨k, ih'⟩ := ih (a ++ [y]) (by rw [h]; simp)
  simp only [List.length_append, List.length_cons, List.length_nil, Int.natCast_add, Int.cast_ofNat_Int, Nat.zero_add, fnH, ckC, pqC, fqC, mpOb_eq, List.cons_append, List.nil_append] at ih'
  simp only [insV, insA] at hg
  simp only [insA, ckC, pqC, fqC, mpOb_eq, List.cons_append, List.nil_append] at L
  cases hp : insW p f m y with
  | true =>
   rw [hp] at L
   have hE : inE p f m (y :: r) = inE p f m r := by simp only [inE, hp, if_true]
   rw [hE]
   refine ⟨k, ?_⟩
   rw [l59_16]
   simp (maxSteps := 100000000) only [ivc, rgb, mpb, anf, vop, nilR, salloc, eq_self, Nat.reduceEqDiff, Nat.reduceLT, Nat.reduceLeDiff, Nat.reduceAdd, Nat.reduceMul, Nat.reduceBEq, reduceCtorEq, ↓reduceIte, tyb, fnH, ckC, pqC, fqC, mpOb_eq, hi', hw1, hg, L, ih']
   exact some_true (by omega)
  | false =>
   rw [hp] at L
   have hE : inE p f m (y :: r) = some y.at_ := by simp only [inE, hp, Bool.false_eq_true, if_false]
   rw [hE]
   refine ⟨a.length, ?_⟩
   rw [l59_16]
   simp (maxSteps := 100000000) only [ivc, rgb, mpb, anf, vop, nilR, salloc, eq_self, Nat.reduceEqDiff, Nat.reduceLT, Nat.reduceLeDiff, Nat.reduceAdd, Nat.reduceMul, Nat.reduceBEq, reduceCtorEq, ↓reduceIte, tyb, fnH, ckC, pqC, fqC, mpOb_eq, hi', hg, L, inEx, inEa, inEb]
   exact some_true (by omega)
def fnA (f : Fq) : Bool := decide ((250 : Int) < f.cl.length) || ((f.ws.length : Int) == 0) || decide ((20000 : Int) < f.ws.length) || decide ((20000 : Int) < f.nm.size) || decide ((f.ws.length : Int) < f.mp.length)
def fnB (f : Fq) : Bool := f.cl.any clB || decide (f.pa < 0) || decide ((f.cl.length : Int) < f.pa)
def fnC (f : Fq) : Bool := (f.cl.take f.pa.toNat).any ((1 : Int) == ·)
def alW (f : Fq) : List Ins × Int × Int := allM (readM f.ws) f.ws.length f.ws.length 0 []
def fnCk (p : Pq) (f : Fq) : Int × Int :=
 if fnA f = true then (0, 4)
 else if fnB f = true \/ fnC f = true then (0, 2)
 else if (alW f).2.2 ≠ 0 then (alW f).2
 else match inE p f (bgM [] (alW f).1) (alW f).1 with
  | some a => (a, 261)
  | none => if (mpsW f.cl.length (sfM [] (alW f).1) none f.mp).2 = true then (0, 0) else ((mpsW f.cl.length (sfM [] (alW f).1) none f.mp).1, 261)
theorem take_map {α : Type} {f : α -> AV} {l : List α} {n : Nat} : List.take n (l.map f) = (l.take n).map f := List.map_take.symm
theorem function_ev {p : Pq} {f : Fq} (hb : bF f) (hu : ∀ x ∈ f.ws, u32r x) :
  ∃ m, E.F 59 [.agg (ckC p f 100000)] [(100000, mpOb [])] = some ((.tup [.int .i64 (fnCk p f).1, .int .i64 (fnCk p f).2], [(100000, mpOb m)]), True) := by
 unfold fnCk
 cases ha : fnA f with
 | true =>
  refine ⟨[], ?_⟩
  unfold fnA at ha
  rw [e59]
  simp (maxSteps := 100000000) only [ivc, rgb, mpb, anf, vop, vlen, vbuiltin, nilR, salloc, eq_self, Nat.reduceEqDiff, Nat.reduceLT, Nat.reduceLeDiff, Nat.reduceAdd, Nat.reduceBEq, reduceCtorEq, ↓reduceIte, tyb, ckC, pqC, fqC, mpOb_eq, ha]
 | false =>
  have hA := ha
  unfold fnA at ha
  have L1 := clBs_ev hb.cl
  have hc0 : lenB (f.cl.take f.pa.toNat) := by have := hb.cl; unfold lenB at this ⊢; rw [List.length_take]; omega
  have L2 := ct_ev (x := 1) hc0
  cases h1 : f.cl.any clB with
  | true =>
   have hB : fnB f = true := by unfold fnB; rw [h1]; rfl
   rw [h1] at L1
   refine ⟨[], ?_⟩
   rw [e59, if_neg (by simp), if_pos (.inl hB)]
   simp (maxSteps := 100000000) only [ivc, rgb, mpb, anf, vop, vslice, vlen, vbuiltin, nilR, salloc, eq_self, Nat.reduceEqDiff, Nat.reduceLT, Nat.reduceLeDiff, Nat.reduceAdd, Nat.reduceMul, Nat.reduceBEq, Int.reduceLE, Int.reduceToNat, reduceCtorEq, implies_true, ↓reduceIte, tyb, ckC, pqC, fqC, mpOb_eq, ha, L1]
  | false =>
   rw [h1] at L1
   by_cases h2 : f.pa < 0
   ·have hB : fnB f = true := by unfold fnB; rw [h1, decide_eq_true h2]; rfl
    refine ⟨[], ?_⟩
    rw [e59, if_neg (by simp), if_pos (.inl hB)]
    simp (maxSteps := 100000000) only [ivc, rgb, mpb, anf, vop, vslice, vlen, vbuiltin, nilR, salloc, eq_self, Nat.reduceEqDiff, Nat.reduceLT, Nat.reduceLeDiff, Nat.reduceAdd, Nat.reduceMul, Nat.reduceBEq, Int.reduceLE, Int.reduceToNat, reduceCtorEq, implies_true, ↓reduceIte, tyb, ckC, pqC, fqC, mpOb_eq, ha, L1, h2]
   ·by_cases h3 : (f.cl.length : Int) < f.pa
    ·have hB : fnB f = true := by unfold fnB; rw [h1, decide_eq_true h3]; simp
     refine ⟨[], ?_⟩
     rw [e59, if_neg (by simp), if_pos (.inl hB)]
     simp (maxSteps := 100000000) only [ivc, rgb, mpb, anf, vop, vslice, vlen, vbuiltin, nilR, salloc, eq_self, Nat.reduceEqDiff, Nat.reduceLT, Nat.reduceLeDiff, Nat.reduceAdd, Nat.reduceMul, Nat.reduceBEq, Int.reduceLE, Int.reduceToNat, reduceCtorEq, implies_true, ↓reduceIte, tyb, ckC, pqC, fqC, mpOb_eq, ha, L1, h2, h3]
    ·have hB : fnB f = false := by unfold fnB; rw [h1, decide_eq_false h2, decide_eq_false h3]; rfl
     have h4 : (0 ≤ f.pa) = True := eq_true (by omega)
     have h5 : (f.pa ≤ f.cl.length) = True := eq_true (by omega)
     cases hC : fnC f with
     | true =>
      have hC' := hC
      unfold fnC at hC'
      rw [hC'] at L2
      refine ⟨[], ?_⟩
      rw [e59, if_neg (by simp), if_pos (.inr rfl)]
      simp (maxSteps := 100000000) only [ivc, rgb, mpb, anf, vop, vslice, vlen, vbuiltin, nilR, salloc, eq_self, Nat.reduceEqDiff, Nat.reduceLT, Nat.reduceLeDiff, Nat.reduceAdd, Nat.reduceMul, Nat.reduceBEq, Int.reduceLE, Int.reduceToNat, reduceCtorEq, implies_true, ↓reduceIte, tyb, ckC, pqC, fqC, mpOb_eq, ha, L1, h2, h3, h4, h5, take_map, L2]
      done
     | false =>
      have hC' := hC
      unfold fnC at hC'
      rw [hC'] at L2
      have hws : f.ws.length ≤ 20000 := by
       unfold fnA at hA
       simp only [Bool.or_eq_false_iff, decide_eq_false_iff_not] at hA
       have := hA.1.1.2
       omega
      have L3 := all_ev (ws := f.ws) (by omega) hu
      rw [if_neg (by simp), if_neg (by rw [hB]; simp)]
      change E.F _ _ _ = some ((.tup [.ro 9 ((alW f).1.map insV), .int .i64 (alW f).2.1, .int .i64 (alW f).2.2], []), True) at L3
      have hlen : (alW f).1.length ≤ 1000000 := by
       have := allM_len (ws := f.ws) f.ws.length 0 [] (by simp) (by omega)
       have h0 : (alW f).1.length ≤ f.ws.length := this
       omega
      have hgd : ∀ i ∈ (alW f).1, gdP i := allM_gd f.ws.length 0 [] (by simp)
      generalize alW f = A at *
      obtain ⟨l, at_, e⟩ := A
      simp only at L3 hlen hgd ⊢
      cases he : (e == 0) with
      | false =>
       have he' : e ≠ 0 := by rw [beq_eq_false_iff_ne] at he; exact he
       refine ⟨[], ?_⟩
       rw [e59, if_pos he']
       simp (maxSteps := 100000000) only [ivc, rgb, mpb, anf, vop, vslice, vlen, vbuiltin, nilR, salloc, eq_self, Nat.reduceEqDiff, Nat.reduceLT, Nat.reduceLeDiff, Nat.reduceAdd, Nat.reduceMul, Nat.reduceBEq, Int.reduceLE, Int.reduceToNat, reduceCtorEq, implies_true, ↓reduceIte, tyb, ckC, pqC, fqC, mpOb_eq, ha, L1, h2, h3, h4, h5, take_map, L2, L3, he, bne]
      | true =>
       have he' : e = 0 := beq_iff_eq.1 he
       subst he'
       rw [if_neg (by simp)]
       obtain ⟨k1, L4⟩ := bg_loop (p := p) (f := f) hlen l [] [] rfl
       obtain ⟨k2, L5⟩ := in_loop (p := p) (f := f) (m := bgM [] l) hlen hgd l [] rfl
       have L6 := maps_ev (p := p) (f := f) (m := bgM [] l) hlen hb
       simp only [List.length_nil, Int.natCast_zero, fnH, ckC, pqC, fqC, mpOb_eq, List.cons_append, List.nil_append, List.map_nil] at L4 L5 L6
       refine ⟨bgM [] l, ?_⟩
       cases hi : inE p f (bgM [] l) l with
       | some a =>
        rw [hi] at L5
        simp only [inEx, inEa, inEb] at L5
        rw [e59]
        simp (maxSteps := 100000000) only [ivc, rgb, mpb, anf, vop, vslice, vlen, vbuiltin, nilR, salloc, eq_self, Nat.reduceEqDiff, Nat.reduceLT, Nat.reduceLeDiff, Nat.reduceAdd, Nat.reduceMul, Nat.reduceBEq, Int.reduceLE, Int.reduceToNat, reduceCtorEq, implies_true, ↓reduceIte, tyb, ckC, pqC, fqC, mpOb_eq, ha, L1, h2, h3, h4, h5, take_map, L2, L3, L4, L5, Nat.zero_le]
       | none =>
        rw [hi] at L5
        simp only [inEx, inEa, inEb] at L5
        cases hm : (mpsW f.cl.length (sfM [] l) none f.mp).2 with
        | true =>
         rw [hm] at L6
         rw [e59]
         simp (maxSteps := 100000000) only [ivc, rgb, mpb, anf, vop, vslice, vlen, vbuiltin, nilR, salloc, eq_self, Nat.reduceEqDiff, Nat.reduceLT, Nat.reduceLeDiff, Nat.reduceAdd, Nat.reduceMul, Nat.reduceBEq, Int.reduceLE, Int.reduceToNat, reduceCtorEq, implies_true, ↓reduceIte, tyb, ckC, pqC, fqC, mpOb_eq, ha, L1, h2, h3, h4, h5, take_map, L2, L3, L4, L5, L6, Nat.zero_le]
        | false =>
         rw [hm] at L6
         rw [e59]
         simp (maxSteps := 100000000) only [ivc, rgb, mpb, anf, vop, vslice, vlen, vbuiltin, nilR, salloc, eq_self, Nat.reduceEqDiff, Nat.reduceLT, Nat.reduceLeDiff, Nat.reduceAdd, Nat.reduceMul, Nat.reduceBEq, Int.reduceLE, Int.reduceToNat, reduceCtorEq, implies_true, ↓reduceIte, tyb, ckC, pqC, fqC, mpOb_eq, ha, L1, h2, h3, h4, h5, take_map, L2, L3, L4, L5, L6, Nat.zero_le]
noncomputable def tyF : List Tp -> Int
 | [] => 0
 | t :: r => if tyCk t ≠ 0 then tyCk t else tyF r
def fnF (p : Pq) : Int -> List Fq -> (Int × Int) × Int
 | _, [] => ((0, 0), 0)
 | k, f :: r => if (fnCk p f).2 ≠ 0 then ((k, (fnCk p f).1), (fnCk p f).2) else fnF p (k + 1) r
def fltA (x : Int × Int) : AV := .agg [.int .i64 x.1, .int .i64 x.2]
def ckH1 (p : Pq) (x : Int × Int) : HL := [(60000, ⟨true, 9, [.agg (pqC p)]⟩), (60001, ⟨true, 2, [fltA x]⟩), (60002, ⟨true, 2, [fltA (-1, 0)]⟩)]
theorem ty_loop {p : Pq} (hb : bP p) : ∀ (r a : List Tp), p.ty = a ++ r ->
  ∃ k : Int, E.L 30 8 [.ptr 60000 0 0, .ptr 60001 0 0, .int .i64 0, .ptr 60002 0 0, .ro 5 (p.ty.map tpA), .int .i64 p.ty.length, .int .i64 a.length] (ckH1 p (0, 0)) =
   some ((if tyF r = 0 then .exit 0 else .ret, [.ptr 60000 0 0, .ptr 60001 0 0, .int .i64 (tyF r), .ptr 60002 0 0, .ro 5 (p.ty.map tpA), .int .i64 p.ty.length, .int .i64 k], ckH1 p (if tyF r = 0 then (0, 0) else (-1, 0))), True) := by
 have hs : p.ty.length ≤ 1000000000000000 := hb.ty
 intro r
 induction r with
 | nil =>
  intro a h
  rw [List.append_nil] at h
  have q : ((a.length : Int) < p.ty.length) = False := eq_false (by rw [h]; omega)
  refine ⟨a.length, ?_⟩
  rw [l30_8]
  simp (maxSteps := 100000000) only [ivc, rgb, anf, nilR, eq_self, Nat.reduceEqDiff, Nat.reduceLT, Nat.reduceLeDiff, Nat.reduceAdd, Nat.reduceBEq, Int.reduceNeg, reduceCtorEq, ↓reduceIte, tyb, ckH1, fltA, pqC, q, tyF]
 | cons y r ih =>
  intro a h
  have hi' : ((a.length : Int) < p.ty.length) = True := eq_true (by rw [h]; simp; omega)
  have hw1 : IntKind.i64.wrap ((a.length : Int) + 1) = a.length + 1 := wrap_id (by omega) (by rw [h] at hs; simp at hs; omega)
  have hg := getD_map (f := tpA) (show p.ty[a.length]? = some y by rw [h]; simp)
  have L := tyCk_ev (hb.ts y (by rw [h]; simp))
  obtain ⟨k, ih'⟩ := ih (a ++ [y]) (by rw [h]; simp)
  simp only [List.length_append, List.length_cons, List.length_nil, Int.natCast_add, Int.cast_ofNat_Int, Nat.zero_add, ckH1, fltA, pqC] at ih'
  rw [tpA_eq] at hg L
  simp only [tpC] at hg L
  by_cases hp : tyCk y = 0
  ·have hE : tyF (y :: r) = tyF r := by simp only [tyF, hp, ne_eq, not_true_eq_false, if_false]
   rw [hp] at L
   rw [hE]
   refine ⟨k, ?_⟩
   rw [l30_8]
   simp (maxSteps := 100000000) only [ivc, rgb, mpb, anf, nilR, salloc, eq_self, Nat.reduceEqDiff, Nat.reduceLT, Nat.reduceLeDiff, Nat.reduceAdd, Nat.reduceBEq, Int.reduceNeg, reduceCtorEq, ↓reduceIte, tyb, ckH1, fltA, pqC, hi', hw1, hg, L, ih']
   exact some_true (by omega)
  ·have hE : tyF (y :: r) = tyCk y := by simp only [tyF, hp, ne_eq, not_false_eq_true, if_true]
   have hq : (tyCk y != 0) = true := by simp [hp]
   rw [hE]
   refine ⟨a.length, ?_⟩
   rw [l30_8]
   simp (maxSteps := 100000000) only [ivc, rgb, mpb, anf, nilR, salloc, eq_self, Nat.reduceEqDiff, Nat.reduceLT, Nat.reduceLeDiff, Nat.reduceAdd, Nat.reduceBEq, Int.reduceNeg, reduceCtorEq, ↓reduceIte, tyb, ckH1, fltA, pqC, hi', hg, L, hp, hq]
   exact some_true (by omega)
def ckH2 (p : Pq) (x : Int × Int) : HL := [(60000, ⟨true, 9, [.agg (pqC p)]⟩), (60001, ⟨true, 2, [fltA x]⟩)]
theorem fn_loop {p : Pq} (hb : bP p) (hu : ∀ f ∈ p.fn, ∀ x ∈ f.ws, u32r x) : ∀ (r a : List Fq), p.fn = a ++ r ->
  ∃ k : Int, E.L 30 15 [.ptr 60000 0 0, .ptr 60001 0 0, .int .i64 0, .ro 5 (p.fn.map fqA), .int .i64 p.fn.length, .int .i64 a.length] (ckH2 p (0, 0)) =
   some ((if (fnF p a.length r).2 = 0 then .exit 2 else .ret, [.ptr 60000 0 0, .ptr 60001 0 0, .int .i64 (fnF p a.length r).2, .ro 5 (p.fn.map fqA), .int .i64 p.fn.length, .int .i64 k], ckH2 p (fnF p a.length r).1), True) := by
 have hs : p.fn.length ≤ 1000000000000000 := hb.fn
 intro r
 induction r with
 | nil =>
  intro a h
  rw [List.append_nil] at h
  have q : ((a.length : Int) < p.fn.length) = False := eq_false (by rw [h]; omega)
  refine ⟨a.length, ?_⟩
  rw [l30_15]
  simp (maxSteps := 100000000) only [ivc, rgb, anf, nilR, eq_self, Nat.reduceEqDiff, Nat.reduceLT, Nat.reduceLeDiff, Nat.reduceAdd, Nat.reduceBEq, reduceCtorEq, ↓reduceIte, tyb, ckH2, fltA, pqC, q, fnF]
 | cons y r ih =>
  intro a h
  have hi' : ((a.length : Int) < p.fn.length) = True := eq_true (by rw [h]; simp; omega)
  have hw1 : IntKind.i64.wrap ((a.length : Int) + 1) = a.length + 1 := wrap_id (by omega) (by rw [h] at hs; simp at hs; omega)
  have hg := getD_map (f := fqA) (show p.fn[a.length]? = some y by rw [h]; simp)
  obtain ⟨m, L⟩ := function_ev (p := p) (hb.fs y (by rw [h]; simp)) (hu y (by rw [h]; simp))
  obtain ⟨k, ih'⟩ := ih (a ++ [y]) (by rw [h]; simp)
  simp only [List.length_append, List.length_cons, List.length_nil, Int.natCast_add, Int.cast_ofNat_Int, Nat.zero_add, ckH2, fltA, pqC] at ih'
  simp only [fqA, fqC] at hg
  simp only [ckC, pqC, fqC, mpOb_eq, List.cons_append, List.nil_append, List.map_nil] at L
  by_cases hp : (fnCk p y).2 = 0
  ·have hE : fnF p a.length (y :: r) = fnF p (a.length + 1) r := by simp only [fnF, hp, ne_eq, not_true_eq_false, if_false]
   rw [hp] at L
   rw [hE]
   refine ⟨k, ?_⟩
   rw [l30_15]
   simp (maxSteps := 100000000) only [ivc, rgb, mpb, anf, vop, nilR, salloc, eq_self, Nat.reduceEqDiff, Nat.reduceLT, Nat.reduceLeDiff, Nat.reduceAdd, Nat.reduceMul, Nat.reduceBEq, reduceCtorEq, ↓reduceIte, tyb, ckH2, fltA, pqC, hi', hw1, hg, L, ih']
   exact some_true (by omega)
  ·have hE : fnF p a.length (y :: r) = (((a.length : Int), (fnCk p y).1), (fnCk p y).2) := by simp only [fnF, hp, ne_eq, not_false_eq_true, if_true]
   have hq : ((fnCk p y).2 != 0) = true := by simp [hp]
   rw [hE]
   refine ⟨a.length, ?_⟩
   rw [l30_15]
   simp (maxSteps := 100000000) only [ivc, rgb, mpb, anf, vop, nilR, salloc, eq_self, Nat.reduceEqDiff, Nat.reduceLT, Nat.reduceLeDiff, Nat.reduceAdd, Nat.reduceMul, Nat.reduceBEq, reduceCtorEq, ↓reduceIte, tyb, ckH2, fltA, pqC, hi', hg, L, hp, hq]
   exact some_true (by omega)
structure fewL (p : Pq) : Prop where
 fn : p.fn.length ≤ 12
 tx : p.tx.length ≤ 200
 ty : p.ty.length ≤ 12
 vl : p.vl.length ≤ 200
 en : p.en.length ≤ 200
 se : p.se.length ≤ 200
 ve : p.ve.length ≤ 200
 ofs : p.ofs.length ≤ 200
 co : p.co.length ≤ 200
 ws : ∀ f ∈ p.fn, f.ws.length ≤ 200
theorem few_parts {p : Pq} (h : fewW 200 p = true) : fewL p := by
 unfold fewW at h
 simp only [Bool.and_eq_true, Bool.not_eq_true'] at h
 obtain ⟨⟨⟨h1, _⟩, _⟩, h4⟩ := h
 unfold fwA at h1
 simp only [Bool.or_eq_false_iff, decide_eq_false_iff_not] at h1
 obtain ⟨⟨⟨⟨⟨⟨⟨⟨a1, a2⟩, a3⟩, a4⟩, a5⟩, a6⟩, a7⟩, a8⟩, a9⟩ := h1
 refine ⟨by omega, by omega, by omega, by omega, by omega, by omega, by omega, by omega, by omega, fun f hf => ?_⟩
 have := List.any_eq_false.1 h4 f hf
 unfold fwF at this
 simp only [Bool.or_eq_true, not_or, decide_eq_true_eq] at this
 omega
def ckB (p : Pq) : Bool := p.tx.any lgBW || p.en.any lgBW || p.se.any lgBW || p.vl.any vbB
noncomputable def ckM (p : Pq) : (Int × Int) × Int :=
 if ckB p = true then ((-1, 0), 2) else if tyF p.ty ≠ 0 then ((-1, 0), tyF p.ty) else fnF p 0 p.fn
theorem check_ev {p : Pq} (hb : bP p) (hu : ∀ f ∈ p.fn, ∀ x ∈ f.ws, u32r x) (hf : fewL p) :
  E.F 30 [pqA p] [] = some ((.tup [fltA (ckM p).1, .int .i64 (ckM p).2], []), True) := by
 have q1 : ((2000 : Int) < p.fn.length) = False := eq_false (by have := hf.fn; omega)
 have q2 : ((20000 : Int) < p.ve.length) = False := eq_false (by have := hf.ve; omega)
 have q3 : ((5000 : Int) < mx2 false (mx2 false (mx2 false (mx2 false (mx2 false (mx2 false p.tx.length p.ty.length) p.vl.length) p.en.length) p.se.length) p.ofs.length) p.co.length) = False := eq_false (by
  rw [Int.not_lt]
  simp only [mx2_le]
  have := hf.tx; have := hf.ty; have := hf.vl; have := hf.en; have := hf.se; have := hf.ofs; have := hf.co
  omega)
 have L1 := long_ev hb.tx
 have L2 := long_ev hb.en
 have L3 := long_ev hb.se
 have L4 := ckVs_ev hb.vl
 obtain ⟨k1, L5⟩ := ty_loop hb p.ty [] rfl
 obtain ⟨k2, L6⟩ := fn_loop hb hu p.fn [] rfl
 simp only [List.length_nil, Int.natCast_zero, ckH1, ckH2, fltA, pqC] at L5 L6
 have hZ : ∀ (k : Int) (r : List Fq), (fnF p k r).2 = 0 -> (fnF p k r).1 = (0, 0) := fun k r => by
  induction r generalizing k with
  | nil => intro _; rfl
  | cons y r ih =>
   intro h
   unfold fnF at h ⊢
   split at h
   ·rename_i h1; exact absurd h h1
   ·rename_i h1; rw [if_neg h1]; exact ih _ h
 unfold ckM
 cases h1 : p.tx.any lgBW with
 | true =>
  have hB : ckB p = true := by unfold ckB; simp only [h1, Bool.true_or]
  rw [h1] at L1
  rw [e30, if_pos hB, show pqA p = .agg (pqC p) from rfl]
  simp (maxSteps := 100000000) only [ivc, rgb, mpb, anf, vop, vlen, vbuiltin, nilR, salloc, eq_self, Nat.reduceEqDiff, Nat.reduceLT, Nat.reduceLeDiff, Nat.reduceAdd, Nat.reduceBEq, Int.reduceNeg, reduceCtorEq, ↓reduceIte, tyb, fltA, pqC, q1, q2, q3, L1]
  done
 | false =>
  rw [h1] at L1
  cases h2 : p.en.any lgBW with
  | true =>
   have hB : ckB p = true := by unfold ckB; simp only [h1, h2, Bool.or_true, Bool.true_or]
   rw [h2] at L2
   rw [e30, if_pos hB, show pqA p = .agg (pqC p) from rfl]
   simp (maxSteps := 100000000) only [ivc, rgb, mpb, anf, vop, vlen, vbuiltin, nilR, salloc, eq_self, Nat.reduceEqDiff, Nat.reduceLT, Nat.reduceLeDiff, Nat.reduceAdd, Nat.reduceBEq, Int.reduceNeg, reduceCtorEq, ↓reduceIte, tyb, fltA, pqC, q1, q2, q3, L1, L2]
   done
  | false =>
   rw [h2] at L2
   cases h3 : p.se.any lgBW with
   | true =>
    have hB : ckB p = true := by unfold ckB; simp only [h1, h2, h3, Bool.or_true, Bool.true_or, Bool.or_false]
    rw [h3] at L3
    rw [e30, if_pos hB, show pqA p = .agg (pqC p) from rfl]
    simp (maxSteps := 100000000) only [ivc, rgb, mpb, anf, vop, vlen, vbuiltin, nilR, salloc, eq_self, Nat.reduceEqDiff, Nat.reduceLT, Nat.reduceLeDiff, Nat.reduceAdd, Nat.reduceBEq, Int.reduceNeg, reduceCtorEq, ↓reduceIte, tyb, fltA, pqC, q1, q2, q3, L1, L2, L3]
    done
   | false =>
    rw [h3] at L3
    cases h4 : p.vl.any vbB with
    | true =>
     have hB : ckB p = true := by unfold ckB; simp only [h1, h2, h3, h4, Bool.or_true, Bool.or_false]
     rw [h4] at L4
     rw [e30, if_pos hB, show pqA p = .agg (pqC p) from rfl]
     simp (maxSteps := 100000000) only [ivc, rgb, mpb, anf, vop, vlen, vbuiltin, nilR, salloc, eq_self, Nat.reduceEqDiff, Nat.reduceLT, Nat.reduceLeDiff, Nat.reduceAdd, Nat.reduceMul, Nat.reduceBEq, Int.reduceNeg, reduceCtorEq, ↓reduceIte, tyb, fltA, pqC, q1, q2, q3, L1, L2, L3, L4]
     done
    | false =>
     rw [h4] at L4
     have hB : ckB p = false := by unfold ckB; simp only [h1, h2, h3, h4, Bool.or_false]
     rw [if_neg (by rw [hB]; simp)]
     by_cases ht : tyF p.ty = 0
     ·rw [if_neg (by simp [ht])]
      simp only [ht, if_true] at L5
      by_cases hn : (fnF p 0 p.fn).2 = 0
      ·have h0 := hZ 0 p.fn hn
       simp only [hn, h0, if_true] at L6
       rw [e30, show pqA p = .agg (pqC p) from rfl, hn, h0]
       simp (maxSteps := 100000000) only [ivc, rgb, mpb, anf, vop, vlen, vbuiltin, nilR, salloc, eq_self, Nat.reduceEqDiff, Nat.reduceLT, Nat.reduceLeDiff, Nat.reduceAdd, Nat.reduceMul, Nat.reduceBEq, Int.reduceNeg, reduceCtorEq, ↓reduceIte, tyb, fltA, pqC, q1, q2, q3, L1, L2, L3, L4, L5, L6]
       done
      ·simp only [hn, if_false] at L6
       rw [e30, show pqA p = .agg (pqC p) from rfl]
       simp (maxSteps := 100000000) only [ivc, rgb, mpb, anf, vop, vlen, vbuiltin, nilR, salloc, eq_self, Nat.reduceEqDiff, Nat.reduceLT, Nat.reduceLeDiff, Nat.reduceAdd, Nat.reduceMul, Nat.reduceBEq, Int.reduceNeg, reduceCtorEq, ↓reduceIte, tyb, fltA, pqC, q1, q2, q3, L1, L2, L3, L4, L5, L6]
       done
     ·rw [if_pos ht]
      simp only [ht, if_false] at L5
      rw [e30, show pqA p = .agg (pqC p) from rfl]
      simp (maxSteps := 100000000) only [ivc, rgb, mpb, anf, vop, vlen, vbuiltin, nilR, salloc, eq_self, Nat.reduceEqDiff, Nat.reduceLT, Nat.reduceLeDiff, Nat.reduceAdd, Nat.reduceMul, Nat.reduceBEq, Int.reduceNeg, reduceCtorEq, ↓reduceIte, tyb, fltA, pqC, q1, q2, q3, L1, L2, L3, L4, L5]
      done
theorem readM_at {ws : List Int} {n : Int} (h : (readM ws n).2 = 0) : (readM ws n).1.at_ = n := by
 unfold readM at h ⊢
 split at h
 ·cases h
 ·rename_i h0
  rw [if_neg h0]
  split at h
  ·rename_i h1
   rw [if_pos h1]
   split at h
   ·rename_i h2
    rw [if_pos h2]
    split at h
    ·rename_i h3
     rw [if_pos h3]
     simp only
     unfold rdS
     have K1 := idxS_kept (rowW (ws.getD n.toNat 0 % 256)).x.length true (ws.drop (n.toNat + 1)) (rdI n (ws.getD n.toNat 0))
     change Kept _ _ (rd1 ws n) /\ (rd1 ws n).2.2.x.length = _ /\ (rd1 ws n).2.2.l = _ /\ (rd1 ws n).2.2.ra = _ at K1
     generalize rd1 ws n = s1 at *
     generalize rowW (ws.getD n.toNat 0 % 256) = r at *
     generalize ws.getD n.toNat 0 = w at *
     obtain ⟨K1, x1, l1, a1⟩ := K1
     obtain ⟨k2, hk2, K2, x2, l2⟩ := rd2_kept r s1
     have b1 : s1.2.2.b = w / 65536 % 256 := K1.b
     have b2 : (rd2 r s1).2.2.b = w / 65536 % 256 := by rw [K2.b, b1]
     have hl2 : (rd2 r s1).2.2.l = [] := by rw [l2, l1]; rfl
     obtain ⟨k3, hk3, K3, x3, l3⟩ := rd3_kept r (rd2 r s1) hl2 (by rw [b2]; omega)
     rw [K3.at_, K2.at_, K1.at_]; rfl
    ·cases h
   ·cases h
  ·cases h
def chn : List Ins -> Int -> Int -> Prop
 | [], p, len => p = len
 | i :: r, p, len => i.at_ = p /\ 1 ≤ i.n /\ chn r (p + i.n) len
theorem chn_mem : ∀ {l : List Ins} {p len : Int}, chn l p len -> p ≤ len /\ ∀ i ∈ l, (p ≤ i.at_ /\ 1 ≤ i.n) /\ i.at_ < len /\ i.at_ + i.n ≤ len /\ (i.at_ + i.n = len \/ ∃ j ∈ l, j.at_ = i.at_ + i.n)
 | [], p, len, h => ⟨by unfold chn at h; omega, fun i hi => by cases hi⟩
 | y :: r, p, len, h => by
  unfold chn at h
  obtain ⟨h1, h2, h3⟩ := h
  obtain ⟨g1, g2⟩ := chn_mem h3
  refine ⟨by omega, fun i hi => ?_⟩
  rcases List.mem_cons.1 hi with hi | hi
  ·subst hi
   refine ⟨⟨by omega, h2⟩, by omega, by omega, ?_⟩
   cases r with
   | nil => unfold chn at h3; left; omega
   | cons z r => unfold chn at h3; right; exact ⟨z, by simp, by rw [h3.1, h1]⟩
  ·obtain ⟨k1, k2, k3, k4⟩ := g2 i hi
   refine ⟨⟨by omega, k1.2⟩, k2, k3, ?_⟩
   rcases k4 with k4 | ⟨j, hj, k4⟩
   ·exact .inl k4
   ·exact .inr ⟨j, List.mem_cons_of_mem _ hj, k4⟩
theorem allM_chain {ws : List Int} : ∀ (f : Nat) (p : Int) (acc : List Ins), (ws.length : Int) ≤ p + f -> p ≤ ws.length -> (allM (readM ws) ws.length f p acc).2.2 = 0 -> ∃ r, (allM (readM ws) ws.length f p acc).1 = acc ++ r /\ chn r p ws.length
 | 0, p, acc, h1, h2, h3 => ⟨[], by simp [allM], by unfold chn; omega⟩
 | f + 1, p, acc, h1, h2, h3 => by
  unfold allM at h3 ⊢
  split at h3
  ·rename_i q1
   rw [if_pos q1]
   split at h3
   ·rename_i q2
    rw [if_pos q2]
    obtain ⟨n1, n2, n3, n4, _⟩ := readM_n q2
    obtain ⟨r, e, c⟩ := allM_chain f _ _ (by omega) n2 h3
    refine ⟨(readM ws p).1 :: r, by rw [e]; simp, ?_⟩
    unfold chn
    exact ⟨readM_at q2, n1, c⟩
   ·rename_i q2
    exact absurd h3 q2
  ·rename_i q1
   rw [if_neg q1]
   exact ⟨[], by simp, by unfold chn; omega⟩
theorem al_chain {f : Fq} (h : (alW f).2.2 = 0) : chn (alW f).1 0 f.ws.length := by
 obtain ⟨r, e, c⟩ := allM_chain (ws := f.ws) f.ws.length 0 [] (by omega) (by omega) h
 unfold alW
 rw [e, List.nil_append]
 exact c
def begM (l : List Ins) (b : List Bool) : List Bool := l.foldl (fun b i => b.set i.at_.toNat true) b
def beg0 (n : Nat) : List Bool := (List.replicate (n + 1) false).set n true
theorem begM_len : ∀ (l : List Ins) (b : List Bool), (begM l b).length = b.length
 | [], b => rfl
 | i :: r, b => by
  have := begM_len r (b.set i.at_.toNat true)
  rw [List.length_set] at this
  exact this
theorem beg0_len {n : Nat} : (beg0 n).length = n + 1 := by simp [beg0]
theorem begM_true {k : Nat} : ∀ (l : List Ins) (b : List Bool), k < b.length -> (b.getD k false = true \/ ∃ i ∈ l, i.at_.toNat = k) -> (begM l b).getD k false = true
 | [], b, hk, h => by
  rcases h with h | ⟨i, hi, _⟩
  ·exact h
  ·cases hi
 | i :: r, b, hk, h => by
  refine begM_true r (b.set i.at_.toNat true) (by rw [List.length_set]; exact hk) ?_
  by_cases e : i.at_.toNat = k
  ·left
   rw [List.getD_eq_getElem?_getD, e, List.getElem?_set_self hk]; rfl
  ·rcases h with h | ⟨j, hj, h⟩
   ·left
    rw [List.getD_eq_getElem?_getD] at h ⊢
    rw [List.getElem?_set_ne e]
    exact h
   ·right
    rcases List.mem_cons.1 hj with hj | hj
    ·subst hj; exact absurd h e
    ·exact ⟨j, hj, h⟩
theorem bg_lk {n : Int} : ∀ (l : List Ins) (m : List (Int × Bool)), (lkI (bgM m l) n).getD false = true -> (lkI m n).getD false = true \/ ∃ i ∈ l, i.at_ = n
 | [], m, h => .inl h
 | i :: r, m, h => by
  rcases bg_lk r (ptI m i.at_ true) h with h | ⟨j, hj, h⟩
  ·rw [lkI_pt] at h
   by_cases e : n = i.at_
   ·exact .inr ⟨i, by simp, e.symm⟩
   ·rw [if_neg e] at h; exact .inl h
  ·exact .inr ⟨j, List.mem_cons_of_mem _ hj, h⟩
def okN (l : List Ins) (len n : Int) : Prop := n = len \/ ∃ j ∈ l, j.at_ = n
theorem bg_ok {l : List Ins} {len n : Int} (h : (lkI (bgM [] l) n).getD false = true) : okN l len n := by
 rcases bg_lk l [] h with h | h
 ·cases h
 ·exact .inr h
theorem row18 : (rowW 18).w = 14 := rfl
theorem row19 : (rowW 19).w = 14 := rfl
theorem rowc0 : (rowW 0).c = 0 := rfl
theorem rowc1 : (rowW 1).c = 0 := rfl
theorem mem_cmp {a b n : Int} (h : n ∈ cmpM a b) : n = a \/ n = b := by
 unfold cmpM at h
 split at h
 ·exact .inl (by simpa using h)
 ·simpa using h
theorem flow_next {p : Pq} {f : Fq} {l : List Ins} {i : Ins} (hs : f.ws.length ≤ 1000000) (hc : chn l 0 f.ws.length) (hi : i ∈ l) (hg : gdP i) (h : insW p f (bgM [] l) i = true) :
  ∀ n ∈ nextM i, okN l f.ws.length n := by
 obtain ⟨k1, k2, k3, k4⟩ := (chn_mem hc).2 i hi
 have hn : okN l f.ws.length (nxW i) := by
  unfold nxW
  rw [wrap_id (by omega) (by omega)]
  exact k4
 unfold insW inP at h
 simp only [Bool.and_eq_true] at h
 obtain ⟨⟨⟨⟨_, hw⟩, _⟩, _⟩, hz⟩ := h
 intro n hm
 unfold nextM at hm
 split at hm
 ·cases hm
 ·split at hm
  ·rename_i q
   have q : i.op = 18 := by simpa using q
   rw [q, row18] at hw
   rw [List.mem_singleton.1 hm]
   exact bg_ok hw
  ·split at hm
   ·rename_i q
    have q : i.op = 19 := by simpa using q
    rw [q, row19] at hw
    rcases mem_cmp hm with e | e
    ·rw [e]; exact hn
    ·rw [e]; exact bg_ok hw
   ·split at hm
    ·rename_i q
     rcases mem_cmp hm with e | e
     ·rw [e]; exact hn
     ·rw [e]
      unfold inZ at hz
      have n1 : i.op ≠ 1 := fun e1 => by
       have := hg.rz (by rw [e1, rowc1]; rfl)
       omega
      have n0 : i.op ≠ 0 := fun e1 => by
       have := hg.rz (by rw [e1, rowc0]; rfl)
       omega
      rw [if_neg n1, if_neg n0, Bool.or_eq_true] at hz
      rcases hz with hz | hz
      ·have : i.ra = -1 := by simpa using hz
       omega
      ·exact bg_ok hz
    ·rw [List.mem_singleton.1 hm]; exact hn
theorem okN_beg {l : List Ins} {len : Nat} {n : Int} (hc : chn l 0 len) (h : okN l len n) : 0 ≤ n /\ n < (len : Int) + 1 /\ (begM l (beg0 len)).getD n.toNat false = true := by
 have hk : n < (len : Int) + 1 /\ 0 ≤ n := by
  rcases h with h | ⟨j, hj, h⟩
  ·omega
  ·obtain ⟨k1, k2, _⟩ := (chn_mem hc).2 j hj
   omega
 refine ⟨hk.2, hk.1, begM_true l _ (by rw [beg0_len]; omega) ?_⟩
 rcases h with h | ⟨j, hj, h⟩
 ·left
  have : n.toNat = len := by omega
  rw [this]
  unfold beg0
  rw [List.getD_eq_getElem?_getD, List.getElem?_set_self (by simp)]; rfl
 ·exact .inr ⟨j, hj, by rw [h]⟩
theorem part_reg {p : Pq} {f : Fq} {m : List (Int × Bool)} {c n : Int} (hc : isR c = true) (h : partW p f m c n = true) : n < f.cl.length := by
 have key : ∀ k, clsW f n k = true -> n < f.cl.length := fun k hk => by
  unfold clsW at hk
  rw [Bool.and_eq_true] at hk
  exact of_decide_eq_true hk.1
 unfold isR at hc
 simp only [Bool.or_eq_true, beq_iff_eq] at hc
 rcases hc with (hc | hc) | hc
 ·subst hc; exact key 1 h
 ·subst hc; exact key 2 h
 ·subst hc; exact key 0 h
theorem tab_wr : ∀ n : Nat, n < 24 -> (rowsT.getD n opZ).wr = true -> isR (rowsT.getD n opZ).a = true := by decide
theorem flow_list {p : Pq} {f : Fq} {m : List (Int × Bool)} {i : Ins} (hg : gdP i) (h : insW p f m i = true) : ∀ r ∈ i.l, 0 ≤ r /\ r < f.cl.length /\ f.cl.getD r.toNat 0 = 2 := by
 unfold insW at h
 simp only [Bool.and_eq_true] at h
 intro r hr
 have := List.all_eq_true.1 h.1.2 r hr
 have : clsW f r 2 = true := this
 unfold clsW at this
 rw [Bool.and_eq_true] at this
 exact ⟨(hg.lw r hr).1, of_decide_eq_true this.1, by simpa using this.2⟩
theorem flow_uses {p : Pq} {f : Fq} {m : List (Int × Bool)} {i : Ins} (hg : gdP i) (h : insW p f m i = true) : (∀ r ∈ (usesM i).1, 0 ≤ r /\ r < f.cl.length) /\ (usesM i).2 < f.cl.length := by
 have hL := flow_list hg h
 unfold insW inP at h
 simp only [Bool.and_eq_true] at h
 obtain ⟨⟨⟨⟨⟨⟨ha, hb⟩, hc⟩, _⟩, _⟩, _⟩, _⟩ := h
 have hop : opIn i.op = true := by
  unfold opIn
  rw [decide_eq_true hg.op.1, decide_eq_true hg.op.2]; rfl
 have hw : (rowW i.op).wr = true -> isR (rowW i.op).a = true := by
  have := tab_wr i.op.toNat (by have := hg.op; omega)
  unfold rowW
  rw [if_pos hop]
  exact this
 unfold usesM
 rw [if_pos hop]
 refine ⟨fun r hr => ?_, ?_⟩
 ·simp only [List.mem_append] at hr
  rcases hr with hr | hr | hr | hr
  ·split at hr
   ·cases hr
   ·split at hr
    ·rename_i q
     rw [List.mem_singleton.1 hr]
     exact ⟨hg.a.1, part_reg q ha⟩
    ·cases hr
  ·split at hr
   ·rename_i q
    rw [List.mem_singleton.1 hr]
    exact ⟨hg.b.1, part_reg q hb⟩
   ·cases hr
  ·split at hr
   ·rename_i q
    rw [List.mem_singleton.1 hr]
    exact ⟨hg.c.1, part_reg q hc⟩
   ·cases hr
  ·split at hr
   ·exact ⟨(hL r hr).1, (hL r hr).2.1⟩
   ·cases hr
 ·simp only
  split
  ·rename_i q
   exact part_reg (hw q) ha
  ·omega
theorem inE_none {p : Pq} {f : Fq} {m : List (Int × Bool)} : ∀ {l : List Ins}, inE p f m l = none -> ∀ i ∈ l, insW p f m i = true
 | [], _, i, hi => by cases hi
 | y :: r, h, i, hi => by
  unfold inE at h
  split at h
  ·rename_i q
   rcases List.mem_cons.1 hi with hi | hi
   ·subst hi; exact q
   ·exact inE_none h i hi
  ·cases h
theorem fnCk_ok {p : Pq} {f : Fq} (h : (fnCk p f).2 = 0) : (alW f).2.2 = 0 /\ ∀ i ∈ (alW f).1, gdP i /\ insW p f (bgM [] (alW f).1) i = true := by
 have hall : ∀ i ∈ (alW f).1, gdP i := allM_gd _ _ _ (fun i hi => by cases hi)
 unfold fnCk at h
 split at h
 ·cases h
 ·split at h
  ·cases h
  ·split at h
   ·rename_i q; exact absurd h q
   ·rename_i q
    refine ⟨by simpa using q, fun i hi => ⟨hall i hi, ?_⟩⟩
    cases e : inE p f (bgM [] (alW f).1) (alW f).1 with
    | none => exact inE_none e i hi
    | some a => rw [e] at h; cases h
theorem fnF_ok {p : Pq} : ∀ (l : List Fq) (k : Int), (fnF p k l).2 = 0 -> ∀ f ∈ l, (fnCk p f).2 = 0
 | [], _, _, f, hf => by cases hf
 | y :: r, k, h, f, hf => by
  unfold fnF at h
  split at h
  ·rename_i q; exact absurd h q
  ·rename_i q
   rcases List.mem_cons.1 hf with hf | hf
   ·subst hf; simpa using q
   ·exact fnF_ok r _ h f hf
theorem ckM_ok {p : Pq} (h : (ckM p).2 = 0) : ∀ f ∈ p.fn, (fnCk p f).2 = 0 := by
 unfold ckM at h
 split at h
 ·cases h
 ·split at h
  ·rename_i q; exact absurd h q
  ·exact fnF_ok _ _ h
def flR (f : Fq) (r : Int) : Bool := decide (r < 0) || decide ((f.cl.length : Int) ≤ r)
theorem flR_ev {f : Fq} {r : Int} : E.F 32 [.int .i64 r, .ptr 100000 0 0] [(100000, ⟨true, 5, [.agg [.str f.nm, .int .i64 f.pa, .ro 1 (f.cl.map (AV.int .i64)), .ro 1 (f.ws.map (AV.int .u32)), .ro 2 (f.mp.map mqA)]]⟩)] = some ((.bool (flR f r), [(100000, ⟨true, 5, [.agg [.str f.nm, .int .i64 f.pa, .ro 1 (f.cl.map (AV.int .i64)), .ro 1 (f.ws.map (AV.int .u32)), .ro 2 (f.mp.map mqA)]]⟩)]), True) := by
 unfold flR
 rw [e32]
 by_cases h : r < 0
 ·simp (maxSteps := 100000000) only [ivc, rgb, mpb, anf, vop, vlen, vbuiltin, nilR, eq_self, Nat.reduceEqDiff, Nat.reduceLT, Nat.reduceLeDiff, Nat.reduceAdd, Nat.reduceBEq, reduceCtorEq, ↓reduceIte, tyb, h]
 ·simp (maxSteps := 100000000) only [ivc, rgb, mpb, anf, vop, vlen, vbuiltin, nilR, eq_self, Nat.reduceEqDiff, Nat.reduceLT, Nat.reduceLeDiff, Nat.reduceAdd, Nat.reduceBEq, reduceCtorEq, ↓reduceIte, tyb, h]
  try rfl
def flL (f : Fq) (r : Int) : Bool := f.cl.getD r.toNat 0 != 2
theorem flL_ev {f : Fq} {r : Int} (h0 : 0 ≤ r) (h1 : r < f.cl.length) : E.F 33 [.int .i64 r, .ptr 100000 0 0] [(100000, ⟨true, 5, [.agg [.str f.nm, .int .i64 f.pa, .ro 1 (f.cl.map (AV.int .i64)), .ro 1 (f.ws.map (AV.int .u32)), .ro 2 (f.mp.map mqA)]]⟩)] = some ((.bool (flL f r), [(100000, ⟨true, 5, [.agg [.str f.nm, .int .i64 f.pa, .ro 1 (f.cl.map (AV.int .i64)), .ro 1 (f.ws.map (AV.int .u32)), .ro 2 (f.mp.map mqA)]]⟩)]), True) := by
 have hg : (f.cl.map (AV.int .i64)).getD r.toNat .junk = .int .i64 (f.cl.getD r.toNat 0) := row_get 0 (by omega)
 unfold flL
 rw [e33]
 simp (maxSteps := 100000000) only [ivc, rgb, mpb, anf, vop, nilR, eq_self, Nat.reduceEqDiff, Nat.reduceLT, Nat.reduceLeDiff, Nat.reduceAdd, Nat.reduceBEq, reduceCtorEq, ↓reduceIte, tyb, h0, h1, hg]
theorem flR_loop {f : Fq} {l : List _} (hs : l.length ≤ 1000000000000000) (hf : ∀ r ∈ l, E.F 32 [.int .i64 r, .ptr 100000 0 0] [(100000, ⟨true, 5, [.agg [.str f.nm, .int .i64 f.pa, .ro 1 (f.cl.map (AV.int .i64)), .ro 1 (f.ws.map (AV.int .u32)), .ro 2 (f.mp.map mqA)]]⟩)] = some ((.bool (flR f r), [(100000, ⟨true, 5, [.agg [.str f.nm, .int .i64 f.pa, .ro 1 (f.cl.map (AV.int .i64)), .ro 1 (f.ws.map (AV.int .u32)), .ro 2 (f.mp.map mqA)]]⟩)]), True)) : ∀ (r m : List _), l = m ++ r ->
  ∃ j : Int, 0 ≤ j /\ E.L 60 3 [.ro 1 (l.map (AV.int .i64)), .fn (.func 32) [] [.ptr 100000 0 0], .int .i64 0, .int .i64 l.length, .int .i64 m.length] [(100000, ⟨true, 5, [.agg [.str f.nm, .int .i64 f.pa, .ro 1 (f.cl.map (AV.int .i64)), .ro 1 (f.ws.map (AV.int .u32)), .ro 2 (f.mp.map mqA)]]⟩)] = some ((if r.any (flR f) then .ret else .exit 0, [.ro 1 (l.map (AV.int .i64)), .fn (.func 32) [] [.ptr 100000 0 0], .int .i64 (if r.any (flR f) then j else 0), .int .i64 l.length, .int .i64 j], [(100000, ⟨true, 5, [.agg [.str f.nm, .int .i64 f.pa, .ro 1 (f.cl.map (AV.int .i64)), .ro 1 (f.ws.map (AV.int .u32)), .ro 2 (f.mp.map mqA)]]⟩)]), True) := by
 intro r
 induction r with
 | nil =>
  intro m h
  rw [List.append_nil] at h
  have q : ((m.length : Int) < l.length) = False := eq_false (by rw [h]; omega)
  refine ⟨m.length, by omega, ?_⟩
  rw [l60_3]
  simp (maxSteps := 100000000) only [ivc, rgb, mpb, anf, nilR, eq_self, Nat.reduceEqDiff, Nat.reduceLT, Nat.reduceBEq, reduceCtorEq, ↓reduceIte, tyb, q, List.any_nil]
 | cons y r ih =>
  intro m h
  have hi' : ((m.length : Int) < l.length) = True := eq_true (by rw [h]; simp; omega)
  have hw1 : IntKind.i64.wrap ((m.length : Int) + 1) = m.length + 1 := wrap_id (by omega) (by rw [h] at hs; simp at hs; omega)
  have hg := getD_map (f := AV.int .i64) (show l[m.length]? = some y by rw [h]; simp)
  have hy := hf y (by rw [h]; simp)
  cases hp : flR f y with
  | true =>
   rw [hp] at hy
   refine ⟨m.length, by omega, ?_⟩
   rw [l60_3]
   simp (maxSteps := 100000000) only [ivc, rgb, mpb, anf, nilR, eq_self, Nat.reduceEqDiff, Nat.reduceLT, Nat.reduceAdd, Nat.reduceMul, Nat.reduceBEq, reduceCtorEq, ↓reduceIte, tyb, hi', hg, hy, List.any_cons, hp]
   exact some_true (by omega)
  | false =>
   obtain ⟨j, hj, ih'⟩ := ih (m ++ [y]) (by rw [h]; simp)
   simp only [List.length_append, List.length_cons, List.length_nil, Int.natCast_add, Int.cast_ofNat_Int, Nat.zero_add] at ih'
   rw [hp] at hy
   refine ⟨j, hj, ?_⟩
   rw [l60_3]
   simp (maxSteps := 100000000) only [ivc, rgb, mpb, anf, nilR, eq_self, Nat.reduceEqDiff, Nat.reduceLT, Nat.reduceAdd, Nat.reduceMul, Nat.reduceBEq, reduceCtorEq, ↓reduceIte, tyb, hi', hw1, hg, hy, ih', List.any_cons, hp]
   exact some_true (by omega)
theorem flR_idx {f : Fq} {l : List _} (hs : l.length ≤ 1000000000000000) (hf : ∀ r ∈ l, E.F 32 [.int .i64 r, .ptr 100000 0 0] [(100000, ⟨true, 5, [.agg [.str f.nm, .int .i64 f.pa, .ro 1 (f.cl.map (AV.int .i64)), .ro 1 (f.ws.map (AV.int .u32)), .ro 2 (f.mp.map mqA)]]⟩)] = some ((.bool (flR f r), [(100000, ⟨true, 5, [.agg [.str f.nm, .int .i64 f.pa, .ro 1 (f.cl.map (AV.int .i64)), .ro 1 (f.ws.map (AV.int .u32)), .ro 2 (f.mp.map mqA)]]⟩)]), True)) : ∃ j : Int, decide (0 ≤ j) = l.any (flR f) /\ E.F 60 [.ro 1 (l.map (AV.int .i64)), .fn (.func 32) [] [.ptr 100000 0 0]] [(100000, ⟨true, 5, [.agg [.str f.nm, .int .i64 f.pa, .ro 1 (f.cl.map (AV.int .i64)), .ro 1 (f.ws.map (AV.int .u32)), .ro 2 (f.mp.map mqA)]]⟩)] = some ((.int .i64 j, [(100000, ⟨true, 5, [.agg [.str f.nm, .int .i64 f.pa, .ro 1 (f.cl.map (AV.int .i64)), .ro 1 (f.ws.map (AV.int .u32)), .ro 2 (f.mp.map mqA)]]⟩)]), True) := by
 obtain ⟨j, hj, L⟩ := flR_loop hs hf l [] rfl
 simp only [List.length_nil, Int.natCast_zero] at L
 cases ha : l.any (flR f) with
 | true =>
  rw [ha] at L
  simp only [if_true] at L
  refine ⟨j, by simp [hj], ?_⟩
  rw [e60]
  simp (maxSteps := 100000000) only [ivc, rgb, mpb, anf, vlen, vbuiltin, eq_self, Nat.reduceEqDiff, Nat.reduceLT, Nat.reduceLeDiff, Nat.reduceAdd, Nat.reduceBEq, Int.reduceNeg, reduceCtorEq, ↓reduceIte, tyb, L]
 | false =>
  rw [ha] at L
  simp only [Bool.false_eq_true, if_false] at L
  refine ⟨-1, by simp, ?_⟩
  rw [e60]
  simp (maxSteps := 100000000) only [ivc, rgb, mpb, anf, vlen, vbuiltin, eq_self, Nat.reduceEqDiff, Nat.reduceLT, Nat.reduceLeDiff, Nat.reduceAdd, Nat.reduceBEq, Int.reduceNeg, reduceCtorEq, ↓reduceIte, tyb, L]
theorem flR_any {f : Fq} {l : List _} (hs : l.length ≤ 1000000000000000) (hf : ∀ r ∈ l, E.F 32 [.int .i64 r, .ptr 100000 0 0] [(100000, ⟨true, 5, [.agg [.str f.nm, .int .i64 f.pa, .ro 1 (f.cl.map (AV.int .i64)), .ro 1 (f.ws.map (AV.int .u32)), .ro 2 (f.mp.map mqA)]]⟩)] = some ((.bool (flR f r), [(100000, ⟨true, 5, [.agg [.str f.nm, .int .i64 f.pa, .ro 1 (f.cl.map (AV.int .i64)), .ro 1 (f.ws.map (AV.int .u32)), .ro 2 (f.mp.map mqA)]]⟩)]), True)) : E.F 31 [.ro 1 (l.map (AV.int .i64)), .fn (.func 32) [] [.ptr 100000 0 0]] [(100000, ⟨true, 5, [.agg [.str f.nm, .int .i64 f.pa, .ro 1 (f.cl.map (AV.int .i64)), .ro 1 (f.ws.map (AV.int .u32)), .ro 2 (f.mp.map mqA)]]⟩)] = some ((.bool (l.any (flR f)), [(100000, ⟨true, 5, [.agg [.str f.nm, .int .i64 f.pa, .ro 1 (f.cl.map (AV.int .i64)), .ro 1 (f.ws.map (AV.int .u32)), .ro 2 (f.mp.map mqA)]]⟩)]), True) := by
 obtain ⟨j, hj, L⟩ := flR_idx hs hf
 rw [e31]
 have hj' : decide (j ≥ 0) = l.any (flR f) := hj
 simp (maxSteps := 100000000) only [ivc, rgb, mpb, anf, nilR, eq_self, Nat.reduceEqDiff, Nat.reduceLT, Nat.reduceLeDiff, Nat.reduceAdd, Nat.reduceMul, Nat.reduceBEq, reduceCtorEq, ↓reduceIte, tyb, L, hj']
theorem flL_loop {f : Fq} {l : List _} (hs : l.length ≤ 1000000000000000) (hf : ∀ r ∈ l, E.F 33 [.int .i64 r, .ptr 100000 0 0] [(100000, ⟨true, 5, [.agg [.str f.nm, .int .i64 f.pa, .ro 1 (f.cl.map (AV.int .i64)), .ro 1 (f.ws.map (AV.int .u32)), .ro 2 (f.mp.map mqA)]]⟩)] = some ((.bool (flL f r), [(100000, ⟨true, 5, [.agg [.str f.nm, .int .i64 f.pa, .ro 1 (f.cl.map (AV.int .i64)), .ro 1 (f.ws.map (AV.int .u32)), .ro 2 (f.mp.map mqA)]]⟩)]), True)) : ∀ (r m : List _), l = m ++ r ->
  ∃ j : Int, 0 ≤ j /\ E.L 60 3 [.ro 1 (l.map (AV.int .i64)), .fn (.func 33) [] [.ptr 100000 0 0], .int .i64 0, .int .i64 l.length, .int .i64 m.length] [(100000, ⟨true, 5, [.agg [.str f.nm, .int .i64 f.pa, .ro 1 (f.cl.map (AV.int .i64)), .ro 1 (f.ws.map (AV.int .u32)), .ro 2 (f.mp.map mqA)]]⟩)] = some ((if r.any (flL f) then .ret else .exit 0, [.ro 1 (l.map (AV.int .i64)), .fn (.func 33) [] [.ptr 100000 0 0], .int .i64 (if r.any (flL f) then j else 0), .int .i64 l.length, .int .i64 j], [(100000, ⟨true, 5, [.agg [.str f.nm, .int .i64 f.pa, .ro 1 (f.cl.map (AV.int .i64)), .ro 1 (f.ws.map (AV.int .u32)), .ro 2 (f.mp.map mqA)]]⟩)]), True) := by
 intro r
 induction r with
 | nil =>
  intro m h
  rw [List.append_nil] at h
  have q : ((m.length : Int) < l.length) = False := eq_false (by rw [h]; omega)
  refine ⟨m.length, by omega, ?_⟩
  rw [l60_3]
  simp (maxSteps := 100000000) only [ivc, rgb, mpb, anf, nilR, eq_self, Nat.reduceEqDiff, Nat.reduceLT, Nat.reduceBEq, reduceCtorEq, ↓reduceIte, tyb, q, List.any_nil]
 | cons y r ih =>
  intro m h
  have hi' : ((m.length : Int) < l.length) = True := eq_true (by rw [h]; simp; omega)
  have hw1 : IntKind.i64.wrap ((m.length : Int) + 1) = m.length + 1 := wrap_id (by omega) (by rw [h] at hs; simp at hs; omega)
  have hg := getD_map (f := AV.int .i64) (show l[m.length]? = some y by rw [h]; simp)
  have hy := hf y (by rw [h]; simp)
  cases hp : flL f y with
  | true =>
   rw [hp] at hy
   refine ⟨m.length, by omega, ?_⟩
   rw [l60_3]
   simp (maxSteps := 100000000) only [ivc, rgb, mpb, anf, nilR, eq_self, Nat.reduceEqDiff, Nat.reduceLT, Nat.reduceAdd, Nat.reduceMul, Nat.reduceBEq, reduceCtorEq, ↓reduceIte, tyb, hi', hg, hy, List.any_cons, hp]
   exact some_true (by omega)
  | false =>
   obtain ⟨j, hj, ih'⟩ := ih (m ++ [y]) (by rw [h]; simp)
   simp only [List.length_append, List.length_cons, List.length_nil, Int.natCast_add, Int.cast_ofNat_Int, Nat.zero_add] at ih'
   rw [hp] at hy
   refine ⟨j, hj, ?_⟩
   rw [l60_3]
   simp (maxSteps := 100000000) only [ivc, rgb, mpb, anf, nilR, eq_self, Nat.reduceEqDiff, Nat.reduceLT, Nat.reduceAdd, Nat.reduceMul, Nat.reduceBEq, reduceCtorEq, ↓reduceIte, tyb, hi', hw1, hg, hy, ih', List.any_cons, hp]
   exact some_true (by omega)
theorem flL_idx {f : Fq} {l : List _} (hs : l.length ≤ 1000000000000000) (hf : ∀ r ∈ l, E.F 33 [.int .i64 r, .ptr 100000 0 0] [(100000, ⟨true, 5, [.agg [.str f.nm, .int .i64 f.pa, .ro 1 (f.cl.map (AV.int .i64)), .ro 1 (f.ws.map (AV.int .u32)), .ro 2 (f.mp.map mqA)]]⟩)] = some ((.bool (flL f r), [(100000, ⟨true, 5, [.agg [.str f.nm, .int .i64 f.pa, .ro 1 (f.cl.map (AV.int .i64)), .ro 1 (f.ws.map (AV.int .u32)), .ro 2 (f.mp.map mqA)]]⟩)]), True)) : ∃ j : Int, decide (0 ≤ j) = l.any (flL f) /\ E.F 60 [.ro 1 (l.map (AV.int .i64)), .fn (.func 33) [] [.ptr 100000 0 0]] [(100000, ⟨true, 5, [.agg [.str f.nm, .int .i64 f.pa, .ro 1 (f.cl.map (AV.int .i64)), .ro 1 (f.ws.map (AV.int .u32)), .ro 2 (f.mp.map mqA)]]⟩)] = some ((.int .i64 j, [(100000, ⟨true, 5, [.agg [.str f.nm, .int .i64 f.pa, .ro 1 (f.cl.map (AV.int .i64)), .ro 1 (f.ws.map (AV.int .u32)), .ro 2 (f.mp.map mqA)]]⟩)]), True) := by
 obtain ⟨j, hj, L⟩ := flL_loop hs hf l [] rfl
 simp only [List.length_nil, Int.natCast_zero] at L
 cases ha : l.any (flL f) with
 | true =>
  rw [ha] at L
  simp only [if_true] at L
  refine ⟨j, by simp [hj], ?_⟩
  rw [e60]
  simp (maxSteps := 100000000) only [ivc, rgb, mpb, anf, vlen, vbuiltin, eq_self, Nat.reduceEqDiff, Nat.reduceLT, Nat.reduceLeDiff, Nat.reduceAdd, Nat.reduceBEq, Int.reduceNeg, reduceCtorEq, ↓reduceIte, tyb, L]
 | false =>
  rw [ha] at L
  simp only [Bool.false_eq_true, if_false] at L
  refine ⟨-1, by simp, ?_⟩
  rw [e60]
  simp (maxSteps := 100000000) only [ivc, rgb, mpb, anf, vlen, vbuiltin, eq_self, Nat.reduceEqDiff, Nat.reduceLT, Nat.reduceLeDiff, Nat.reduceAdd, Nat.reduceBEq, Int.reduceNeg, reduceCtorEq, ↓reduceIte, tyb, L]
theorem flL_any {f : Fq} {l : List _} (hs : l.length ≤ 1000000000000000) (hf : ∀ r ∈ l, E.F 33 [.int .i64 r, .ptr 100000 0 0] [(100000, ⟨true, 5, [.agg [.str f.nm, .int .i64 f.pa, .ro 1 (f.cl.map (AV.int .i64)), .ro 1 (f.ws.map (AV.int .u32)), .ro 2 (f.mp.map mqA)]]⟩)] = some ((.bool (flL f r), [(100000, ⟨true, 5, [.agg [.str f.nm, .int .i64 f.pa, .ro 1 (f.cl.map (AV.int .i64)), .ro 1 (f.ws.map (AV.int .u32)), .ro 2 (f.mp.map mqA)]]⟩)]), True)) : E.F 31 [.ro 1 (l.map (AV.int .i64)), .fn (.func 33) [] [.ptr 100000 0 0]] [(100000, ⟨true, 5, [.agg [.str f.nm, .int .i64 f.pa, .ro 1 (f.cl.map (AV.int .i64)), .ro 1 (f.ws.map (AV.int .u32)), .ro 2 (f.mp.map mqA)]]⟩)] = some ((.bool (l.any (flL f)), [(100000, ⟨true, 5, [.agg [.str f.nm, .int .i64 f.pa, .ro 1 (f.cl.map (AV.int .i64)), .ro 1 (f.ws.map (AV.int .u32)), .ro 2 (f.mp.map mqA)]]⟩)]), True) := by
 obtain ⟨j, hj, L⟩ := flL_idx hs hf
 rw [e31]
 have hj' : decide (j ≥ 0) = l.any (flL f) := hj
 simp (maxSteps := 100000000) only [ivc, rgb, mpb, anf, nilR, eq_self, Nat.reduceEqDiff, Nat.reduceLT, Nat.reduceLeDiff, Nat.reduceAdd, Nat.reduceMul, Nat.reduceBEq, reduceCtorEq, ↓reduceIte, tyb, L, hj']
end Go.Proofs.YtfdipcpmfoidoaaDoor

