/- CodeShapes: Uses, Next and Safe of the program answer as the reference's do, for any instruction with up to 8 extra words and 80 entries (else: that the program is awake). The package's table hackamore/code.table is as the program's text lays it. -/
import Derived.Test.YtfdipcpmfoidoaaDoorTie
import Derived.Test.YtfdipcpmfoidoaaDoorCards
import Derived.LaidMore
import Derived.LaidLaws
import Derived.ProofKit
import Derived.Test.YtfdipcpmfoidoaaDoorC1
/- Read's list. -/
namespace Go.Proofs.YtfdipcpmfoidoaaDoor
open Go Go.Aw
set_option linter.unusedSimpArgs false
set_option linter.unusedVariables false
set_option maxRecDepth 100000
set_option maxHeartbeats 40000000
def unp (w : Int) : List Int := [w % 256, w / 256 % 256, w / 65536 % 256, w / 16777216]
def lstS : Nat -> Nat -> Bool -> List Int -> Ins -> Bool × List Int × Ins
 | 0, _, ok, rest, i => (ok, rest, i)
 | f + 1, c, ok, rest, i => lstS f (c - 4) (ok && !rest.isEmpty) rest.tail { tkI i rest with l := i.l ++ (unp (rest.headD 0)).take c }
theorem rd_no {ws : List Int} {n k : Int} {r : OpRow} (hli : r.li = false) {ok : Bool} {rest : List Int} {i : Ins} : E.L 9 18 (rdV ws n [.int .i64 k]) (rdH r ok rest i) = some ((.exit 2, rdV ws n [.int .i64 k], rdH r ok rest i), True) := by
 simp only [rdV, rdH, insL, rowA, hli]
 rw [l9_18]
 simp (maxSteps := 100000000) only [ivc, rgb, anf, vop, nilR, eq_self, Nat.reduceEqDiff, Nat.reduceLT, Nat.reduceLeDiff, Nat.reduceAdd, Nat.reduceBEq, reduceCtorEq, ↓reduceIte, tyb, iR]
theorem rd_lst {ws : List Int} {n : Int} {r : OpRow} (hli : r.li = true) : ∀ (m c : Nat) (k : Int) (ok : Bool) (rest : List Int) (i : Ins), (c + 3) / 4 = m -> (0 < c -> k + c = i.b) -> (c = 0 -> i.b ≤ k) -> 0 ≤ k -> k ≤ 4000 -> i.b ≤ 1000 -> (∀ x ∈ rest, u32r x) -> rest.length ≤ 100000 -> 0 ≤ i.n -> i.n ≤ 5000 + k -> i.l.length + c ≤ 5000 -> i.x.length ≤ 5000 ->
  E.L 9 18 (rdV ws n [.int .i64 k]) (rdH r ok rest i) = some ((.exit 2, rdV ws n [.int .i64 (k + 4 * m)], rdH r (lstS m c ok rest i).1 (lstS m c ok rest i).2.1 (lstS m c ok rest i).2.2), True) := by
 intro m
 induction m with
 | zero =>
  intro c k ok rest i hm hc h0 hk0 hk hb hr hrl hn0 hn hl hx
  have hc0 : c = 0 := by omega
  have h1 := h0 hc0
  have q : (k < i.b) = False := eq_false (by omega)
  simp only [rdV, rdH, lstS, insL, rowA, hli, Int.natCast_zero, Int.mul_zero, Int.add_zero]
  rw [l9_18]
  simp (maxSteps := 100000000) only [ivc, rgb, anf, vop, nilR, eq_self, Nat.reduceEqDiff, Nat.reduceLT, Nat.reduceLeDiff, Nat.reduceAdd, Nat.reduceBEq, reduceCtorEq, ↓reduceIte, tyb, iR, q]
 | succ m ih =>
  intro c k ok rest i hm hc h0 hk0 hk hb hr hrl hn0 hn hl hx
  have hcp : 0 < c := by omega
  have hkc := hc hcp
  have hi' : (k < i.b) = True := eq_true (by omega)
  have hw1 : IntKind.i64.wrap (k + 4) = k + 4 := wrap_id (by omega) (by omega)
  have hw2 : IntKind.i64.wrap (i.b - k) = c := by rw [wrap_id (by omega) (by omega)]; omega
  have hu := u32r_head hr
  have tk := take_ev (ok := ok) (rest := rest) (i := i) ⟨hn0, by omega⟩ hrl
  have up := unpack_ev hu.1 hu.2
  have ih' := ih (c - 4) (k + 4) (ok && !rest.isEmpty) rest.tail { tkI i rest with l := i.l ++ (unp (rest.headD 0)).take c } (by omega) (by simp only [tkI]; omega) (by simp only [tkI]; omega) (by omega) (by omega) (by simp only [tkI]; omega) (u32r_tail hr) (by simp; omega) (by simp only [tkI]; split <;> omega) (by simp only [tkI]; split <;> omega) (by simp [unp]; omega) (by simp only [tkI]; omega)
  have e1 : k + 4 * ((m + 1 : Nat) : Int) = k + 4 + 4 * (m : Int) := by omega
  rw [e1]
  simp only [lstS]
  simp only [tkH, insL, iR, Nat.reduceAdd, tkI] at tk
  generalize hz : rest.headD 0 = z at *
  clear hr hc h0 ih
  match c, hcp, hw2, ih' with
  | 1, _, hw2, ih' =>
   have hw2 : IntKind.i64.wrap (i.b - k) = 1 := hw2
   simp only [tkI, unp, rdV, rdH, insL, rowA, iR, hli, List.cons_append, List.nil_append, List.take_succ_cons, List.take_zero, List.length_append, List.length_cons, List.length_nil, Nat.zero_add, List.map_append, List.map_cons, List.map_nil] at ih' ⊢
   rw [l9_18]
   simp (maxSteps := 100000000) only [ivc, rgb, anf, vop, vslice, vbuiltin, nilR, salloc, sappend, eq_self, Nat.reduceEqDiff, Nat.reduceLT, Nat.reduceLeDiff, Nat.reduceAdd, Nat.reduceMul, Nat.reduceSub, Nat.reduceBEq, Int.reduceLT, Int.reduceLE, Int.reduceToNat, reduceCtorEq, ↓reduceIte, tyb, hi', hw1, hw2, tk, up, ih']
   exact some_true (by omega)
  | 2, _, hw2, ih' =>
   have hw2 : IntKind.i64.wrap (i.b - k) = 2 := hw2
   simp only [tkI, unp, rdV, rdH, insL, rowA, iR, hli, List.cons_append, List.nil_append, List.take_succ_cons, List.take_zero, List.length_append, List.length_cons, List.length_nil, Nat.zero_add, Nat.reduceAdd, List.map_append, List.map_cons, List.map_nil] at ih' ⊢
   rw [l9_18]
   simp (maxSteps := 100000000) only [ivc, rgb, anf, vop, vslice, vbuiltin, nilR, salloc, sappend, eq_self, Nat.reduceEqDiff, Nat.reduceLT, Nat.reduceLeDiff, Nat.reduceAdd, Nat.reduceMul, Nat.reduceSub, Nat.reduceBEq, Int.reduceLT, Int.reduceLE, Int.reduceToNat, reduceCtorEq, ↓reduceIte, tyb, hi', hw1, hw2, tk, up, ih']
   exact some_true (by omega)
  | 3, _, hw2, ih' =>
   have hw2 : IntKind.i64.wrap (i.b - k) = 3 := hw2
   simp only [tkI, unp, rdV, rdH, insL, rowA, iR, hli, List.cons_append, List.nil_append, List.take_succ_cons, List.take_zero, List.length_append, List.length_cons, List.length_nil, Nat.zero_add, Nat.reduceAdd, List.map_append, List.map_cons, List.map_nil] at ih' ⊢
   rw [l9_18]
   simp (maxSteps := 100000000) only [ivc, rgb, anf, vop, vslice, vbuiltin, nilR, salloc, sappend, eq_self, Nat.reduceEqDiff, Nat.reduceLT, Nat.reduceLeDiff, Nat.reduceAdd, Nat.reduceMul, Nat.reduceSub, Nat.reduceBEq, Int.reduceLT, Int.reduceLE, Int.reduceToNat, reduceCtorEq, ↓reduceIte, tyb, hi', hw1, hw2, tk, up, ih']
   exact some_true (by omega)
  | c + 4, _, hw2, ih' =>
   have h4 : ((c : Int) + 4 < 4) = False := eq_false (by omega)
   simp only [Int.natCast_add, Int.cast_ofNat_Int] at hw2
   have ec : c + 4 - 4 = c := by omega
   rw [ec] at ih' ⊢
   have et : List.take (c + 4) (unp z) = unp z := List.take_of_length_le (by simp [unp])
   rw [et] at ih' ⊢
   simp only [tkI, unp, rdV, rdH, insL, rowA, iR, hli, List.cons_append, List.nil_append, List.length_append, List.length_cons, List.length_nil, Nat.zero_add, Nat.reduceAdd, List.map_append, List.map_cons, List.map_nil] at ih' ⊢
   rw [l9_18]
   simp (maxSteps := 100000000) only [ivc, rgb, anf, vop, vslice, vbuiltin, nilR, salloc, sappend, eq_self, Nat.reduceEqDiff, Nat.reduceLT, Nat.reduceLeDiff, Nat.reduceAdd, Nat.reduceMul, Nat.reduceSub, Nat.reduceBEq, Int.reduceLE, Int.reduceToNat, reduceCtorEq, ↓reduceIte, tyb, hi', hw1, hw2, tk, up, h4, ih']
   exact some_true (by omega)
theorem eq32_loop {a b : List Int} (hl : a.length = b.length) (hs : a.length ≤ 1000000) : ∀ (r r' m m' : List Int), a = m ++ r -> b = m' ++ r' -> m.length = m'.length ->
  ∃ k, E.L 11 5 [.ro 1 (a.map (.int .u32)), .ro 1 (b.map (.int .u32)), .bool false, .int .i64 a.length, .int .i64 m.length] [] = some ((if r = r' then .exit 0 else .ret, [.ro 1 (a.map (.int .u32)), .ro 1 (b.map (.int .u32)), .bool false, .int .i64 a.length, .int .i64 k], []), True) := by
 intro r
 induction r with
 | nil =>
  intro r' m m' h h' hm
  have q : ((m.length : Int) < a.length) = False := eq_false (by rw [h]; simp)
  have : r' = [] := by
   have := congrArg List.length h'; rw [h] at hl; simp at hl this; exact List.eq_nil_of_length_eq_zero (by omega)
  subst this
  refine ⟨m.length, ?_⟩
  rw [l11_5]
  simp (maxSteps := 100000000) only [ivc, rgb, anf, nilR, eq_self, Nat.reduceEqDiff, Nat.reduceLT, Nat.reduceAdd, Nat.reduceBEq, reduceCtorEq, ↓reduceIte, tyb, q]
 | cons y r ih => 
  intro r' m m' h h' hm
  have hp : 0 < r'.length := by
   have := congrArg List.length h'; rw [h] at hl; simp at hl this; omega
  obtain ⟨z, r', rfl⟩ := List.exists_cons_of_length_pos hp
  have hi' : ((m.length : Int) < a.length) = True := eq_true (by rw [h]; simp; omega)
  have hib : ((m.length : Int) < b.length) = True := eq_true (by rw [<- hl]; exact of_eq_true hi')
  have hw1 : IntKind.i64.wrap ((m.length : Int) + 1) = m.length + 1 := wrap_id (by omega) (by rw [h] at hs; simp at hs; omega)
  have hg := getD_map (f := AV.int .u32) (show a[m.length]? = some y by rw [h]; simp)
  have hg' := getD_map (f := AV.int .u32) (show b[m.length]? = some z by rw [h', hm]; simp)
  by_cases e : y = z
  ·subst e
   obtain ⟨k, ih⟩ := ih r' (m ++ [y]) (m' ++ [y]) (by rw [h]; simp) (by rw [h']; simp) (by simp [hm])
   refine ⟨k, ?_⟩
   simp only [List.length_append, List.length_cons, List.length_nil, Int.natCast_add, Int.cast_ofNat_Int, Nat.zero_add] at ih
   rw [l11_5]
   simp (maxSteps := 100000000) only [ivc, rgb, anf, nilR, eq_self, Nat.reduceEqDiff, Nat.reduceLT, Nat.reduceAdd, Nat.reduceBEq, reduceCtorEq, ↓reduceIte, tyb, hi', hib, hw1, hg, hg', ih]
   simp
  ·refine ⟨m.length, ?_⟩
   have hb : (y != z) = true := by simp [e]
   rw [l11_5]
   simp (maxSteps := 100000000) only [ivc, rgb, anf, nilR, eq_self, Nat.reduceEqDiff, Nat.reduceLT, Nat.reduceAdd, Nat.reduceBEq, reduceCtorEq, ↓reduceIte, tyb, hi', hib, hg, hg', hb]
   simp [e]
theorem eq32_ev {a b : List Int} (hs : a.length ≤ 1000000) : E.F 11 [.ro 1 (a.map (.int .u32)), .ro 1 (b.map (.int .u32))] [] = some ((.bool (decide (a = b)), []), True) := by
 by_cases hl : a.length = b.length
 ·obtain ⟨k, L⟩ := eq32_loop hl hs a b [] [] rfl rfl rfl
  have hl' : ((a.length : Int) != b.length) = false := by simp [hl]
  simp only [List.length_nil, Int.natCast_zero] at L
  rw [e11]
  by_cases e : a = b
  ·simp only [e, if_true] at L
   simp (maxSteps := 100000000) only [ivc, rgb, anf, vlen, vbuiltin, nilR, eq_self, Nat.reduceEqDiff, Nat.reduceLT, Nat.reduceLeDiff, Nat.reduceAdd, Nat.reduceBEq, reduceCtorEq, ↓reduceIte, tyb, L, e]
  ·simp only [e, if_false] at L
   simp (maxSteps := 100000000) only [ivc, rgb, anf, vlen, vbuiltin, nilR, eq_self, Nat.reduceEqDiff, Nat.reduceLT, Nat.reduceLeDiff, Nat.reduceAdd, Nat.reduceBEq, reduceCtorEq, ↓reduceIte, tyb, L, hl', e]
 ·have hl' : ((a.length : Int) != b.length) = true := by simp; omega
  have e : a ≠ b := fun h => hl (by rw [h])
  rw [e11]
  simp (maxSteps := 100000000) only [ivc, rgb, anf, vlen, vbuiltin, nilR, eq_self, Nat.reduceEqDiff, Nat.reduceLT, Nat.reduceLeDiff, Nat.reduceAdd, Nat.reduceBEq, reduceCtorEq, ↓reduceIte, tyb, hl', e]
abbrev RS := Bool × List Int × Ins
structure Kept (k : Nat) (s t : RS) : Prop where
 rest : t.2.1 = s.2.1.drop k
 sum : t.2.2.n + t.2.1.length = s.2.2.n + s.2.1.length
 lo : s.2.2.n ≤ t.2.2.n
 hi : t.2.2.n ≤ s.2.2.n + k
 a : t.2.2.a = s.2.2.a
 b : t.2.2.b = s.2.2.b
 c : t.2.2.c = s.2.2.c
 op : t.2.2.op = s.2.2.op
 at_ : t.2.2.at_ = s.2.2.at_
theorem Kept.refl (s : RS) : Kept 0 s s := ⟨by simp, rfl, by omega, by omega, rfl, rfl, rfl, rfl, rfl⟩
theorem Kept.trans {j k : Nat} {s t u : RS} (h : Kept j s t) (g : Kept k t u) : Kept (j + k) s u :=
 ⟨by rw [g.rest, h.rest, List.drop_drop], by rw [g.sum, h.sum], by have := h.lo; have := g.lo; omega, by have := h.hi; have := g.hi; omega, by rw [g.a, h.a], by rw [g.b, h.b], by rw [g.c, h.c], by rw [g.op, h.op], by rw [g.at_, h.at_]⟩
theorem kept_tk (ok ok' : Bool) (rest : List Int) (i j : Ins) (h : j.n = (tkI i rest).n) (ha : j.a = i.a) (hb : j.b = i.b) (hc : j.c = i.c) (ho : j.op = i.op) (ht : j.at_ = i.at_) : Kept 1 (ok, rest, i) (ok', rest.tail, j) := by
 refine ⟨by simp, ?_, ?_, ?_, ha, hb, hc, ho, ht⟩ <;> simp only [h, tkI] <;> cases rest <;> simp <;> omega
theorem idxS_kept : ∀ (k : Nat) (ok : Bool) (rest : List Int) (i : Ins), Kept k (ok, rest, i) (idxS k ok rest i) /\ (idxS k ok rest i).2.2.x.length = i.x.length + k /\ (idxS k ok rest i).2.2.l = i.l /\ (idxS k ok rest i).2.2.ra = i.ra
 | 0, ok, rest, i => ⟨Kept.refl _, rfl, rfl, rfl⟩
 | k + 1, ok, rest, i => by
  obtain ⟨h, hx, hl, hr⟩ := idxS_kept k (ok && !rest.isEmpty) rest.tail { tkI i rest with x := i.x ++ [rest.headD 0] }
  refine ⟨?_, ?_, hl, hr⟩
  ·have := (kept_tk ok (ok && !rest.isEmpty) rest i { tkI i rest with x := i.x ++ [rest.headD 0] } rfl rfl rfl rfl rfl rfl).trans h
   rw [Nat.add_comm 1 k] at this
   exact this
  ·simp only [idxS]; rw [hx]; simp; omega
theorem lstS_kept : ∀ (m c : Nat) (ok : Bool) (rest : List Int) (i : Ins), (c + 3) / 4 = m -> Kept m (ok, rest, i) (lstS m c ok rest i) /\ (lstS m c ok rest i).2.2.l.length = i.l.length + c /\ (lstS m c ok rest i).2.2.x = i.x /\ (lstS m c ok rest i).2.2.ra = i.ra
 | 0, c, ok, rest, i, h => ⟨Kept.refl _, by simp only [lstS]; omega, rfl, rfl⟩
 | m + 1, c, ok, rest, i, h0 => by
  obtain ⟨h, hx, hl, hr⟩ := lstS_kept m (c - 4) (ok && !rest.isEmpty) rest.tail { tkI i rest with l := i.l ++ (unp (rest.headD 0)).take c } (by omega)
  refine ⟨?_, ?_, hl, hr⟩
  ·have := (kept_tk ok (ok && !rest.isEmpty) rest i { tkI i rest with l := i.l ++ (unp (rest.headD 0)).take c } rfl rfl rfl rfl rfl rfl).trans h
   rw [Nat.add_comm 1 m] at this
   exact this
  ·simp only [lstS]; rw [hx]; simp [unp]; omega
def insZ : Ins := ⟨0, 0, 0, 0, 0, [], 0, [], 0⟩
def rdI (n w : Int) : Ins := ⟨n, w % 256, w / 256 % 256, w / 65536 % 256, w / 16777216, [], -1, [], 1⟩
def rd1 (ws : List Int) (n : Int) : RS := idxS (rowW (ws.getD n.toNat 0 % 256)).x.length true (ws.drop (n.toNat + 1)) (rdI n (ws.getD n.toNat 0))
def rd2 (r : OpRow) (s : RS) : RS := if (r.c == 7 && s.2.2.c == 1) = true then (s.1 && !s.2.1.isEmpty, s.2.1.tail, { tkI s.2.2 s.2.1 with ra := s.2.1.headD 0 }) else s
def rd3 (r : OpRow) (s : RS) : RS := if r.li = true then lstS ((s.2.2.b.toNat + 3) / 4) s.2.2.b.toNat s.1 s.2.1 s.2.2 else s
def rdS (ws : List Int) (n : Int) : RS := rd3 (rowW (ws.getD n.toNat 0 % 256)) (rd2 (rowW (ws.getD n.toNat 0 % 256)) (rd1 ws n))
def readM (ws : List Int) (n : Int) : Ins × Int :=
 if n < 0 \/ (ws.length : Int) ≤ n then (insZ, 3)
 else if opIn (ws.getD n.toNat 0 % 256) = true then
  if (rdS ws n).1 = true then
   if (wordsM (rdS ws n).2.2).1 = 0 /\ (wordsM (rdS ws n).2.2).2 = (ws.drop n.toNat).take (rdS ws n).2.2.n.toNat then ((rdS ws n).2.2, 0)
   else (insZ, 260)
  else (insZ, 260)
 else (insZ, 260)
def readV (m : Ins × Int) : AV := .tup [.agg (insA m.1), .int .i64 m.2]
theorem read_bad {ws : List Int} {n : Int} (h : n < 0 \/ (ws.length : Int) ≤ n) : E.F 9 [.ro 1 (ws.map (.int .u32)), .int .i64 n] [] = some ((readV (readM ws n), []), True) := by
 rw [e9]
 unfold readM readV
 rw [if_pos h]
 rcases h with h | h
 ·have q : (n < 0) = True := eq_true h
  simp (maxSteps := 100000000) only [ivc, rgb, anf, vop, vlen, vbuiltin, nilR, salloc, eq_self, Nat.reduceEqDiff, Nat.reduceLT, Nat.reduceLeDiff, Nat.reduceAdd, Nat.reduceBEq, Int.reduceNeg, reduceCtorEq, ↓reduceIte, tyb, q, insA, insZ]
 ·by_cases q : n < 0
  ·simp (maxSteps := 100000000) only [ivc, rgb, anf, vop, vlen, vbuiltin, nilR, salloc, eq_self, Nat.reduceEqDiff, Nat.reduceLT, Nat.reduceLeDiff, Nat.reduceAdd, Nat.reduceBEq, Int.reduceNeg, reduceCtorEq, ↓reduceIte, tyb, q, insA, insZ]
  ·have q' : ((ws.length : Int) ≤ n) = True := eq_true h
   simp (maxSteps := 100000000) only [ivc, rgb, anf, vop, vlen, vbuiltin, nilR, salloc, eq_self, Nat.reduceEqDiff, Nat.reduceLT, Nat.reduceLeDiff, Nat.reduceAdd, Nat.reduceBEq, Int.reduceNeg, reduceCtorEq, ↓reduceIte, tyb, q, q', insA, insZ]
theorem rowW_x (n : Int) : (rowW n).x.length ≤ 2 := by
 unfold rowW
 split
 ·rename_i h
  obtain ⟨h1, h2⟩ := opIn_true h
  have : ∀ k, k < 24 -> (rowsT.getD k opZ).x.length ≤ 2 := by decide
  exact this _ (by omega)
 ·simp [opZ]
theorem read_noop {ws : List Int} {n : Int} (h0 : 0 ≤ n) (h1 : n < ws.length) (hs : ws.length ≤ 100000) (hu : ∀ x ∈ ws, u32r x) (hop : opIn (ws.getD n.toNat 0 % 256) = false) : E.F 9 [.ro 1 (ws.map (.int .u32)), .int .i64 n] [] = some ((readV (readM ws n), []), True) := by
 have hg := getD_map (f := AV.int .u32) (show ws[n.toNat]? = some (ws.getD n.toNat 0) by rw [List.getD_eq_getElem?_getD, List.getElem?_eq_getElem (by omega)]; simp)
 have hw : u32r (ws.getD n.toNat 0) := by
  rw [List.getD_eq_getElem?_getD, List.getElem?_eq_getElem (by omega)]
  exact hu _ (List.getElem_mem (by omega))
 have q : (n < 0) = False := eq_false (by omega)
 have q' : ((ws.length : Int) ≤ n) = False := eq_false (by omega)
 have q2 : (n < (ws.length : Int)) = True := eq_true h1
 have q3 : (0 ≤ n) = True := eq_true h0
 have up := unpack_ev hw.1 hw.2
 have ro := row_ev (n := ws.getD n.toNat 0 % 256)
 unfold readM readV
 rw [if_neg (by omega), hop] 
 rw [hop] at ro
 rw [if_neg (by decide)]
 generalize ws.getD n.toNat 0 = w at *
 simp only [rowA] at ro
 rw [e9]
 simp (maxSteps := 100000000) only [ivc, rgb, anf, vop, vlen, vbuiltin, nilR, salloc, eq_self, Nat.reduceEqDiff, Nat.reduceLT, Nat.reduceLeDiff, Nat.reduceAdd, Nat.reduceBEq, Int.reduceNeg, reduceCtorEq, ↓reduceIte, tyb, q, q', q2, q3, hg, up, ro, insA, insZ]
theorem words_len {i : Ins} (hx : i.x.length ≤ 100) (hl : i.l.length ≤ 1000) : (wordsM i).2.length ≤ 1000 := by
 unfold wordsM
 split
 ·split
  ·split
   ·split
    ·simp only [List.length_cons, List.length_append, List.length_map, chL_len, xsOf]
     split <;> simp <;> omega
    ·simp
   ·simp
  ·simp
 ·simp
theorem rd2_kept (r : OpRow) (s : RS) : ∃ k, k ≤ 1 /\ Kept k s (rd2 r s) /\ (rd2 r s).2.2.x = s.2.2.x /\ (rd2 r s).2.2.l = s.2.2.l := by
 obtain ⟨ok, rest, i⟩ := s
 unfold rd2
 split
 ·exact ⟨1, by omega, kept_tk ok _ rest i _ rfl rfl rfl rfl rfl rfl, rfl, rfl⟩
 ·exact ⟨0, by omega, Kept.refl _, rfl, rfl⟩
theorem rd3_kept (r : OpRow) (s : RS) (hl : s.2.2.l = []) (hb : 0 ≤ s.2.2.b /\ s.2.2.b ≤ 255) : ∃ k, k ≤ 100 /\ Kept k s (rd3 r s) /\ (rd3 r s).2.2.x = s.2.2.x /\ (rd3 r s).2.2.l.length ≤ 255 := by
 obtain ⟨ok, rest, i⟩ := s
 unfold rd3
 simp only at hl hb
 split
 ·obtain ⟨h1, h2, h3, h4⟩ := lstS_kept ((i.b.toNat + 3) / 4) i.b.toNat ok rest i rfl
  refine ⟨_, ?_, h1, h3, ?_⟩
  ·omega
  ·simp only; rw [h2, hl]; simp; omega
 ·exact ⟨0, by omega, Kept.refl _, rfl, by simp [hl]⟩
theorem rd3_ev {ws : List Int} {n : Int} {r : OpRow} {s : RS} (hl : s.2.2.l = []) (hb : 0 ≤ s.2.2.b /\ s.2.2.b ≤ 255) (hr : ∀ x ∈ s.2.1, u32r x) (hrl : s.2.1.length ≤ 100000) (hn : 0 ≤ s.2.2.n /\ s.2.2.n ≤ 5000) (hx : s.2.2.x.length ≤ 5000) :
  ∃ k, E.L 9 18 (rdV ws n [.int .i64 0]) (rdH r s.1 s.2.1 s.2.2) = some ((.exit 2, rdV ws n [.int .i64 k], rdH r (rd3 r s).1 (rd3 r s).2.1 (rd3 r s).2.2), True) := by
 unfold rd3
 cases hli : r.li with
 | false => exact ⟨0, rd_no hli⟩
 | true => exact ⟨_, rd_lst hli ((s.2.2.b.toNat + 3) / 4) s.2.2.b.toNat 0 s.1 s.2.1 s.2.2 rfl (by omega) (by omega) (by omega) (by omega) (by omega) hr hrl hn.1 (by omega) (by rw [hl]; simp; omega) hx⟩
theorem read_all {ws : List Int} {n : Int} (h0 : 0 ≤ n) (h1 : n < ws.length) (hs : ws.length ≤ 90000) (hu : ∀ x ∈ ws, u32r x) (hop : opIn (ws.getD n.toNat 0 % 256) = true) : E.F 9 [.ro 1 (ws.map (.int .u32)), .int .i64 n] [] = some ((readV (readM ws n), []), True) := by
 have hg := getD_map (f := AV.int .u32) (show ws[n.toNat]? = some (ws.getD n.toNat 0) by rw [List.getD_eq_getElem?_getD, List.getElem?_eq_getElem (by omega)]; simp)
 have hw : u32r (ws.getD n.toNat 0) := by
  rw [List.getD_eq_getElem?_getD, List.getElem?_eq_getElem (by omega)]
  exact hu _ (List.getElem_mem (by omega))
 have q : (n < 0) = False := eq_false (by omega)
 have q' : ((ws.length : Int) ≤ n) = False := eq_false (by omega)
 have q2 : (n < (ws.length : Int)) = True := eq_true h1
 have q3 : (0 ≤ n) = True := eq_true h0
 have q4 : (0 ≤ n + 1) = True := eq_true (by omega)
 have q5 : (n + 1 ≤ (ws.length : Int)) = True := eq_true (by omega)
 have hw1 : IntKind.i64.wrap (n + 1) = n + 1 := wrap_id (by omega) (by omega)
 have et : (n + 1).toNat = n.toNat + 1 := by omega
 have up := unpack_ev hw.1 hw.2
 have ro := row_ev (n := ws.getD n.toNat 0 % 256)
 have hrx := rowW_x (ws.getD n.toNat 0 % 256)
 have hr0 : ∀ x ∈ ws.drop (n.toNat + 1), u32r x := fun x hx => hu x (List.mem_of_mem_drop hx)
 have hl0 : (ws.drop (n.toNat + 1)).length = ws.length - (n.toNat + 1) := List.length_drop
 have L1 := rd_idx (ws := ws) (n := n) (r := rowW (ws.getD n.toNat 0 % 256)) (rowW (ws.getD n.toNat 0 % 256)).x.length (by omega) (rowW (ws.getD n.toNat 0 % 256)).x.length 0 true (ws.drop (n.toNat + 1)) (rdI n (ws.getD n.toNat 0)) (by omega) hr0 (by omega) (by simp [rdI]) (by simp [rdI]) (by simp [rdI])
 have K1 := idxS_kept (rowW (ws.getD n.toNat 0 % 256)).x.length true (ws.drop (n.toNat + 1)) (rdI n (ws.getD n.toNat 0))
 unfold readM readV
 rw [if_neg (by omega), hop] 
 rw [hop] at ro
 rw [if_pos rfl]
 unfold rdS
 change E.L 9 12 _ _ = some ((_, _, rdH (rowW (ws.getD n.toNat 0 % 256)) (rd1 ws n).1 (rd1 ws n).2.1 (rd1 ws n).2.2), True) at L1
 change Kept _ _ (rd1 ws n) /\ (rd1 ws n).2.2.x.length = _ /\ (rd1 ws n).2.2.l = _ /\ (rd1 ws n).2.2.ra = _ at K1
 generalize rd1 ws n = s1 at *
 generalize rowW (ws.getD n.toNat 0 % 256) = r at *
 generalize ws.getD n.toNat 0 = w at *
 obtain ⟨K1, x1, l1, a1⟩ := K1
 obtain ⟨k2, hk2, K2, x2, l2⟩ := rd2_kept r s1
 have b1 : s1.2.2.b = w / 65536 % 256 := K1.b
 have b2 : (rd2 r s1).2.2.b = w / 65536 % 256 := by rw [K2.b, b1]
 have hl2 : (rd2 r s1).2.2.l = [] := by rw [l2, l1]; rfl
 obtain ⟨k3, hk3, K3, x3, l3⟩ := rd3_kept r (rd2 r s1) hl2 (by rw [b2]; omega)
 have K12 := K1.trans K2
 have K13 := K12.trans K3
 have lo1 := K1.lo
 have hi1 := K1.hi
 have lo2 := K12.lo
 have hi2 := K12.hi
 have lo3 := K13.lo
 have sm := K13.sum
 have hd0 : (rdI n w).n = 1 := rfl
 simp only [hd0, hl0] at lo1 hi1 lo2 hi2 lo3 sm
 have hr1 : ∀ x ∈ s1.2.1, u32r x := by rw [K1.rest]; exact fun x hx => hr0 x (List.mem_of_mem_drop hx)
 have hr2 : ∀ x ∈ (rd2 r s1).2.1, u32r x := by rw [K12.rest]; exact fun x hx => hr0 x (List.mem_of_mem_drop hx)
 have hln1 : s1.2.1.length ≤ 90000 := by rw [K1.rest]; simp; omega
 have hln2 : (rd2 r s1).2.1.length ≤ 90000 := by rw [K12.rest]; simp; omega
 have x0 : (rdI n w).x.length = 0 := rfl
 obtain ⟨k4, L2⟩ := rd3_ev (ws := ws) (n := n) (r := r) (s := rd2 r s1) hl2 (by rw [b2]; omega) hr2 (by omega) (by omega) (by rw [x2]; omega)
 have W := words_ev (i := (rd3 r (rd2 r s1)).2.2) (by rw [x3, x2]; omega) (by omega)
 have Wl := words_len (i := (rd3 r (rd2 r s1)).2.2) (by rw [x3, x2]; omega) (by omega)
 have tk := take_ev (ok := s1.1) (rest := s1.2.1) (i := s1.2.2) (by omega) (by omega)
 have hu2 := u32r_head hr1
 have hw2 : IntKind.i64.wrap (s1.2.1.headD 0) = s1.2.1.headD 0 := wrap_id (by have := hu2.1; omega) (by have := hu2.2; omega)
 have z3 : 1 ≤ (rd3 r (rd2 r s1)).2.2.n /\ n + (rd3 r (rd2 r s1)).2.2.n ≤ ws.length := by
  refine ⟨lo3, ?_⟩
  omega
 clear K1 K2 K3 K12 K13 sm lo1 hi1 lo2 hi2 lo3 hr1 hr2 hr0 hu
 have e0 : List.take (ws.length - (n.toNat + 1)) (List.drop (n.toNat + 1) (List.map (AV.int .u32) ws)) = List.map (AV.int .u32) (ws.drop (n.toNat + 1)) := by
  rw [List.take_of_length_le (by simp), List.map_drop]
 cases hcc : (r.c == 7 && s1.2.2.c == 1) with
 | false =>
  have r2 : rd2 r s1 = s1 := by unfold rd2; rw [hcc]; rfl
  rw [r2] at L2 W Wl z3 ⊢
  generalize rd3 r s1 = s3 at *
  obtain ⟨ok1, rest1, i1⟩ := s1
  obtain ⟨ok3, rest3, i3⟩ := s3
  simp only [rowA] at ro
  simp only [rdV, rdH, insL, iR, rowA, rdI, Int.natCast_zero, List.length_nil, List.map_nil, List.cons_append, List.nil_append] at L1 L2 hcc
  rw [e9]
  cases ok3 with
  | false =>
   simp (maxSteps := 100000000) only [ivc, rgb, anf, vop, vslice, vlen, vbuiltin, nilR, salloc, eq_self, Nat.reduceEqDiff, Nat.reduceLT, Nat.reduceLeDiff, Nat.reduceAdd, Nat.reduceBEq, Int.reduceNeg, reduceCtorEq, implies_true, ↓reduceIte, tyb, q, q', q2, q3, q4, q5, hw1, et, hg, up, ro, e0, L1, hcc, L2, insZ, insA]
   exact some_true (by omega)
  | true =>
   generalize wordsM i3 = m at W Wl ⊢
   obtain ⟨e, wl⟩ := m
   simp only [wordsV, insA] at W
   simp only at Wl z3
   by_cases he : e = 0
   ·subst he
    have hwn : IntKind.i64.wrap (n + i3.n) = n + i3.n := wrap_id (by omega) (by omega)
    have z4 : n ≤ n + i3.n := by omega
    have e6 : List.take ((n + i3.n).toNat - n.toNat) (List.drop n.toNat (List.map (AV.int .u32) ws)) = List.map (AV.int .u32) ((ws.drop n.toNat).take i3.n.toNat) := by
     rw [List.map_take, List.map_drop, show (n + i3.n).toNat - n.toNat = i3.n.toNat by omega]
    have EQ := eq32_ev (a := wl) (b := (ws.drop n.toNat).take i3.n.toNat) (by omega)
    by_cases hq : wl = (ws.drop n.toNat).take i3.n.toNat
    ·rw [decide_eq_true hq] at EQ
     have hq' := eq_true hq
     simp (maxSteps := 100000000) only [ivc, rgb, anf, vop, vslice, vlen, vbuiltin, nilR, salloc, eq_self, Nat.reduceEqDiff, Nat.reduceLT, Nat.reduceLeDiff, Nat.reduceAdd, Nat.reduceMul, Nat.reduceBEq, Int.reduceNeg, reduceCtorEq, implies_true, ↓reduceIte, tyb, q, q', q2, q3, q4, q5, hw1, et, hg, up, ro, e0, L1, hcc, L2, insA, W, hwn, z4, z3, e6, EQ, hq']
     exact some_true (by omega)
    ·rw [decide_eq_false hq] at EQ
     simp (maxSteps := 100000000) only [ivc, rgb, anf, vop, vslice, vlen, vbuiltin, nilR, salloc, eq_self, Nat.reduceEqDiff, Nat.reduceLT, Nat.reduceLeDiff, Nat.reduceAdd, Nat.reduceMul, Nat.reduceBEq, Int.reduceNeg, reduceCtorEq, implies_true, ↓reduceIte, tyb, q, q', q2, q3, q4, q5, hw1, et, hg, up, ro, e0, L1, hcc, L2, insZ, insA, W, hwn, z4, z3, e6, EQ, hq, and_false]
     exact some_true (by omega)
   ·have he' : (e != 0) = true := by simp [he]
    simp (maxSteps := 100000000) only [ivc, rgb, anf, vop, vslice, vlen, vbuiltin, nilR, salloc, eq_self, Nat.reduceEqDiff, Nat.reduceLT, Nat.reduceLeDiff, Nat.reduceAdd, Nat.reduceBEq, Int.reduceNeg, reduceCtorEq, implies_true, ↓reduceIte, tyb, q, q', q2, q3, q4, q5, hw1, et, hg, up, ro, e0, L1, hcc, L2, insZ, insA, W, he, he']
    exact some_true (by omega)
 | true =>
  have r2 : rd2 r s1 = (s1.1 && !s1.2.1.isEmpty, s1.2.1.tail, { tkI s1.2.2 s1.2.1 with ra := s1.2.1.headD 0 }) := by unfold rd2; rw [hcc]; rfl
  rw [r2] at L2 W Wl z3 ⊢
  generalize rd3 r (s1.1 && !s1.2.1.isEmpty, s1.2.1.tail, { tkI s1.2.2 s1.2.1 with ra := s1.2.1.headD 0 }) = s3 at *
  obtain ⟨ok1, rest1, i1⟩ := s1
  obtain ⟨ok3, rest3, i3⟩ := s3
  simp only [rowA] at ro
  simp only [rdV, rdH, insL, iR, rowA, rdI, Int.natCast_zero, List.length_nil, List.map_nil, List.cons_append, List.nil_append] at L1 L2 hcc
  simp only [tkH, insL, iR, Nat.reduceAdd] at tk
  rw [e9]
  cases ok3 with
  | false =>
   simp (maxSteps := 100000000) only [ivc, rgb, anf, vop, vslice, vlen, vbuiltin, nilR, salloc, eq_self, Nat.reduceEqDiff, Nat.reduceLT, Nat.reduceLeDiff, Nat.reduceAdd, Nat.reduceMul, Nat.reduceBEq, Int.reduceNeg, reduceCtorEq, implies_true, ↓reduceIte, tyb, q, q', q2, q3, q4, q5, hw1, et, hg, up, ro, e0, L1, hcc, L2, tk, hw2, insZ, insA]
   exact some_true (by omega)
  | true =>
   generalize wordsM i3 = m at W Wl ⊢
   obtain ⟨e, wl⟩ := m
   simp only [wordsV, insA] at W
   simp only at Wl z3
   by_cases he : e = 0
   ·subst he
    have hwn : IntKind.i64.wrap (n + i3.n) = n + i3.n := wrap_id (by omega) (by omega)
    have z4 : n ≤ n + i3.n := by omega
    have e6 : List.take ((n + i3.n).toNat - n.toNat) (List.drop n.toNat (List.map (AV.int .u32) ws)) = List.map (AV.int .u32) ((ws.drop n.toNat).take i3.n.toNat) := by
     rw [List.map_take, List.map_drop, show (n + i3.n).toNat - n.toNat = i3.n.toNat by omega]
    have EQ := eq32_ev (a := wl) (b := (ws.drop n.toNat).take i3.n.toNat) (by omega)
    by_cases hq : wl = (ws.drop n.toNat).take i3.n.toNat
    ·rw [decide_eq_true hq] at EQ
     have hq' := eq_true hq
     simp (maxSteps := 100000000) only [ivc, rgb, anf, vop, vslice, vlen, vbuiltin, nilR, salloc, eq_self, Nat.reduceEqDiff, Nat.reduceLT, Nat.reduceLeDiff, Nat.reduceAdd, Nat.reduceMul, Nat.reduceBEq, Int.reduceNeg, reduceCtorEq, implies_true, ↓reduceIte, tyb, q, q', q2, q3, q4, q5, hw1, et, hg, up, ro, e0, L1, hcc, L2, tk, hw2, insA, W, hwn, z4, z3, e6, EQ, hq']
     exact some_true (by omega)
    ·rw [decide_eq_false hq] at EQ
     simp (maxSteps := 100000000) only [ivc, rgb, anf, vop, vslice, vlen, vbuiltin, nilR, salloc, eq_self, Nat.reduceEqDiff, Nat.reduceLT, Nat.reduceLeDiff, Nat.reduceAdd, Nat.reduceMul, Nat.reduceBEq, Int.reduceNeg, reduceCtorEq, implies_true, ↓reduceIte, tyb, q, q', q2, q3, q4, q5, hw1, et, hg, up, ro, e0, L1, hcc, L2, tk, hw2, insZ, insA, W, hwn, z4, z3, e6, EQ, hq, and_false]
     exact some_true (by omega)
   ·have he' : (e != 0) = true := by simp [he]
    simp (maxSteps := 100000000) only [ivc, rgb, anf, vop, vslice, vlen, vbuiltin, nilR, salloc, eq_self, Nat.reduceEqDiff, Nat.reduceLT, Nat.reduceLeDiff, Nat.reduceAdd, Nat.reduceMul, Nat.reduceBEq, Int.reduceNeg, reduceCtorEq, implies_true, ↓reduceIte, tyb, q, q', q2, q3, q4, q5, hw1, et, hg, up, ro, e0, L1, hcc, L2, tk, hw2, insZ, insA, W, he, he']
    exact some_true (by omega)
theorem read_ev {ws : List Int} {n : Int} (hs : ws.length ≤ 90000) (hu : ∀ x ∈ ws, u32r x) : E.F 9 [.ro 1 (ws.map (.int .u32)), .int .i64 n] [] = some ((readV (readM ws n), []), True) := by
 by_cases h : n < 0 \/ (ws.length : Int) ≤ n
 ·exact read_bad h
 ·cases hop : opIn (ws.getD n.toNat 0 % 256) with
  | false => exact read_noop (by omega) (by omega) (by omega) hu hop
  | true => exact read_all (by omega) (by omega) hs hu hop
theorem eq64_loop {a b : List Int} (hl : a.length = b.length) (hs : a.length ≤ 1000000) : ∀ (r r' m m' : List Int), a = m ++ r -> b = m' ++ r' -> m.length = m'.length ->
  ∃ k, E.L 24 5 [.ro 1 (a.map (.int .i64)), .ro 1 (b.map (.int .i64)), .bool false, .int .i64 a.length, .int .i64 m.length] [] = some ((if r = r' then .exit 0 else .ret, [.ro 1 (a.map (.int .i64)), .ro 1 (b.map (.int .i64)), .bool false, .int .i64 a.length, .int .i64 k], []), True) := by
 intro r
 induction r with
 | nil =>
  intro r' m m' h h' hm
  have q : ((m.length : Int) < a.length) = False := eq_false (by rw [h]; simp)
  have : r' = [] := by
   have := congrArg List.length h'; rw [h] at hl; simp at hl this; exact List.eq_nil_of_length_eq_zero (by omega)
  subst this
  refine ⟨m.length, ?_⟩
  rw [l24_5]
  simp (maxSteps := 100000000) only [ivc, rgb, anf, nilR, eq_self, Nat.reduceEqDiff, Nat.reduceLT, Nat.reduceAdd, Nat.reduceBEq, reduceCtorEq, ↓reduceIte, tyb, q]
 | cons y r ih => 
  intro r' m m' h h' hm
  have hp : 0 < r'.length := by
   have := congrArg List.length h'; rw [h] at hl; simp at hl this; omega
  obtain ⟨z, r', rfl⟩ := List.exists_cons_of_length_pos hp
  have hi' : ((m.length : Int) < a.length) = True := eq_true (by rw [h]; simp; omega)
  have hib : ((m.length : Int) < b.length) = True := eq_true (by rw [<- hl]; exact of_eq_true hi')
  have hw1 : IntKind.i64.wrap ((m.length : Int) + 1) = m.length + 1 := wrap_id (by omega) (by rw [h] at hs; simp at hs; omega)
  have hg := getD_map (f := AV.int .i64) (show a[m.length]? = some y by rw [h]; simp)
  have hg' := getD_map (f := AV.int .i64) (show b[m.length]? = some z by rw [h', hm]; simp)
  by_cases e : y = z
  ·subst e
   obtain ⟨k, ih⟩ := ih r' (m ++ [y]) (m' ++ [y]) (by rw [h]; simp) (by rw [h']; simp) (by simp [hm])
   refine ⟨k, ?_⟩
   simp only [List.length_append, List.length_cons, List.length_nil, Int.natCast_add, Int.cast_ofNat_Int, Nat.zero_add] at ih
   rw [l24_5]
   simp (maxSteps := 100000000) only [ivc, rgb, anf, nilR, eq_self, Nat.reduceEqDiff, Nat.reduceLT, Nat.reduceAdd, Nat.reduceBEq, reduceCtorEq, ↓reduceIte, tyb, hi', hib, hw1, hg, hg', ih]
   simp
  ·refine ⟨m.length, ?_⟩
   have hb : (y != z) = true := by simp [e]
   rw [l24_5]
   simp (maxSteps := 100000000) only [ivc, rgb, anf, nilR, eq_self, Nat.reduceEqDiff, Nat.reduceLT, Nat.reduceAdd, Nat.reduceBEq, reduceCtorEq, ↓reduceIte, tyb, hi', hib, hg, hg', hb]
   simp [e]
theorem eq64_ev {a b : List Int} (hs : a.length ≤ 1000000) : E.F 24 [.ro 1 (a.map (.int .i64)), .ro 1 (b.map (.int .i64))] [] = some ((.bool (decide (a = b)), []), True) := by
 by_cases hl : a.length = b.length
 ·obtain ⟨k, L⟩ := eq64_loop hl hs a b [] [] rfl rfl rfl
  have hl' : ((a.length : Int) != b.length) = false := by simp [hl]
  simp only [List.length_nil, Int.natCast_zero] at L
  rw [e24]
  by_cases e : a = b
  ·simp only [e, if_true] at L
   simp (maxSteps := 100000000) only [ivc, rgb, anf, vlen, vbuiltin, nilR, eq_self, Nat.reduceEqDiff, Nat.reduceLT, Nat.reduceLeDiff, Nat.reduceAdd, Nat.reduceBEq, reduceCtorEq, ↓reduceIte, tyb, L, e]
  ·simp only [e, if_false] at L
   simp (maxSteps := 100000000) only [ivc, rgb, anf, vlen, vbuiltin, nilR, eq_self, Nat.reduceEqDiff, Nat.reduceLT, Nat.reduceLeDiff, Nat.reduceAdd, Nat.reduceBEq, reduceCtorEq, ↓reduceIte, tyb, L, hl', e]
 ·have hl' : ((a.length : Int) != b.length) = true := by simp; omega
  have e : a ≠ b := fun h => hl (by rw [h])
  rw [e24]
  simp (maxSteps := 100000000) only [ivc, rgb, anf, vlen, vbuiltin, nilR, eq_self, Nat.reduceEqDiff, Nat.reduceLT, Nat.reduceLeDiff, Nat.reduceAdd, Nat.reduceBEq, reduceCtorEq, ↓reduceIte, tyb, hl', e]
def insV (i : Ins) : AV := .agg (insA i)
instance rf_ins : RowF insV := ⟨fun i => by simp [insV, insA, AV.pure, AV.pure.pures], fun i => by rfl⟩
end Go.Proofs.YtfdipcpmfoidoaaDoor

/- What all rows of this seat share: the table, types of what comes in. -/
namespace Go.Proofs.YtfdipcpmfoidoaaDoor
open Go Go.Aw
set_option maxRecDepth 100000
theorem own : ownKnob Tryd.prog.godebug = none := by kernel_rfl
theorem laidOut : laidOutB Tryd.prog = true := by kernel_rfl
def laidL : List (String × DataW Unit) := [("hackamore/code.table", Rows.laid_hackamore_code_table)]
theorem gT : Tryd.prog.globalNamed "hackamore/code.table" = some 0 := by kernel_rfl
theorem tab_dat : datA (H := Unit) Tryd.prog 10 124 Rows.laid_hackamore_code_table = some tabA := by kernel_rfl
theorem tab_laid {W : World} (h : laidMetH Tryd.prog laidL W) : ∀ g, RV ⟨noμ, oldB W⟩ noH W (G g) (.pointer (some ⟨g, 0, none⟩)) := by
 have h' : laidMet Tryd.prog (("hackamore/code.table", Rows.laid_hackamore_code_table) :: []) W := by
  rw [MakeChecks.laidMetH_plain _ _ _ (by kernel_rfl)] at h
  exact h
 intro g
 by_cases hg : g = 0
 ·subst hg
  exact rop_laid (l := [124, 85, 83, 82, 80, 81, 3, 4]) (by kernel_rfl) (t := 124) gT (by kernel_rfl) (by kernel_rfl) tab_dat (by decide) h'
 ·rw [show G g = .junk from if_neg hg]
  exact .junk _
theorem door_met (os : Os) (args : Array Value) : laidMetH Tryd.prog laidL ((World.doorLaid Tryd.prog 400 os).forCall (fun _ _ => 0) ⟨#[], args, []⟩).memory :=
 laidMetH_of_parts3 (fuel := 8) (laidMet_of_run' 8 (by kernel_rfl) (by kernel_rfl)) (by kernel_rfl) (by kernel_rfl)
def i64r (x : Int) : Prop := -9223372036854775808 ≤ x /\ x ≤ 9223372036854775807
theorem wf64 {x : Int} (h : (Lit.int .i64 x).wf = true) : i64r x := by
 simp only [Lit.wf, Bool.and_eq_true, decide_eq_true_eq] at h
 exact h
theorem ints_of {n : Nat} {xs : List AV} (h : typed Tryd.prog n 25 xs) : ∃ l : List Int, (∀ x ∈ l, i64r x) /\ xs = [.ro 1 (l.map (AV.int .i64))] := by
 obtain ⟨m, es, hl, hb, he, rfl⟩ := typed_slice Tryd.underlying25 h
 obtain ⟨l, h1, rfl⟩ := list_map_of (f := AV.int .i64) (Q := fun x => i64r x) (es := es) fun y hy => by
  obtain ⟨k, hk, e⟩ := typed_int Tryd.underlying3 (he y hy).1
  have h2 := (he y hy).2
  simp only [isE, Tryd.underlying3] at h2
  rw [h2] at e
  exact ⟨k, wf64 hk, by simpa using e⟩
 exact ⟨l, h1, rfl⟩
theorem int_of {n : Nat} {xs : List AV} (h : typed Tryd.prog n 3 xs) : ∃ x, i64r x /\ xs = [.int .i64 x] := by
 obtain ⟨k, hk, e⟩ := typed_int Tryd.underlying3 h
 exact ⟨k, wf64 hk, e⟩
def inpI (i : Ins) : Prop := i64r i.at_ /\ i64r i.op /\ i64r i.a /\ i64r i.b /\ i64r i.c /\ (∀ x ∈ i.x, i64r x) /\ i64r i.ra /\ (∀ x ∈ i.l, i64r x) /\ i64r i.n
theorem ins_of {n : Nat} {xs : List AV} (h : typed Tryd.prog n 27 xs) : ∃ i : Ins, inpI i /\ xs = insA i := by
 obtain ⟨m, y0, r0, rfl, h0, y1, r1, rfl, h1, y2, r2, rfl, h2, y3, r3, rfl, h3, y4, r4, rfl, h4, y5, r5, rfl, h5, y6, r6, rfl, h6, y7, r7, rfl, h7, y8, r8, rfl, h8, rfl⟩ := typed_struct Tryd.underlying27 h rfl
 obtain ⟨a0, w0, rfl⟩ := int_of h0
 obtain ⟨a1, w1, rfl⟩ := int_of h1
 obtain ⟨a2, w2, rfl⟩ := int_of h2
 obtain ⟨a3, w3, rfl⟩ := int_of h3
 obtain ⟨a4, w4, rfl⟩ := int_of h4
 obtain ⟨a5, w5, rfl⟩ := ints_of h5
 obtain ⟨a6, w6, rfl⟩ := int_of h6
 obtain ⟨a7, w7, rfl⟩ := ints_of h7
 obtain ⟨a8, w8, rfl⟩ := int_of h8
 exact ⟨⟨a0, a1, a2, a3, a4, a5, a6, a7, a8⟩, ⟨w0, w1, w2, w3, w4, w5, w6, w7, w8⟩, rfl⟩
end Go.Proofs.YtfdipcpmfoidoaaDoor

/- Read is the reference's. -/
namespace Go.Proofs.YtfdipcpmfoidoaaDoor
open Go Go.Aw
set_option linter.unusedSimpArgs false
set_option linter.unusedVariables false
set_option maxRecDepth 100000
set_option maxHeartbeats 4000000
end Go.Proofs.YtfdipcpmfoidoaaDoor

/- The reference's All. -/
namespace Go.Proofs.YtfdipcpmfoidoaaDoor
open Go Go.Aw
set_option linter.unusedSimpArgs false
set_option linter.unusedVariables false
set_option maxRecDepth 100000
set_option maxHeartbeats 40000000
def awI : Ins := ⟨0, 12, 0, 2, 1, [7], 9, [1, 2], 0⟩
theorem aw_words : wordsM awI = (0, [16908300, 7, 9, 513]) := by kernel_rfl
theorem aw_read : readM [20] 0 = (⟨0, 20, 0, 0, 0, [], -1, [], 1⟩, 0) := by kernel_rfl
theorem aw_pack : packM 1 2 3 0 = .tup [.int .u32 197121, .int .i64 0] := by kernel_rfl
theorem awake_ev : E.F 7 [] [] = some ((.bool true, []), True) := by
 have p := pack_ev (a := 1) (b := 2) (c := 3) (d := 0)
 rw [aw_pack] at p
 have w := words_ev (i := awI) (by decide) (by decide)
 rw [aw_words] at w
 have r := read_ev (ws := [20]) (n := 0) (by decide) (by simp [u32r])
 rw [aw_read] at r
 have q := eq32_ev (a := [16908300, 7, 9, 513]) (b := [16908300, 7, 9, 513]) (by decide)
 simp only [awI, insA, wordsV, readV, List.map_cons, List.map_nil, decide_true] at w r q
 rw [e7]
 simp (maxSteps := 100000000) only [ivc, rgb, anf, vop, vlen, vbuiltin, nilR, salloc, eq_self, Nat.reduceEqDiff, Nat.reduceLT, Nat.reduceLeDiff, Nat.reduceAdd, Nat.reduceMul, Nat.reduceBEq, Int.reduceLT, Int.reduceLE, Int.reduceNeg, Int.reduceToNat, Int.reduceAdd, reduceCtorEq, ↓reduceIte, tyb, l11_5, e11, p, w, r]
theorem cmp1 {a : Int} : E.F 47 [.sl 100000 0 1] [(100000, ⟨false, 1, [.int .i64 a]⟩)] = some ((.sl 100000 0 1, [(100000, ⟨false, 1, [.int .i64 a]⟩)]), True) := by
 rw [e47]
 simp (maxSteps := 100000000) only [ivc, rgb, anf, vlen, vbuiltin, nilR, eq_self, Nat.reduceLT, Nat.reduceLeDiff, Nat.reduceBEq, Int.reduceLT, reduceCtorEq, ↓reduceIte, tyb]
theorem cmp2 {a b : Int} (h : a ≠ b) : E.F 47 [.sl 100000 0 2] [(100000, ⟨false, 1, [.int .i64 a, .int .i64 b]⟩)] = some ((.sl 100000 0 2, [(100000, ⟨false, 1, [.int .i64 a, .int .i64 b]⟩)]), True) := by
 have e : (b == a) = false := by simp [Ne.symm h]
 rw [e47]
 simp (maxSteps := 100000000) only [ivc, rgb, anf, vlen, vbuiltin, nilR, eq_self, Nat.reduceEqDiff, Nat.reduceLT, Nat.reduceLeDiff, Nat.reduceAdd, Nat.reduceBEq, Int.reduceLT, Int.reduceLE, Int.reduceNeg, Int.reduceToNat, Int.reduceAdd, Int.reduceSub, reduceCtorEq, ↓reduceIte, tyb, l47_5, e]
theorem cmpS {a : Int} : E.F 47 [.sl 100000 0 2] [(100000, ⟨false, 1, [.int .i64 a, .int .i64 a]⟩)] = some ((.sl 100000 0 1, [(100000, ⟨false, 1, [.int .i64 a, .int .i64 0]⟩)]), True) := by
 have e : (a == a) = true := by simp
 rw [e47]
 simp (maxSteps := 100000000) only [ivc, rgb, anf, vop, vslice, vlen, vbuiltin, nilR, eq_self, Nat.reduceEqDiff, Nat.reduceLT, Nat.reduceLeDiff, Nat.reduceAdd, Nat.reduceSub, Nat.reduceBEq, Int.reduceLT, Int.reduceLE, Int.reduceNeg, Int.reduceToNat, Int.reduceSub, reduceCtorEq, implies_true, ↓reduceIte, tyb, l47_5, l47_10]
def isR (n : Int) : Bool := (n == 2) || (n == 3) || (n == 4)
def isR' (n : Int) : Bool := (n == 1) || (n == 2) || (n == 3)
theorem isR_ev {n : Int} : E.F 43 [.int .i64 n] [] = some ((.bool (isR n), []), True) := by
 rw [e43]
 unfold isR
 simp (maxSteps := 100000000) only [ivc, rgb, anf, nilR, eq_self, Nat.reduceEqDiff, Nat.reduceLT, Nat.reduceLeDiff, Nat.reduceBEq, reduceCtorEq, ↓reduceIte, tyb]
theorem isR'_ev {n : Int} : E.F 44 [.int .i64 n] [] = some ((.bool (isR' n), []), True) := by
 rw [e44]
 unfold isR'
 simp (maxSteps := 100000000) only [ivc, rgb, anf, nilR, eq_self, Nat.reduceEqDiff, Nat.reduceLT, Nat.reduceLeDiff, Nat.reduceBEq, reduceCtorEq, ↓reduceIte, tyb]
def wrA (n : Int) : Bool := (decide (0 ≤ n) && decide (n ≤ 14)) || (n == 16) || (n == 17) || (n == 23)
theorem wrA_ev {n : Int} : E.F 45 [.int .i64 n] [] = some ((.bool (wrA n), []), True) := by
 rw [e45]
 unfold wrA
 simp (maxSteps := 100000000) only [ivc, rgb, anf, nilR, eq_self, Nat.reduceEqDiff, Nat.reduceLT, Nat.reduceLeDiff, Nat.reduceBEq, reduceCtorEq, ↓reduceIte, tyb]
def wideW (i : Ins) : Int := IntKind.i64.wrap (i.b + IntKind.i64.wrap (256 * i.c))
theorem wide_ev {i : Ins} : E.F 46 [.agg (insA i)] [] = some ((.int .i64 (wideW i), []), True) := by
 simp only [insA]
 rw [e46]
 unfold wideW
 simp (maxSteps := 100000000) only [ivc, rgb, anf, vop, nilR, salloc, eq_self, Nat.reduceEqDiff, Nat.reduceLT, Nat.reduceLeDiff, Nat.reduceAdd, Nat.reduceBEq, reduceCtorEq, ↓reduceIte, tyb]
theorem D_ev {i : Ins} : E.F 48 [.agg (insA i)] [] = some ((.int .i64 (wideW i), []), True) := by
 simp only [insA]
 rw [e48]
 unfold wideW
 simp (maxSteps := 100000000) only [ivc, rgb, anf, vop, nilR, salloc, eq_self, Nat.reduceEqDiff, Nat.reduceLT, Nat.reduceLeDiff, Nat.reduceAdd, Nat.reduceBEq, reduceCtorEq, ↓reduceIte, tyb]
theorem safe_ev {i : Ins} : E.F 27 [.agg (insA i)] [] = some ((.bool (opIn i.op && (rowW i.op).sa), []), True) := by
 have ro := row_ev (n := i.op)
 simp only [insA]
 simp only [rowA] at ro
 rw [e27]
 simp (maxSteps := 100000000) only [ivc, rgb, anf, vop, salloc, eq_self, Nat.reduceEqDiff, Nat.reduceLT, Nat.reduceLeDiff, Nat.reduceAdd, Nat.reduceBEq, reduceCtorEq, ↓reduceIte, tyb, ro]
def safeR (n : Int) : Bool := (n == 6) || (n == 7) || (n == 8) || (n == 11) || (n == 12) || (n == 13) || (n == 14) || (n == 15)
theorem rsafe_ev {i : Ins} : E.F 28 [.agg (insA i)] [] = some ((.bool (safeR i.op), []), True) := by
 simp only [insA]
 unfold safeR
 generalize i.op = n
 rw [e28]
 cases h6 : (n == 6) with
 | true => simp (maxSteps := 100000000) only [ivc, rgb, anf, vop, nilR, salloc, eq_self, Nat.reduceEqDiff, Nat.reduceLT, Nat.reduceLeDiff, Nat.reduceAdd, Nat.reduceBEq, reduceCtorEq, ↓reduceIte, tyb, h6]
 | false =>
 cases h7 : (n == 7) with
 | true => simp (maxSteps := 100000000) only [ivc, rgb, anf, vop, nilR, salloc, eq_self, Nat.reduceEqDiff, Nat.reduceLT, Nat.reduceLeDiff, Nat.reduceAdd, Nat.reduceBEq, reduceCtorEq, ↓reduceIte, tyb, h6, h7]
 | false =>
 cases h8 : (n == 8) with
 | true => simp (maxSteps := 100000000) only [ivc, rgb, anf, vop, nilR, salloc, eq_self, Nat.reduceEqDiff, Nat.reduceLT, Nat.reduceLeDiff, Nat.reduceAdd, Nat.reduceBEq, reduceCtorEq, ↓reduceIte, tyb, h6, h7, h8]
 | false =>
 cases h11 : (n == 11) with
 | true => simp (maxSteps := 100000000) only [ivc, rgb, anf, vop, nilR, salloc, eq_self, Nat.reduceEqDiff, Nat.reduceLT, Nat.reduceLeDiff, Nat.reduceAdd, Nat.reduceBEq, reduceCtorEq, ↓reduceIte, tyb, h6, h7, h8, h11]
 | false =>
 cases h12 : (n == 12) with
 | true => simp (maxSteps := 100000000) only [ivc, rgb, anf, vop, nilR, salloc, eq_self, Nat.reduceEqDiff, Nat.reduceLT, Nat.reduceLeDiff, Nat.reduceAdd, Nat.reduceBEq, reduceCtorEq, ↓reduceIte, tyb, h6, h7, h8, h11, h12]
 | false =>
 cases h13 : (n == 13) with
 | true => simp (maxSteps := 100000000) only [ivc, rgb, anf, vop, nilR, salloc, eq_self, Nat.reduceEqDiff, Nat.reduceLT, Nat.reduceLeDiff, Nat.reduceAdd, Nat.reduceBEq, reduceCtorEq, ↓reduceIte, tyb, h6, h7, h8, h11, h12, h13]
 | false =>
 cases h14 : (n == 14) with
 | true => simp (maxSteps := 100000000) only [ivc, rgb, anf, vop, nilR, salloc, eq_self, Nat.reduceEqDiff, Nat.reduceLT, Nat.reduceLeDiff, Nat.reduceAdd, Nat.reduceBEq, reduceCtorEq, ↓reduceIte, tyb, h6, h7, h8, h11, h12, h13, h14]
 | false =>
 cases h15 : (n == 15) with
 | true => simp (maxSteps := 100000000) only [ivc, rgb, anf, vop, nilR, salloc, eq_self, Nat.reduceEqDiff, Nat.reduceLT, Nat.reduceLeDiff, Nat.reduceAdd, Nat.reduceBEq, reduceCtorEq, ↓reduceIte, tyb, h6, h7, h8, h11, h12, h13, h14, h15]
 | false => simp (maxSteps := 100000000) only [ivc, rgb, anf, vop, nilR, salloc, eq_self, Nat.reduceEqDiff, Nat.reduceLT, Nat.reduceLeDiff, Nat.reduceAdd, Nat.reduceBEq, reduceCtorEq, ↓reduceIte, tyb, h6, h7, h8, h11, h12, h13, h14, h15]
theorem safe_alike : ∀ n : Nat, n < 24 -> (rowsT.getD n opZ).sa = safeR n := by decide
theorem safe_eq {n : Int} : (opIn n && (rowW n).sa) = safeR n := by
 cases h : opIn n with
 | true =>
  obtain ⟨h0, h1⟩ := opIn_true h
  have := safe_alike n.toNat (by omega)
  unfold rowW
  rw [h, if_pos rfl, this, show (n.toNat : Int) = n by omega, Bool.true_and]
 | false =>
  have := opIn_false h
  unfold safeR
  have k : ∀ m : Int, 0 ≤ m /\ m < 24 -> (n == m) = false := fun m hm => beq_eq_false_iff_ne.2 (by omega)
  rw [k 6 (by omega), k 7 (by omega), k 8 (by omega), k 11 (by omega), k 12 (by omega), k 13 (by omega), k 14 (by omega), k 15 (by omega)]
  rfl
def nxW (i : Ins) : Int := IntKind.i64.wrap (i.at_ + i.n)
def cmpM (a b : Int) : List Int := if a = b then [a] else [a, b]
def nextM (i : Ins) : List Int :=
 if ((i.op == 20) || (i.op == 21) || (i.op == 22)) = true then []
 else if (i.op == 18) = true then [wideW i]
 else if (i.op == 19) = true then cmpM (nxW i) (wideW i)
 else if 0 ≤ i.ra then cmpM (nxW i) i.ra
 else [nxW i]
theorem next_ev {i : Ins} : E.F 25 [.agg (insA i)] [] = some ((.ro 1 ((nextM i).map (.int .i64)), []), True) := by
 have wd := wide_ev (i := i)
 have c1 := cmp1 (a := nxW i)
 unfold nextM
 simp only [insA] at wd ⊢
 rw [e25]
 have hnx : IntKind.i64.wrap (i.at_ + i.n) = nxW i := rfl
 cases h20 : (i.op == 20) with
 | true => simp (maxSteps := 100000000) only [ivc, rgb, anf, vop, nilR, salloc, eq_self, Nat.reduceEqDiff, Nat.reduceLT, Nat.reduceLeDiff, Nat.reduceAdd, Nat.reduceBEq, ↓reduceIte, tyb, hnx, h20]
 | false =>
 cases h21 : (i.op == 21) with
 | true => simp (maxSteps := 100000000) only [ivc, rgb, anf, vop, nilR, salloc, eq_self, Nat.reduceEqDiff, Nat.reduceLT, Nat.reduceLeDiff, Nat.reduceAdd, Nat.reduceBEq, ↓reduceIte, tyb, hnx, h20, h21]
 | false =>
 cases h22 : (i.op == 22) with
 | true => simp (maxSteps := 100000000) only [ivc, rgb, anf, vop, nilR, salloc, eq_self, Nat.reduceEqDiff, Nat.reduceLT, Nat.reduceLeDiff, Nat.reduceAdd, Nat.reduceBEq, ↓reduceIte, tyb, hnx, h20, h21, h22]
 | false =>
 cases h18 : (i.op == 18) with
 | true => simp (maxSteps := 100000000) only [ivc, rgb, anf, vop, nilR, salloc, eq_self, Nat.reduceEqDiff, Nat.reduceLT, Nat.reduceLeDiff, Nat.reduceAdd, Nat.reduceBEq, ↓reduceIte, tyb, hnx, wd, h20, h21, h22, h18]
 | false =>
 cases h19 : (i.op == 19) with
 | true =>
  have n19 : (i.op != 19) = false := by simp [h19, bne]
  by_cases hc : nxW i = wideW i
  ·have C := cmpS (a := nxW i)
   have cm : cmpM (nxW i) (wideW i) = [nxW i] := by unfold cmpM; rw [if_pos hc]
   have b1 : (wideW i != nxW i) = false := by simp [hc]
   rw [<- hc] at wd b1 cm ⊢
   simp (maxSteps := 100000000) only [ivc, rgb, anf, vop, nilR, salloc, sappend, eq_self, Nat.reduceEqDiff, Nat.reduceLT, Nat.reduceLeDiff, Nat.reduceAdd, Nat.reduceMul, Nat.reduceBEq, ↓reduceIte, tyb, hnx, wd, h20, h21, h22, h18, h19, cm, C]
  ·have C := cmp2 hc
   have cm : cmpM (nxW i) (wideW i) = [nxW i, wideW i] := by unfold cmpM; rw [if_neg hc]
   have b1 : (wideW i != nxW i) = true := by simp [Ne.symm hc]
   simp (maxSteps := 100000000) only [ivc, rgb, anf, vop, nilR, salloc, sappend, eq_self, Nat.reduceEqDiff, Nat.reduceLT, Nat.reduceLeDiff, Nat.reduceAdd, Nat.reduceMul, Nat.reduceBEq, ↓reduceIte, tyb, hnx, wd, h20, h21, h22, h18, h19, cm, C]
 | false =>
  have n19 : (i.op != 19) = true := by simp [h19, bne]
  by_cases hr : 0 ≤ i.ra
  ·have hr' := eq_true hr
   by_cases hc : nxW i = i.ra
   ·have C := cmpS (a := nxW i)
    have cm : cmpM (nxW i) (i.ra) = [nxW i] := by unfold cmpM; rw [if_pos hc]
    have b1 : (i.ra != nxW i) = false := by simp [hc]
    rw [<- hc] at b1 cm hr' ⊢
    simp (maxSteps := 100000000) only [ivc, rgb, anf, vop, nilR, salloc, sappend, eq_self, Nat.reduceEqDiff, Nat.reduceLT, Nat.reduceLeDiff, Nat.reduceAdd, Nat.reduceMul, Nat.reduceBEq, ↓reduceIte, tyb, hnx, h20, h21, h22, h18, h19, hr', cm, C]
   ·have C := cmp2 hc
    have cm : cmpM (nxW i) (i.ra) = [nxW i, i.ra] := by unfold cmpM; rw [if_neg hc]
    have b1 : (i.ra != nxW i) = true := by simp [Ne.symm hc]
    simp (maxSteps := 100000000) only [ivc, rgb, anf, vop, nilR, salloc, sappend, eq_self, Nat.reduceEqDiff, Nat.reduceLT, Nat.reduceLeDiff, Nat.reduceAdd, Nat.reduceMul, Nat.reduceBEq, ↓reduceIte, tyb, hnx, h20, h21, h22, h18, h19, hr', cm, C]
  ·have hr' := eq_false hr
   simp (maxSteps := 100000000) only [ivc, rgb, anf, vop, nilR, salloc, eq_self, Nat.reduceEqDiff, Nat.reduceLT, Nat.reduceLeDiff, Nat.reduceAdd, Nat.reduceMul, Nat.reduceBEq, ↓reduceIte, tyb, hnx, h20, h21, h22, h18, h19, hr', c1]
theorem rnext_ev {i : Ins} : E.F 26 [.agg (insA i)] [] = some ((.ro 1 ((nextM i).map (.int .i64)), []), True) := by
 have wd := D_ev (i := i)
 have c1 := cmp1 (a := nxW i)
 unfold nextM
 simp only [insA] at wd ⊢
 rw [e26]
 have hnx : IntKind.i64.wrap (i.at_ + i.n) = nxW i := rfl
 cases h20 : (i.op == 20) with
 | true => simp (maxSteps := 100000000) only [ivc, rgb, anf, vop, nilR, salloc, eq_self, Nat.reduceEqDiff, Nat.reduceLT, Nat.reduceLeDiff, Nat.reduceAdd, Nat.reduceBEq, ↓reduceIte, tyb, h20]
 | false =>
 cases h21 : (i.op == 21) with
 | true => simp (maxSteps := 100000000) only [ivc, rgb, anf, vop, nilR, salloc, eq_self, Nat.reduceEqDiff, Nat.reduceLT, Nat.reduceLeDiff, Nat.reduceAdd, Nat.reduceBEq, ↓reduceIte, tyb, h20, h21]
 | false =>
 cases h22 : (i.op == 22) with
 | true => simp (maxSteps := 100000000) only [ivc, rgb, anf, vop, nilR, salloc, eq_self, Nat.reduceEqDiff, Nat.reduceLT, Nat.reduceLeDiff, Nat.reduceAdd, Nat.reduceBEq, ↓reduceIte, tyb, h20, h21, h22]
 | false =>
 cases h18 : (i.op == 18) with
 | true => simp (maxSteps := 100000000) only [ivc, rgb, anf, vop, nilR, salloc, eq_self, Nat.reduceEqDiff, Nat.reduceLT, Nat.reduceLeDiff, Nat.reduceAdd, Nat.reduceBEq, ↓reduceIte, tyb, wd, h20, h21, h22, h18]
 | false =>
 cases h19 : (i.op == 19) with
 | true =>
  have n19 : (i.op != 19) = false := by simp [h19, bne]
  by_cases hc : nxW i = wideW i
  ·have cm : cmpM (nxW i) (wideW i) = [nxW i] := by unfold cmpM; rw [if_pos hc]
   have b1 : (wideW i != nxW i) = false := by simp [hc]
   simp (maxSteps := 100000000) only [ivc, rgb, anf, vop, nilR, salloc, eq_self, Nat.reduceEqDiff, Nat.reduceLT, Nat.reduceLeDiff, Nat.reduceAdd, Nat.reduceBEq, Int.reduceLT, Int.reduceLE, Int.reduceToNat, ↓reduceIte, tyb, hnx, wd, h20, h21, h22, h18, h19, n19, b1, cm]
  ·have cm : cmpM (nxW i) (wideW i) = [nxW i, wideW i] := by unfold cmpM; rw [if_neg hc]
   have b1 : (wideW i != nxW i) = true := by simp [Ne.symm hc]
   simp (maxSteps := 100000000) only [ivc, rgb, anf, vop, nilR, salloc, sappend, eq_self, Nat.reduceEqDiff, Nat.reduceLT, Nat.reduceLeDiff, Nat.reduceAdd, Nat.reduceMul, Nat.reduceBEq, Int.reduceLT, Int.reduceLE, Int.reduceToNat, ↓reduceIte, tyb, hnx, wd, h20, h21, h22, h18, h19, b1, cm]
 | false =>
  have n19 : (i.op != 19) = true := by simp [h19, bne]
  by_cases hr : 0 ≤ i.ra
  ·have hr' := eq_true hr
   by_cases hc : nxW i = i.ra
   ·have cm : cmpM (nxW i) (i.ra) = [nxW i] := by unfold cmpM; rw [if_pos hc]
    have b1 : (i.ra != nxW i) = false := by simp [hc]
    simp (maxSteps := 100000000) only [ivc, rgb, anf, vop, nilR, salloc, eq_self, Nat.reduceEqDiff, Nat.reduceLT, Nat.reduceLeDiff, Nat.reduceAdd, Nat.reduceBEq, Int.reduceLT, Int.reduceLE, Int.reduceToNat, ↓reduceIte, tyb, hnx, h20, h21, h22, h18, h19, n19, hr', b1, cm]
   ·have cm : cmpM (nxW i) (i.ra) = [nxW i, i.ra] := by unfold cmpM; rw [if_neg hc]
    have b1 : (i.ra != nxW i) = true := by simp [Ne.symm hc]
    simp (maxSteps := 100000000) only [ivc, rgb, anf, vop, nilR, salloc, sappend, eq_self, Nat.reduceEqDiff, Nat.reduceLT, Nat.reduceLeDiff, Nat.reduceAdd, Nat.reduceMul, Nat.reduceBEq, Int.reduceLT, Int.reduceLE, Int.reduceToNat, ↓reduceIte, tyb, hnx, h20, h21, h22, h18, h19, n19, hr', b1, cm]
  ·have hr' := eq_false hr
   simp (maxSteps := 100000000) only [ivc, rgb, anf, vop, nilR, salloc, eq_self, Nat.reduceEqDiff, Nat.reduceLT, Nat.reduceLeDiff, Nat.reduceAdd, Nat.reduceBEq, Int.reduceLT, Int.reduceLE, Int.reduceToNat, ↓reduceIte, tyb, hnx, h20, h21, h22, h18, h19, n19, hr']
def usesM (i : Ins) : List Int × Int :=
 if opIn i.op = true then
  ((if (rowW i.op).wr = true then [] else if isR (rowW i.op).a = true then [i.a] else []) ++ ((if isR (rowW i.op).b = true then [i.b] else []) ++ ((if isR (rowW i.op).c = true then [i.c] else []) ++ (if (rowW i.op).li = true then i.l else []))),
   if (rowW i.op).wr = true then i.a else -1)
 else ([], -1)
def rusesM (i : Ins) : List Int × Int :=
 if opIn i.op = true then
  ((if isR' (shW i.op).a = true then (if wrA i.op = true then [] else [i.a]) else []) ++ ((if isR' (shW i.op).b = true then [i.b] else []) ++ ((if isR' (shW i.op).c = true then [i.c] else []) ++ (if ((shW i.op).b == 5) = true then i.l else []))),
   if isR' (shW i.op).a = true then (if wrA i.op = true then i.a else -1) else -1)
 else ([], -1)
def ualike (r : OpRow) (s : Shp) (w : Bool) : Bool := (r.wr == (isR' s.a && w)) && ((!r.wr && isR r.a) == (isR' s.a && !w)) && (isR r.b == isR' s.b) && (isR r.c == isR' s.c) && (r.li == (s.b == 5))
theorem tab_ualike : ∀ n : Nat, n < 24 -> ualike (rowsT.getD n opZ) (shT.getD n shZ) (wrA n) = true := by decide
theorem uses_eq {i : Ins} : rusesM i = usesM i := by
 unfold rusesM usesM
 cases h : opIn i.op with
 | false => rfl
 | true =>
  obtain ⟨h0, h1⟩ := opIn_true h
  have ha : ualike (rowW i.op) (shW i.op) (wrA i.op) = true := by
   unfold rowW shW
   rw [if_pos h, if_pos h]
   have := tab_ualike i.op.toNat (by omega)
   rw [show ((i.op.toNat : Nat) : Int) = i.op by omega] at this
   exact this
  generalize rowW i.op = r at ha ⊢
  generalize shW i.op = s at ha ⊢
  generalize wrA i.op = w at ha ⊢
  unfold ualike at ha
  simp only [Bool.and_eq_true, beq_iff_eq] at ha
  obtain ⟨⟨⟨⟨a1, a2⟩, a3⟩, a4⟩, a5⟩ := ha
  rw [a3, a4, a5]
  cases hr : isR' s.a <;> cases w <;> rw [hr] at a1 a2 <;> simp at a1 a2 <;> simp [a1, a2]
theorem uses_ev {i : Ins} (hl : i.l.length ≤ 80) : E.F 22 [.agg (insA i)] [] = some ((.tup [.ro 1 ((usesM i).1.map (.int .i64)), .int .i64 (usesM i).2], []), True) := by
 have ro := row_ev (n := i.op)
 have ia := isR_ev (n := (rowW i.op).a)
 have ib := isR_ev (n := (rowW i.op).b)
 have ic := isR_ev (n := (rowW i.op).c)
 unfold usesM
 simp only [insA]
 simp only [rowA] at ro
 cases h : opIn i.op with
 | false =>
  rw [h] at ro
  rw [e22]
  simp (maxSteps := 100000000) only [ivc, rgb, anf, vop, salloc, eq_self, Nat.reduceEqDiff, Nat.reduceLT, Nat.reduceLeDiff, Nat.reduceAdd, Nat.reduceBEq, Int.reduceNeg, ↓reduceIte, tyb, ro]
 | true =>
 rw [h] at ro
 generalize rowW i.op = r at *
 cases hb : isR r.b <;> cases hc : isR r.c <;> cases hli : r.li <;> cases hw : r.wr <;> cases ha : isR r.a <;> rw [ha] at ia <;> rw [hb] at ib <;> rw [hc] at ic
 all_goals
  rw [e22]
  simp (maxSteps := 100000000) only [ivc, rgb, anf, vop, salloc, sappend, eq_self, Nat.reduceEqDiff, Nat.reduceLT, Nat.reduceLeDiff, Nat.reduceAdd, Nat.reduceMul, Nat.reduceBEq, Int.reduceNeg, ↓reduceIte, tyb, ro, ia, ib, ic, hw, hli]
 all_goals first
  | exact some_true (by omega)
  | (rw [List.take_of_length_le (by simp; omega)]; exact some_true (by omega))
theorem ruses_ev {i : Ins} (hl : i.l.length ≤ 80) : E.F 23 [.agg (insA i)] [] = some ((.tup [.ro 1 ((rusesM i).1.map (.int .i64)), .int .i64 (rusesM i).2], []), True) := by
 have ro := shape_ev (n := i.op)
 have ia := isR'_ev (n := (shW i.op).a)
 have wa := wrA_ev (n := i.op)
 have ib := isR'_ev (n := (shW i.op).b)
 have ic := isR'_ev (n := (shW i.op).c)
 unfold rusesM
 simp only [insA]
 simp only [shA] at ro
 cases h : opIn i.op with
 | false =>
  rw [h] at ro
  rw [e23]
  simp (maxSteps := 100000000) only [ivc, rgb, anf, vop, salloc, eq_self, Nat.reduceEqDiff, Nat.reduceLT, Nat.reduceLeDiff, Nat.reduceAdd, Nat.reduceBEq, Int.reduceNeg, ↓reduceIte, tyb, ro]
 | true =>
 rw [h] at ro
 generalize shW i.op = r at *
 cases hb : isR' r.b <;> cases hc : isR' r.c <;> cases hli : (r.b == 5) <;> cases hw : wrA i.op <;> cases ha : isR' r.a <;> rw [ha] at ia <;> rw [hw] at wa <;> rw [hb] at ib <;> rw [hc] at ic
 all_goals
  rw [e23]
  simp (maxSteps := 100000000) only [ivc, rgb, anf, vop, nilR, salloc, sappend, eq_self, Nat.reduceEqDiff, Nat.reduceLT, Nat.reduceLeDiff, Nat.reduceAdd, Nat.reduceMul, Nat.reduceBEq, Int.reduceNeg, ↓reduceIte, tyb, ro, ia, ib, ic, wa, hli]
 all_goals first
  | exact some_true (by omega)
  | (rw [List.take_of_length_le (by simp; omega)]; exact some_true (by omega))
theorem next_len {i : Ins} : (nextM i).length ≤ 2 := by
 unfold nextM cmpM
 repeat' split
 all_goals simp
theorem uses_len {i : Ins} (h : i.l.length ≤ 80) : (usesM i).1.length ≤ 100 := by
 unfold usesM
 split
 ·simp only [List.length_append]
  repeat' split
  all_goals simp
  all_goals omega
 ·simp
theorem shapes_ev {i : Ins} : E.F 5 [.agg (insA i)] [] = some ((.bool true, []), True) := by
 have aw := awake_ev
 simp only [insA]
 by_cases h2 : 8 < i.x.length
 ·have q2 : ((8 : Int) < i.x.length) = True := eq_true (by omega)
  rw [e5]
  simp (maxSteps := 100000000) only [ivc, rgb, anf, vop, vlen, vbuiltin, nilR, salloc, eq_self, Nat.reduceEqDiff, Nat.reduceLT, Nat.reduceLeDiff, Nat.reduceAdd, Nat.reduceBEq, reduceCtorEq, ↓reduceIte, tyb, q2, aw]
 ·have q2 : ((8 : Int) < i.x.length) = False := eq_false (by omega)
  by_cases h3 : 80 < i.l.length
  ·have q3 : ((80 : Int) < i.l.length) = True := eq_true (by omega)
   rw [e5]
   simp (maxSteps := 100000000) only [ivc, rgb, anf, vop, vlen, vbuiltin, nilR, salloc, eq_self, Nat.reduceEqDiff, Nat.reduceLT, Nat.reduceLeDiff, Nat.reduceAdd, Nat.reduceBEq, reduceCtorEq, ↓reduceIte, tyb, q2, q3, aw]
  ·have q3 : ((80 : Int) < i.l.length) = False := eq_false (by omega)
   have u1 := uses_ev (i := i) (by omega)
   have u2 := ruses_ev (i := i) (by omega)
   rw [uses_eq] at u2
   have n1 := next_ev (i := i)
   have n2 := rnext_ev (i := i)
   have s1 := safe_ev (i := i)
   have s2 := rsafe_ev (i := i)
   rw [safe_eq] at s1
   have eN := eq64_ev (a := nextM i) (b := nextM i) (by have := next_len (i := i); omega)
   have eU := eq64_ev (a := (usesM i).1) (b := (usesM i).1) (by have := uses_len (i := i) (by omega); omega)
   generalize nextM i = N at *
   generalize usesM i = U at *
   obtain ⟨U, d⟩ := U
   generalize safeR i.op = sb at *
   have bb : (sb == sb) = true := by simp
   have dd : (d == d) = true := by simp
   simp only [decide_true] at eN eU
   simp only [insA] at u1 u2 n1 n2 s1 s2
   rw [e5]
   simp (maxSteps := 100000000) only [ivc, rgb, anf, vop, vlen, vbuiltin, nilR, salloc, eq_self, Nat.reduceEqDiff, Nat.reduceLT, Nat.reduceLeDiff, Nat.reduceAdd, Nat.reduceBEq, reduceCtorEq, ↓reduceIte, tyb, q2, q3, aw, u1, u2, n1, n2, s1, s2, eN, eU]
end Go.Proofs.YtfdipcpmfoidoaaDoor

namespace Go.Proofs.YtfdipcpmfoidoaaDoor
open Go Go.Aw
set_option linter.unusedSimpArgs false
set_option linter.unusedVariables false
set_option maxRecDepth 100000
theorem shapes_lifted (os : Os) (started : os.Started) (H : Type) (enc : TypeId × Value -> H) :
  ReturnsInHanded {} Tryd.checked os 5 .any (fun w args => (Rows.codeShapesSpec.pre enc Tryd.prog Tryd.f5 [] false w args /\ laidMetH Tryd.prog laidL w) /\ sizedMet enc Tryd.prog Tryd.f5 (OpenSpec.ofChange Rows.codeShapesSpec) false w args)
   (Rows.codeShapesSpec.post enc Tryd.prog Tryd.f5 false true false false) := by
 refine returnsInHanded_of_change_and (C := Tryd.checked) (X := fun w _ => laidMetH Tryd.prog laidL w) (fun _ _ _ hh h => h.of_heap hh) own started (by kernel_rfl) Tryd.func5
  (ChangeSpec.witness_shaped (enc := enc) (C := Tryd.checked) (os := os) (X := fun w _ => laidMetH Tryd.prog laidL w) false (World.doorLaid Tryd.prog 400 os) #[.agg #[.int .i64 0, .int .i64 0, .int .i64 0, .int .i64 0, .int .i64 0, .slice none 0 0, .int .i64 0, .slice none 0 0, .int .i64 0]] 8 rfl (World.shaped_of_RefB (by kernel_rfl) (by kernel_rfl)) (by kernel_rfl) (by kernel_rfl) (by kernel_rfl) (door_met os _)) ?_
 intro W base args ds gs before hval hW _ hsz hL _
 refine law_contractG (G := G) (A := AN) evok laidOut (fn := Tryd.f5) (l := [27, 25, 3]) (by kernel_rfl) (ts := [27]) (by rw [Tryd.params5]) (by kernel_rfl) (by kernel_rfl) (tb := 4) (by kernel_rfl) Tryd.underlying4 rfl (tab_laid hL) hval hW hsz (fun ds h => ?_) fun nx hl ht => ?_
 ·match ds, h with
  | [a], _ => exact ⟨rfl, rfl, rfl⟩
 ·match nx, hl with
  | [a], _ =>
   obtain ⟨la, ra, ha⟩ := ins_of (ht 0 27 a rfl rfl)
   refine ⟨[], ?_⟩
   have := shapes_ev (i := la)
   show E.F 5 [argA Tryd.prog 27 a.2] [] = _
   rw [ha]
   simp only [argA, Tryd.underlying27, List.getD_cons_zero]
   exact this
theorem shapes_holds : Rows.CodeShapesSaid :=
 OpenClaim.holds_of_wide 5 Tryd.f5 rfl rfl rfl rfl rfl rfl rfl ⟨rfl, rfl, rfl, rfl, rfl⟩ rfl rfl rfl rfl rfl (by kernel_rfl) Tryd.func5 (by kernel_rfl)
  (of_decide_eq_true (by kernel_rfl)) (by unfold Func.isWrapper; first | (rw [if_pos (by decide +kernel)]; kernel_rfl) | (rw [if_neg (by decide +kernel)]; exact ⟨rfl, rfl⟩))
  (fun os started H enc _ => shapes_lifted os started H enc)
theorem shapes_card : Rows.CodeShapesCardSaid :=
 Claim7.holds_tied_plain_at .later [] [.widerDeep] true (true, "09bf8b756bc8d9dfa2faf4825854ee5bd48bd8245ec705a19d468fbba49fe3eb") false
  shapes_holds (fun _ h => by cases h) (by kernel_rfl) (fun _ h => by cases h) codeShapes_row_tie rfl ⟨rfl, rfl⟩ (by kernel_rfl) rfl
  (fun f fn hf hfn => by
   obtain rfl : f = 5 := Option.some.inj ((show Tryd.prog.funcNamed "hackamore/hackamorelaw24.CodeShapes" = some 5 by kernel_rfl).symm.trans hf) |>.symm
   obtain rfl : fn = Tryd.f5 := (Option.some.inj (Tryd.func5.symm.trans hfn)).symm
   exact ⟨by kernel_rfl, fun j t ht => by
    rw [Tryd.params5] at ht
    have hm : t ∈ [27] := by simpa using Array.mem_of_getElem? ht
    have hall : ([27].all fun u => !Tryd.prog.wantsStandIn u) = true := by kernel_rfl
    exact (show Tryd.prog.wantsStandIn t = false by simpa using List.all_eq_true.1 hall t hm)⟩)
  (by kernel_rfl)
end Go.Proofs.YtfdipcpmfoidoaaDoor

