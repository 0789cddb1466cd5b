/- CodeWordsBack: what Words writes, Read and All read back, for up to 30 instructions with up to 8 extra words and 80 entries each (else: that the program is awake); instructions of the same words are the same. The package's table hackamore/code.table is as the program's text lays it. -/
import Derived.Test.YtfdipcpmfoidoaaDoorTie
import Derived.Test.YtfdipcpmfoidoaaDoorCards
import Derived.LaidMore
import Derived.LaidLaws
import Derived.ProofKit
import Derived.Test.YtfdipcpmfoidoaaDoorC1
/- Equal rows. -/
namespace Go.Proofs.YtfdipcpmfoidoaaDoor
open Go Go.Aw
set_option linter.unusedSimpArgs false
set_option linter.unusedVariables false
set_option maxRecDepth 100000
set_option maxHeartbeats 40000000
theorem eq32_loop {a b : List Int} (hl : a.length = b.length) (hs : a.length ≤ 1000000) : ∀ (r r' m m' : List Int), a = m ++ r -> b = m' ++ r' -> m.length = m'.length ->
  ∃ k, E.L 11 5 [.ro 1 (a.map (.int .u32)), .ro 1 (b.map (.int .u32)), .bool false, .int .i64 a.length, .int .i64 m.length] [] = some ((if r = r' then .exit 0 else .ret, [.ro 1 (a.map (.int .u32)), .ro 1 (b.map (.int .u32)), .bool false, .int .i64 a.length, .int .i64 k], []), True) := by
 intro r
 induction r with
 | nil =>
  intro r' m m' h h' hm
  have q : ((m.length : Int) < a.length) = False := eq_false (by rw [h]; simp)
  have : r' = [] := by
   have := congrArg List.length h'; rw [h] at hl; simp at hl this; exact List.eq_nil_of_length_eq_zero (by omega)
  subst this
  refine ⟨m.length, ?_⟩
  rw [l11_5]
  simp (maxSteps := 100000000) only [ivc, rgb, anf, nilR, eq_self, Nat.reduceEqDiff, Nat.reduceLT, Nat.reduceAdd, Nat.reduceBEq, reduceCtorEq, ↓reduceIte, tyb, q]
 | cons y r ih => 
  intro r' m m' h h' hm
  have hp : 0 < r'.length := by
   have := congrArg List.length h'; rw [h] at hl; simp at hl this; omega
  obtain ⟨z, r', rfl⟩ := List.exists_cons_of_length_pos hp
  have hi' : ((m.length : Int) < a.length) = True := eq_true (by rw [h]; simp; omega)
  have hib : ((m.length : Int) < b.length) = True := eq_true (by rw [<- hl]; exact of_eq_true hi')
  have hw1 : IntKind.i64.wrap ((m.length : Int) + 1) = m.length + 1 := wrap_id (by omega) (by rw [h] at hs; simp at hs; omega)
  have hg := getD_map (f := AV.int .u32) (show a[m.length]? = some y by rw [h]; simp)
  have hg' := getD_map (f := AV.int .u32) (show b[m.length]? = some z by rw [h', hm]; simp)
  by_cases e : y = z
  ·subst e
   obtain ⟨k, ih⟩ := ih r' (m ++ [y]) (m' ++ [y]) (by rw [h]; simp) (by rw [h']; simp) (by simp [hm])
   refine ⟨k, ?_⟩
   simp only [List.length_append, List.length_cons, List.length_nil, Int.natCast_add, Int.cast_ofNat_Int, Nat.zero_add] at ih
   rw [l11_5]
   simp (maxSteps := 100000000) only [ivc, rgb, anf, nilR, eq_self, Nat.reduceEqDiff, Nat.reduceLT, Nat.reduceAdd, Nat.reduceBEq, reduceCtorEq, ↓reduceIte, tyb, hi', hib, hw1, hg, hg', ih]
   simp
  ·refine ⟨m.length, ?_⟩
   have hb : (y != z) = true := by simp [e]
   rw [l11_5]
   simp (maxSteps := 100000000) only [ivc, rgb, anf, nilR, eq_self, Nat.reduceEqDiff, Nat.reduceLT, Nat.reduceAdd, Nat.reduceBEq, reduceCtorEq, ↓reduceIte, tyb, hi', hib, hg, hg', hb]
   simp [e]
theorem eq32_ev {a b : List Int} (hs : a.length ≤ 1000000) : E.F 11 [.ro 1 (a.map (.int .u32)), .ro 1 (b.map (.int .u32))] [] = some ((.bool (decide (a = b)), []), True) := by
 by_cases hl : a.length = b.length
 ·obtain ⟨k, L⟩ := eq32_loop hl hs a b [] [] rfl rfl rfl
  have hl' : ((a.length : Int) != b.length) = false := by simp [hl]
  simp only [List.length_nil, Int.natCast_zero] at L
  rw [e11]
  by_cases e : a = b
  ·simp only [e, if_true] at L
   simp (maxSteps := 100000000) only [ivc, rgb, anf, vlen, vbuiltin, nilR, eq_self, Nat.reduceEqDiff, Nat.reduceLT, Nat.reduceLeDiff, Nat.reduceAdd, Nat.reduceBEq, reduceCtorEq, ↓reduceIte, tyb, L, e]
  ·simp only [e, if_false] at L
   simp (maxSteps := 100000000) only [ivc, rgb, anf, vlen, vbuiltin, nilR, eq_self, Nat.reduceEqDiff, Nat.reduceLT, Nat.reduceLeDiff, Nat.reduceAdd, Nat.reduceBEq, reduceCtorEq, ↓reduceIte, tyb, L, hl', e]
 ·have hl' : ((a.length : Int) != b.length) = true := by simp; omega
  have e : a ≠ b := fun h => hl (by rw [h])
  rw [e11]
  simp (maxSteps := 100000000) only [ivc, rgb, anf, vlen, vbuiltin, nilR, eq_self, Nat.reduceEqDiff, Nat.reduceLT, Nat.reduceLeDiff, Nat.reduceAdd, Nat.reduceBEq, reduceCtorEq, ↓reduceIte, tyb, hl', e]
abbrev RS := Bool × List Int × Ins
structure Kept (k : Nat) (s t : RS) : Prop where
 rest : t.2.1 = s.2.1.drop k
 sum : t.2.2.n + t.2.1.length = s.2.2.n + s.2.1.length
 lo : s.2.2.n ≤ t.2.2.n
 hi : t.2.2.n ≤ s.2.2.n + k
 a : t.2.2.a = s.2.2.a
 b : t.2.2.b = s.2.2.b
 c : t.2.2.c = s.2.2.c
 op : t.2.2.op = s.2.2.op
 at_ : t.2.2.at_ = s.2.2.at_
theorem Kept.refl (s : RS) : Kept 0 s s := ⟨by simp, rfl, by omega, by omega, rfl, rfl, rfl, rfl, rfl⟩
theorem Kept.trans {j k : Nat} {s t u : RS} (h : Kept j s t) (g : Kept k t u) : Kept (j + k) s u :=
 ⟨by rw [g.rest, h.rest, List.drop_drop], by rw [g.sum, h.sum], by have := h.lo; have := g.lo; omega, by have := h.hi; have := g.hi; omega, by rw [g.a, h.a], by rw [g.b, h.b], by rw [g.c, h.c], by rw [g.op, h.op], by rw [g.at_, h.at_]⟩
theorem kept_tk (ok ok' : Bool) (rest : List Int) (i j : Ins) (h : j.n = (tkI i rest).n) (ha : j.a = i.a) (hb : j.b = i.b) (hc : j.c = i.c) (ho : j.op = i.op) (ht : j.at_ = i.at_) : Kept 1 (ok, rest, i) (ok', rest.tail, j) := by
 refine ⟨by simp, ?_, ?_, ?_, ha, hb, hc, ho, ht⟩ <;> simp only [h, tkI] <;> cases rest <;> simp <;> omega
theorem idxS_kept : ∀ (k : Nat) (ok : Bool) (rest : List Int) (i : Ins), Kept k (ok, rest, i) (idxS k ok rest i) /\ (idxS k ok rest i).2.2.x.length = i.x.length + k /\ (idxS k ok rest i).2.2.l = i.l /\ (idxS k ok rest i).2.2.ra = i.ra
 | 0, ok, rest, i => ⟨Kept.refl _, rfl, rfl, rfl⟩
 | k + 1, ok, rest, i => by
  obtain ⟨h, hx, hl, hr⟩ := idxS_kept k (ok && !rest.isEmpty) rest.tail { tkI i rest with x := i.x ++ [rest.headD 0] }
  refine ⟨?_, ?_, hl, hr⟩
  ·have := (kept_tk ok (ok && !rest.isEmpty) rest i { tkI i rest with x := i.x ++ [rest.headD 0] } rfl rfl rfl rfl rfl rfl).trans h
   rw [Nat.add_comm 1 k] at this
   exact this
  ·simp only [idxS]; rw [hx]; simp; omega
theorem lstS_kept : ∀ (m c : Nat) (ok : Bool) (rest : List Int) (i : Ins), (c + 3) / 4 = m -> Kept m (ok, rest, i) (lstS m c ok rest i) /\ (lstS m c ok rest i).2.2.l.length = i.l.length + c /\ (lstS m c ok rest i).2.2.x = i.x /\ (lstS m c ok rest i).2.2.ra = i.ra
 | 0, c, ok, rest, i, h => ⟨Kept.refl _, by simp only [lstS]; omega, rfl, rfl⟩
 | m + 1, c, ok, rest, i, h0 => by
  obtain ⟨h, hx, hl, hr⟩ := lstS_kept m (c - 4) (ok && !rest.isEmpty) rest.tail { tkI i rest with l := i.l ++ (unp (rest.headD 0)).take c } (by omega)
  refine ⟨?_, ?_, hl, hr⟩
  ·have := (kept_tk ok (ok && !rest.isEmpty) rest i { tkI i rest with l := i.l ++ (unp (rest.headD 0)).take c } rfl rfl rfl rfl rfl rfl).trans h
   rw [Nat.add_comm 1 m] at this
   exact this
  ·simp only [lstS]; rw [hx]; simp [unp]; omega
def insZ : Ins := ⟨0, 0, 0, 0, 0, [], 0, [], 0⟩
def rdI (n w : Int) : Ins := ⟨n, w % 256, w / 256 % 256, w / 65536 % 256, w / 16777216, [], -1, [], 1⟩
def rd1 (ws : List Int) (n : Int) : RS := idxS (rowW (ws.getD n.toNat 0 % 256)).x.length true (ws.drop (n.toNat + 1)) (rdI n (ws.getD n.toNat 0))
def rd2 (r : OpRow) (s : RS) : RS := if (r.c == 7 && s.2.2.c == 1) = true then (s.1 && !s.2.1.isEmpty, s.2.1.tail, { tkI s.2.2 s.2.1 with ra := s.2.1.headD 0 }) else s
def rd3 (r : OpRow) (s : RS) : RS := if r.li = true then lstS ((s.2.2.b.toNat + 3) / 4) s.2.2.b.toNat s.1 s.2.1 s.2.2 else s
def rdS (ws : List Int) (n : Int) : RS := rd3 (rowW (ws.getD n.toNat 0 % 256)) (rd2 (rowW (ws.getD n.toNat 0 % 256)) (rd1 ws n))
def readM (ws : List Int) (n : Int) : Ins × Int :=
 if n < 0 \/ (ws.length : Int) ≤ n then (insZ, 3)
 else if opIn (ws.getD n.toNat 0 % 256) = true then
  if (rdS ws n).1 = true then
   if (wordsM (rdS ws n).2.2).1 = 0 /\ (wordsM (rdS ws n).2.2).2 = (ws.drop n.toNat).take (rdS ws n).2.2.n.toNat then ((rdS ws n).2.2, 0)
   else (insZ, 260)
  else (insZ, 260)
 else (insZ, 260)
def readV (m : Ins × Int) : AV := .tup [.agg (insA m.1), .int .i64 m.2]
theorem read_bad {ws : List Int} {n : Int} (h : n < 0 \/ (ws.length : Int) ≤ n) : E.F 9 [.ro 1 (ws.map (.int .u32)), .int .i64 n] [] = some ((readV (readM ws n), []), True) := by
 rw [e9]
 unfold readM readV
 rw [if_pos h]
 rcases h with h | h
 ·have q : (n < 0) = True := eq_true h
  simp (maxSteps := 100000000) only [ivc, rgb, anf, vop, vlen, vbuiltin, nilR, salloc, eq_self, Nat.reduceEqDiff, Nat.reduceLT, Nat.reduceLeDiff, Nat.reduceAdd, Nat.reduceBEq, Int.reduceNeg, reduceCtorEq, ↓reduceIte, tyb, q, insA, insZ]
 ·by_cases q : n < 0
  ·simp (maxSteps := 100000000) only [ivc, rgb, anf, vop, vlen, vbuiltin, nilR, salloc, eq_self, Nat.reduceEqDiff, Nat.reduceLT, Nat.reduceLeDiff, Nat.reduceAdd, Nat.reduceBEq, Int.reduceNeg, reduceCtorEq, ↓reduceIte, tyb, q, insA, insZ]
  ·have q' : ((ws.length : Int) ≤ n) = True := eq_true h
   simp (maxSteps := 100000000) only [ivc, rgb, anf, vop, vlen, vbuiltin, nilR, salloc, eq_self, Nat.reduceEqDiff, Nat.reduceLT, Nat.reduceLeDiff, Nat.reduceAdd, Nat.reduceBEq, Int.reduceNeg, reduceCtorEq, ↓reduceIte, tyb, q, q', insA, insZ]
theorem rowW_x (n : Int) : (rowW n).x.length ≤ 2 := by
 unfold rowW
 split
 ·rename_i h
  obtain ⟨h1, h2⟩ := opIn_true h
  have : ∀ k, k < 24 -> (rowsT.getD k opZ).x.length ≤ 2 := by decide
  exact this _ (by omega)
 ·simp [opZ]
theorem read_noop {ws : List Int} {n : Int} (h0 : 0 ≤ n) (h1 : n < ws.length) (hs : ws.length ≤ 100000) (hu : ∀ x ∈ ws, u32r x) (hop : opIn (ws.getD n.toNat 0 % 256) = false) : E.F 9 [.ro 1 (ws.map (.int .u32)), .int .i64 n] [] = some ((readV (readM ws n), []), True) := by
 have hg := getD_map (f := AV.int .u32) (show ws[n.toNat]? = some (ws.getD n.toNat 0) by rw [List.getD_eq_getElem?_getD, List.getElem?_eq_getElem (by omega)]; simp)
 have hw : u32r (ws.getD n.toNat 0) := by
  rw [List.getD_eq_getElem?_getD, List.getElem?_eq_getElem (by omega)]
  exact hu _ (List.getElem_mem (by omega))
 have q : (n < 0) = False := eq_false (by omega)
 have q' : ((ws.length : Int) ≤ n) = False := eq_false (by omega)
 have q2 : (n < (ws.length : Int)) = True := eq_true h1
 have q3 : (0 ≤ n) = True := eq_true h0
 have up := unpack_ev hw.1 hw.2
 have ro := row_ev (n := ws.getD n.toNat 0 % 256)
 unfold readM readV
 rw [if_neg (by omega), hop] 
 rw [hop] at ro
 rw [if_neg (by decide)]
 generalize ws.getD n.toNat 0 = w at *
 simp only [rowA] at ro
 rw [e9]
 simp (maxSteps := 100000000) only [ivc, rgb, anf, vop, vlen, vbuiltin, nilR, salloc, eq_self, Nat.reduceEqDiff, Nat.reduceLT, Nat.reduceLeDiff, Nat.reduceAdd, Nat.reduceBEq, Int.reduceNeg, reduceCtorEq, ↓reduceIte, tyb, q, q', q2, q3, hg, up, ro, insA, insZ]
theorem words_len {i : Ins} (hx : i.x.length ≤ 100) (hl : i.l.length ≤ 1000) : (wordsM i).2.length ≤ 1000 := by
 unfold wordsM
 split
 ·split
  ·split
   ·split
    ·simp only [List.length_cons, List.length_append, List.length_map, chL_len, xsOf]
     split <;> simp <;> omega
    ·simp
   ·simp
  ·simp
 ·simp
theorem rd2_kept (r : OpRow) (s : RS) : ∃ k, k ≤ 1 /\ Kept k s (rd2 r s) /\ (rd2 r s).2.2.x = s.2.2.x /\ (rd2 r s).2.2.l = s.2.2.l := by
 obtain ⟨ok, rest, i⟩ := s
 unfold rd2
 split
 ·exact ⟨1, by omega, kept_tk ok _ rest i _ rfl rfl rfl rfl rfl rfl, rfl, rfl⟩
 ·exact ⟨0, by omega, Kept.refl _, rfl, rfl⟩
theorem rd3_kept (r : OpRow) (s : RS) (hl : s.2.2.l = []) (hb : 0 ≤ s.2.2.b /\ s.2.2.b ≤ 255) : ∃ k, k ≤ 100 /\ Kept k s (rd3 r s) /\ (rd3 r s).2.2.x = s.2.2.x /\ (rd3 r s).2.2.l.length ≤ 255 := by
 obtain ⟨ok, rest, i⟩ := s
 unfold rd3
 simp only at hl hb
 split
 ·obtain ⟨h1, h2, h3, h4⟩ := lstS_kept ((i.b.toNat + 3) / 4) i.b.toNat ok rest i rfl
  refine ⟨_, ?_, h1, h3, ?_⟩
  ·omega
  ·simp only; rw [h2, hl]; simp; omega
 ·exact ⟨0, by omega, Kept.refl _, rfl, by simp [hl]⟩
theorem rd3_ev {ws : List Int} {n : Int} {r : OpRow} {s : RS} (hl : s.2.2.l = []) (hb : 0 ≤ s.2.2.b /\ s.2.2.b ≤ 255) (hr : ∀ x ∈ s.2.1, u32r x) (hrl : s.2.1.length ≤ 100000) (hn : 0 ≤ s.2.2.n /\ s.2.2.n ≤ 5000) (hx : s.2.2.x.length ≤ 5000) :
  ∃ k, E.L 9 18 (rdV ws n [.int .i64 0]) (rdH r s.1 s.2.1 s.2.2) = some ((.exit 2, rdV ws n [.int .i64 k], rdH r (rd3 r s).1 (rd3 r s).2.1 (rd3 r s).2.2), True) := by
 unfold rd3
 cases hli : r.li with
 | false => exact ⟨0, rd_no hli⟩
 | true => exact ⟨_, rd_lst hli ((s.2.2.b.toNat + 3) / 4) s.2.2.b.toNat 0 s.1 s.2.1 s.2.2 rfl (by omega) (by omega) (by omega) (by omega) (by omega) hr hrl hn.1 (by omega) (by rw [hl]; simp; omega) hx⟩
theorem read_all {ws : List Int} {n : Int} (h0 : 0 ≤ n) (h1 : n < ws.length) (hs : ws.length ≤ 90000) (hu : ∀ x ∈ ws, u32r x) (hop : opIn (ws.getD n.toNat 0 % 256) = true) : E.F 9 [.ro 1 (ws.map (.int .u32)), .int .i64 n] [] = some ((readV (readM ws n), []), True) := by
 have hg := getD_map (f := AV.int .u32) (show ws[n.toNat]? = some (ws.getD n.toNat 0) by rw [List.getD_eq_getElem?_getD, List.getElem?_eq_getElem (by omega)]; simp)
 have hw : u32r (ws.getD n.toNat 0) := by
  rw [List.getD_eq_getElem?_getD, List.getElem?_eq_getElem (by omega)]
  exact hu _ (List.getElem_mem (by omega))
 have q : (n < 0) = False := eq_false (by omega)
 have q' : ((ws.length : Int) ≤ n) = False := eq_false (by omega)
 have q2 : (n < (ws.length : Int)) = True := eq_true h1
 have q3 : (0 ≤ n) = True := eq_true h0
 have q4 : (0 ≤ n + 1) = True := eq_true (by omega)
 have q5 : (n + 1 ≤ (ws.length : Int)) = True := eq_true (by omega)
 have hw1 : IntKind.i64.wrap (n + 1) = n + 1 := wrap_id (by omega) (by omega)
 have et : (n + 1).toNat = n.toNat + 1 := by omega
 have up := unpack_ev hw.1 hw.2
 have ro := row_ev (n := ws.getD n.toNat 0 % 256)
 have hrx := rowW_x (ws.getD n.toNat 0 % 256)
 have hr0 : ∀ x ∈ ws.drop (n.toNat + 1), u32r x := fun x hx => hu x (List.mem_of_mem_drop hx)
 have hl0 : (ws.drop (n.toNat + 1)).length = ws.length - (n.toNat + 1) := List.length_drop
 have L1 := rd_idx (ws := ws) (n := n) (r := rowW (ws.getD n.toNat 0 % 256)) (rowW (ws.getD n.toNat 0 % 256)).x.length (by omega) (rowW (ws.getD n.toNat 0 % 256)).x.length 0 true (ws.drop (n.toNat + 1)) (rdI n (ws.getD n.toNat 0)) (by omega) hr0 (by omega) (by simp [rdI]) (by simp [rdI]) (by simp [rdI])
 have K1 := idxS_kept (rowW (ws.getD n.toNat 0 % 256)).x.length true (ws.drop (n.toNat + 1)) (rdI n (ws.getD n.toNat 0))
 unfold readM readV
 rw [if_neg (by omega), hop] 
 rw [hop] at ro
 rw [if_pos rfl]
 unfold rdS
 change E.L 9 12 _ _ = some ((_, _, rdH (rowW (ws.getD n.toNat 0 % 256)) (rd1 ws n).1 (rd1 ws n).2.1 (rd1 ws n).2.2), True) at L1
 change Kept _ _ (rd1 ws n) /\ (rd1 ws n).2.2.x.length = _ /\ (rd1 ws n).2.2.l = _ /\ (rd1 ws n).2.2.ra = _ at K1
 generalize rd1 ws n = s1 at *
 generalize rowW (ws.getD n.toNat 0 % 256) = r at *
 generalize ws.getD n.toNat 0 = w at *
 obtain ⟨K1, x1, l1, a1⟩ := K1
 obtain ⟨k2, hk2, K2, x2, l2⟩ := rd2_kept r s1
 have b1 : s1.2.2.b = w / 65536 % 256 := K1.b
 have b2 : (rd2 r s1).2.2.b = w / 65536 % 256 := by rw [K2.b, b1]
 have hl2 : (rd2 r s1).2.2.l = [] := by rw [l2, l1]; rfl
 obtain ⟨k3, hk3, K3, x3, l3⟩ := rd3_kept r (rd2 r s1) hl2 (by rw [b2]; omega)
 have K12 := K1.trans K2
 have K13 := K12.trans K3
 have lo1 := K1.lo
 have hi1 := K1.hi
 have lo2 := K12.lo
 have hi2 := K12.hi
 have lo3 := K13.lo
 have sm := K13.sum
 have hd0 : (rdI n w).n = 1 := rfl
 simp only [hd0, hl0] at lo1 hi1 lo2 hi2 lo3 sm
 have hr1 : ∀ x ∈ s1.2.1, u32r x := by rw [K1.rest]; exact fun x hx => hr0 x (List.mem_of_mem_drop hx)
 have hr2 : ∀ x ∈ (rd2 r s1).2.1, u32r x := by rw [K12.rest]; exact fun x hx => hr0 x (List.mem_of_mem_drop hx)
 have hln1 : s1.2.1.length ≤ 90000 := by rw [K1.rest]; simp; omega
 have hln2 : (rd2 r s1).2.1.length ≤ 90000 := by rw [K12.rest]; simp; omega
 have x0 : (rdI n w).x.length = 0 := rfl
 obtain ⟨k4, L2⟩ := rd3_ev (ws := ws) (n := n) (r := r) (s := rd2 r s1) hl2 (by rw [b2]; omega) hr2 (by omega) (by omega) (by rw [x2]; omega)
 have W := words_ev (i := (rd3 r (rd2 r s1)).2.2) (by rw [x3, x2]; omega) (by omega)
 have Wl := words_len (i := (rd3 r (rd2 r s1)).2.2) (by rw [x3, x2]; omega) (by omega)
 have tk := take_ev (ok := s1.1) (rest := s1.2.1) (i := s1.2.2) (by omega) (by omega)
 have hu2 := u32r_head hr1
 have hw2 : IntKind.i64.wrap (s1.2.1.headD 0) = s1.2.1.headD 0 := wrap_id (by have := hu2.1; omega) (by have := hu2.2; omega)
 have z3 : 1 ≤ (rd3 r (rd2 r s1)).2.2.n /\ n + (rd3 r (rd2 r s1)).2.2.n ≤ ws.length := by
  refine ⟨lo3, ?_⟩
  omega
 clear K1 K2 K3 K12 K13 sm lo1 hi1 lo2 hi2 lo3 hr1 hr2 hr0 hu
 have e0 : List.take (ws.length - (n.toNat + 1)) (List.drop (n.toNat + 1) (List.map (AV.int .u32) ws)) = List.map (AV.int .u32) (ws.drop (n.toNat + 1)) := by
  rw [List.take_of_length_le (by simp), List.map_drop]
 cases hcc : (r.c == 7 && s1.2.2.c == 1) with
 | false =>
  have r2 : rd2 r s1 = s1 := by unfold rd2; rw [hcc]; rfl
  rw [r2] at L2 W Wl z3 ⊢
  generalize rd3 r s1 = s3 at *
  obtain ⟨ok1, rest1, i1⟩ := s1
  obtain ⟨ok3, rest3, i3⟩ := s3
  simp only [rowA] at ro
  simp only [rdV, rdH, insL, iR, rowA, rdI, Int.natCast_zero, List.length_nil, List.map_nil, List.cons_append, List.nil_append] at L1 L2 hcc
  rw [e9]
  cases ok3 with
  | false =>
   simp (maxSteps := 100000000) only [ivc, rgb, anf, vop, vslice, vlen, vbuiltin, nilR, salloc, eq_self, Nat.reduceEqDiff, Nat.reduceLT, Nat.reduceLeDiff, Nat.reduceAdd, Nat.reduceBEq, Int.reduceNeg, reduceCtorEq, implies_true, ↓reduceIte, tyb, q, q', q2, q3, q4, q5, hw1, et, hg, up, ro, e0, L1, hcc, L2, insZ, insA]
   exact some_true (by omega)
  | true =>
   generalize wordsM i3 = m at W Wl ⊢
   obtain ⟨e, wl⟩ := m
   simp only [wordsV, insA] at W
   simp only at Wl z3
   by_cases he : e = 0
   ·subst he
    have hwn : IntKind.i64.wrap (n + i3.n) = n + i3.n := wrap_id (by omega) (by omega)
    have z4 : n ≤ n + i3.n := by omega
    have e6 : List.take ((n + i3.n).toNat - n.toNat) (List.drop n.toNat (List.map (AV.int .u32) ws)) = List.map (AV.int .u32) ((ws.drop n.toNat).take i3.n.toNat) := by
     rw [List.map_take, List.map_drop, show (n + i3.n).toNat - n.toNat = i3.n.toNat by omega]
    have EQ := eq32_ev (a := wl) (b := (ws.drop n.toNat).take i3.n.toNat) (by omega)
    by_cases hq : wl = (ws.drop n.toNat).take i3.n.toNat
    ·rw [decide_eq_true hq] at EQ
     have hq' := eq_true hq
     simp (maxSteps := 100000000) only [ivc, rgb, anf, vop, vslice, vlen, vbuiltin, nilR, salloc, eq_self, Nat.reduceEqDiff, Nat.reduceLT, Nat.reduceLeDiff, Nat.reduceAdd, Nat.reduceMul, Nat.reduceBEq, Int.reduceNeg, reduceCtorEq, implies_true, ↓reduceIte, tyb, q, q', q2, q3, q4, q5, hw1, et, hg, up, ro, e0, L1, hcc, L2, insA, W, hwn, z4, z3, e6, EQ, hq']
     exact some_true (by omega)
    ·rw [decide_eq_false hq] at EQ
     simp (maxSteps := 100000000) only [ivc, rgb, anf, vop, vslice, vlen, vbuiltin, nilR, salloc, eq_self, Nat.reduceEqDiff, Nat.reduceLT, Nat.reduceLeDiff, Nat.reduceAdd, Nat.reduceMul, Nat.reduceBEq, Int.reduceNeg, reduceCtorEq, implies_true, ↓reduceIte, tyb, q, q', q2, q3, q4, q5, hw1, et, hg, up, ro, e0, L1, hcc, L2, insZ, insA, W, hwn, z4, z3, e6, EQ, hq, and_false]
     exact some_true (by omega)
   ·have he' : (e != 0) = true := by simp [he]
    simp (maxSteps := 100000000) only [ivc, rgb, anf, vop, vslice, vlen, vbuiltin, nilR, salloc, eq_self, Nat.reduceEqDiff, Nat.reduceLT, Nat.reduceLeDiff, Nat.reduceAdd, Nat.reduceBEq, Int.reduceNeg, reduceCtorEq, implies_true, ↓reduceIte, tyb, q, q', q2, q3, q4, q5, hw1, et, hg, up, ro, e0, L1, hcc, L2, insZ, insA, W, he, he']
    exact some_true (by omega)
 | true =>
  have r2 : rd2 r s1 = (s1.1 && !s1.2.1.isEmpty, s1.2.1.tail, { tkI s1.2.2 s1.2.1 with ra := s1.2.1.headD 0 }) := by unfold rd2; rw [hcc]; rfl
  rw [r2] at L2 W Wl z3 ⊢
  generalize rd3 r (s1.1 && !s1.2.1.isEmpty, s1.2.1.tail, { tkI s1.2.2 s1.2.1 with ra := s1.2.1.headD 0 }) = s3 at *
  obtain ⟨ok1, rest1, i1⟩ := s1
  obtain ⟨ok3, rest3, i3⟩ := s3
  simp only [rowA] at ro
  simp only [rdV, rdH, insL, iR, rowA, rdI, Int.natCast_zero, List.length_nil, List.map_nil, List.cons_append, List.nil_append] at L1 L2 hcc
  simp only [tkH, insL, iR, Nat.reduceAdd] at tk
  rw [e9]
  cases ok3 with
  | false =>
   simp (maxSteps := 100000000) only [ivc, rgb, anf, vop, vslice, vlen, vbuiltin, nilR, salloc, eq_self, Nat.reduceEqDiff, Nat.reduceLT, Nat.reduceLeDiff, Nat.reduceAdd, Nat.reduceMul, Nat.reduceBEq, Int.reduceNeg, reduceCtorEq, implies_true, ↓reduceIte, tyb, q, q', q2, q3, q4, q5, hw1, et, hg, up, ro, e0, L1, hcc, L2, tk, hw2, insZ, insA]
   exact some_true (by omega)
  | true =>
   generalize wordsM i3 = m at W Wl ⊢
   obtain ⟨e, wl⟩ := m
   simp only [wordsV, insA] at W
   simp only at Wl z3
   by_cases he : e = 0
   ·subst he
    have hwn : IntKind.i64.wrap (n + i3.n) = n + i3.n := wrap_id (by omega) (by omega)
    have z4 : n ≤ n + i3.n := by omega
    have e6 : List.take ((n + i3.n).toNat - n.toNat) (List.drop n.toNat (List.map (AV.int .u32) ws)) = List.map (AV.int .u32) ((ws.drop n.toNat).take i3.n.toNat) := by
     rw [List.map_take, List.map_drop, show (n + i3.n).toNat - n.toNat = i3.n.toNat by omega]
    have EQ := eq32_ev (a := wl) (b := (ws.drop n.toNat).take i3.n.toNat) (by omega)
    by_cases hq : wl = (ws.drop n.toNat).take i3.n.toNat
    ·rw [decide_eq_true hq] at EQ
     have hq' := eq_true hq
     simp (maxSteps := 100000000) only [ivc, rgb, anf, vop, vslice, vlen, vbuiltin, nilR, salloc, eq_self, Nat.reduceEqDiff, Nat.reduceLT, Nat.reduceLeDiff, Nat.reduceAdd, Nat.reduceMul, Nat.reduceBEq, Int.reduceNeg, reduceCtorEq, implies_true, ↓reduceIte, tyb, q, q', q2, q3, q4, q5, hw1, et, hg, up, ro, e0, L1, hcc, L2, tk, hw2, insA, W, hwn, z4, z3, e6, EQ, hq']
     exact some_true (by omega)
    ·rw [decide_eq_false hq] at EQ
     simp (maxSteps := 100000000) only [ivc, rgb, anf, vop, vslice, vlen, vbuiltin, nilR, salloc, eq_self, Nat.reduceEqDiff, Nat.reduceLT, Nat.reduceLeDiff, Nat.reduceAdd, Nat.reduceMul, Nat.reduceBEq, Int.reduceNeg, reduceCtorEq, implies_true, ↓reduceIte, tyb, q, q', q2, q3, q4, q5, hw1, et, hg, up, ro, e0, L1, hcc, L2, tk, hw2, insZ, insA, W, hwn, z4, z3, e6, EQ, hq, and_false]
     exact some_true (by omega)
   ·have he' : (e != 0) = true := by simp [he]
    simp (maxSteps := 100000000) only [ivc, rgb, anf, vop, vslice, vlen, vbuiltin, nilR, salloc, eq_self, Nat.reduceEqDiff, Nat.reduceLT, Nat.reduceLeDiff, Nat.reduceAdd, Nat.reduceMul, Nat.reduceBEq, Int.reduceNeg, reduceCtorEq, implies_true, ↓reduceIte, tyb, q, q', q2, q3, q4, q5, hw1, et, hg, up, ro, e0, L1, hcc, L2, tk, hw2, insZ, insA, W, he, he']
    exact some_true (by omega)
theorem read_ev {ws : List Int} {n : Int} (hs : ws.length ≤ 90000) (hu : ∀ x ∈ ws, u32r x) : E.F 9 [.ro 1 (ws.map (.int .u32)), .int .i64 n] [] = some ((readV (readM ws n), []), True) := by
 by_cases h : n < 0 \/ (ws.length : Int) ≤ n
 ·exact read_bad h
 ·cases hop : opIn (ws.getD n.toNat 0 % 256) with
  | false => exact read_noop (by omega) (by omega) (by omega) hu hop
  | true => exact read_all (by omega) (by omega) hs hu hop
def rdB : List Int -> Int -> Int -> Ins -> Option Ins
 | [], _, _, i => some i
 | b :: bs, p, l, i => if p < l then rdB bs (p + 1) l { i with l := i.l ++ [b] } else if (b != 0) = true then none else rdB bs (p + 1) l i
def rrl (w : Int) : Int := if ((shW (w % 256)).b == 5) = true then w / 65536 % 256 else 0
def rrf (w : Int) : Bool := (shW (w % 256)).c == 7 && (w / 16777216 == 1)
def rrm (w : Int) : Nat := ((rrl w).toNat + 3) / 4
def rrX (w : Int) : Nat := (shW (w % 256)).x.length
def rrN (w : Int) : Nat := rrX w + rrm w + (if rrf w = true then 1 else 0)
def rdJ (n w : Int) : Ins := ⟨n, w % 256, w / 256 % 256, w / 65536 % 256, w / 16777216, [], -1, [], 0⟩
def rr1 (ws : List Int) (n w : Int) : Ins := { rdJ n w with x := (ws.drop (n.toNat + 1)).take (rrX w) }
def rr2 (ws : List Int) (n w : Int) : Ins := if rrf w = true then { rr1 ws n w with ra := ws.getD (n.toNat + 1 + rrX w) 0 } else rr1 ws n w
def rrP (n w : Int) : Nat := n.toNat + 1 + rrX w + (if rrf w = true then 1 else 0)
def rr4 (w : Int) (i : Ins) : Ins := { i with n := 1 + rrN w }
theorem eq64_loop {a b : List Int} (hl : a.length = b.length) (hs : a.length ≤ 1000000) : ∀ (r r' m m' : List Int), a = m ++ r -> b = m' ++ r' -> m.length = m'.length ->
  ∃ k, E.L 24 5 [.ro 1 (a.map (.int .i64)), .ro 1 (b.map (.int .i64)), .bool false, .int .i64 a.length, .int .i64 m.length] [] = some ((if r = r' then .exit 0 else .ret, [.ro 1 (a.map (.int .i64)), .ro 1 (b.map (.int .i64)), .bool false, .int .i64 a.length, .int .i64 k], []), True) := by
 intro r
 induction r with
 | nil =>
  intro r' m m' h h' hm
  have q : ((m.length : Int) < a.length) = False := eq_false (by rw [h]; simp)
  have : r' = [] := by
   have := congrArg List.length h'; rw [h] at hl; simp at hl this; exact List.eq_nil_of_length_eq_zero (by omega)
  subst this
  refine ⟨m.length, ?_⟩
  rw [l24_5]
  simp (maxSteps := 100000000) only [ivc, rgb, anf, nilR, eq_self, Nat.reduceEqDiff, Nat.reduceLT, Nat.reduceAdd, Nat.reduceBEq, reduceCtorEq, ↓reduceIte, tyb, q]
 | cons y r ih => 
  intro r' m m' h h' hm
  have hp : 0 < r'.length := by
   have := congrArg List.length h'; rw [h] at hl; simp at hl this; omega
  obtain ⟨z, r', rfl⟩ := List.exists_cons_of_length_pos hp
  have hi' : ((m.length : Int) < a.length) = True := eq_true (by rw [h]; simp; omega)
  have hib : ((m.length : Int) < b.length) = True := eq_true (by rw [<- hl]; exact of_eq_true hi')
  have hw1 : IntKind.i64.wrap ((m.length : Int) + 1) = m.length + 1 := wrap_id (by omega) (by rw [h] at hs; simp at hs; omega)
  have hg := getD_map (f := AV.int .i64) (show a[m.length]? = some y by rw [h]; simp)
  have hg' := getD_map (f := AV.int .i64) (show b[m.length]? = some z by rw [h', hm]; simp)
  by_cases e : y = z
  ·subst e
   obtain ⟨k, ih⟩ := ih r' (m ++ [y]) (m' ++ [y]) (by rw [h]; simp) (by rw [h']; simp) (by simp [hm])
   refine ⟨k, ?_⟩
   simp only [List.length_append, List.length_cons, List.length_nil, Int.natCast_add, Int.cast_ofNat_Int, Nat.zero_add] at ih
   rw [l24_5]
   simp (maxSteps := 100000000) only [ivc, rgb, anf, nilR, eq_self, Nat.reduceEqDiff, Nat.reduceLT, Nat.reduceAdd, Nat.reduceBEq, reduceCtorEq, ↓reduceIte, tyb, hi', hib, hw1, hg, hg', ih]
   simp
  ·refine ⟨m.length, ?_⟩
   have hb : (y != z) = true := by simp [e]
   rw [l24_5]
   simp (maxSteps := 100000000) only [ivc, rgb, anf, nilR, eq_self, Nat.reduceEqDiff, Nat.reduceLT, Nat.reduceAdd, Nat.reduceBEq, reduceCtorEq, ↓reduceIte, tyb, hi', hib, hg, hg', hb]
   simp [e]
theorem eq64_ev {a b : List Int} (hs : a.length ≤ 1000000) : E.F 24 [.ro 1 (a.map (.int .i64)), .ro 1 (b.map (.int .i64))] [] = some ((.bool (decide (a = b)), []), True) := by
 by_cases hl : a.length = b.length
 ·obtain ⟨k, L⟩ := eq64_loop hl hs a b [] [] rfl rfl rfl
  have hl' : ((a.length : Int) != b.length) = false := by simp [hl]
  simp only [List.length_nil, Int.natCast_zero] at L
  rw [e24]
  by_cases e : a = b
  ·simp only [e, if_true] at L
   simp (maxSteps := 100000000) only [ivc, rgb, anf, vlen, vbuiltin, nilR, eq_self, Nat.reduceEqDiff, Nat.reduceLT, Nat.reduceLeDiff, Nat.reduceAdd, Nat.reduceBEq, reduceCtorEq, ↓reduceIte, tyb, L, e]
  ·simp only [e, if_false] at L
   simp (maxSteps := 100000000) only [ivc, rgb, anf, vlen, vbuiltin, nilR, eq_self, Nat.reduceEqDiff, Nat.reduceLT, Nat.reduceLeDiff, Nat.reduceAdd, Nat.reduceBEq, reduceCtorEq, ↓reduceIte, tyb, L, hl', e]
 ·have hl' : ((a.length : Int) != b.length) = true := by simp; omega
  have e : a ≠ b := fun h => hl (by rw [h])
  rw [e24]
  simp (maxSteps := 100000000) only [ivc, rgb, anf, vlen, vbuiltin, nilR, eq_self, Nat.reduceEqDiff, Nat.reduceLT, Nat.reduceLeDiff, Nat.reduceAdd, Nat.reduceBEq, reduceCtorEq, ↓reduceIte, tyb, hl', e]
def sameW (i j : Ins) : Bool := (i.op == j.op) && (i.a == j.a) && (i.b == j.b) && (i.c == j.c) && (i.ra == j.ra) && decide (i.x = j.x) && decide (i.l = j.l)
theorem same_ev {i j : Ins} (hx : i.x.length ≤ 1000000) (hl : i.l.length ≤ 1000000) : E.F 10 [.agg (insA i), .agg (insA j)] [] = some ((.bool (sameW i j), []), True) := by
 have ex := eq64_ev (a := i.x) (b := j.x) hx
 have el := eq64_ev (a := i.l) (b := j.l) hl
 unfold sameW
 simp only [insA]
 cases h5 : ((((i.op == j.op) && (i.a == j.a)) && (i.b == j.b)) && (i.c == j.c)) && (i.ra == j.ra) with
 | false =>
  rw [e10]
  simp (maxSteps := 100000000) only [ivc, rgb, anf, vop, nilR, salloc, eq_self, Nat.reduceEqDiff, Nat.reduceLT, Nat.reduceLeDiff, Nat.reduceAdd, Nat.reduceBEq, reduceCtorEq, ↓reduceIte, tyb, h5]
 | true =>
  cases h6 : decide (i.x = j.x) with
  | false =>
   rw [h6] at ex
   rw [e10]
   simp (maxSteps := 100000000) only [ivc, rgb, anf, vop, nilR, salloc, eq_self, Nat.reduceEqDiff, Nat.reduceLT, Nat.reduceLeDiff, Nat.reduceAdd, Nat.reduceBEq, reduceCtorEq, ↓reduceIte, tyb, h5, ex]
  | true =>
   rw [h6] at ex
   rw [e10]
   simp (maxSteps := 100000000) only [ivc, rgb, anf, vop, nilR, salloc, eq_self, Nat.reduceEqDiff, Nat.reduceLT, Nat.reduceLeDiff, Nat.reduceAdd, Nat.reduceBEq, reduceCtorEq, ↓reduceIte, tyb, h5, ex, el]
theorem readM_n {ws : List Int} {n : Int} (h : (readM ws n).2 = 0) : 1 ≤ (readM ws n).1.n /\ n + (readM ws n).1.n ≤ ws.length /\ 0 ≤ n /\ n < ws.length /\ (readM ws n).1.x.length ≤ 100 /\ (readM ws n).1.l.length ≤ 255 := by
 unfold readM at h ⊢
 split at h
 ·cases h
 ·rename_i h0
  rw [if_neg h0]
  split at h
  ·rename_i h1
   rw [if_pos h1]
   split at h
   ·rename_i h2
    rw [if_pos h2]
    split at h
    ·rename_i h3
     rw [if_pos h3]
     simp only
     unfold rdS
     have hrx := rowW_x (ws.getD n.toNat 0 % 256)
     have K1 := idxS_kept (rowW (ws.getD n.toNat 0 % 256)).x.length true (ws.drop (n.toNat + 1)) (rdI n (ws.getD n.toNat 0))
     change Kept _ _ (rd1 ws n) /\ (rd1 ws n).2.2.x.length = _ /\ (rd1 ws n).2.2.l = _ /\ (rd1 ws n).2.2.ra = _ at K1
     generalize rd1 ws n = s1 at *
     generalize rowW (ws.getD n.toNat 0 % 256) = r at *
     generalize ws.getD n.toNat 0 = w at *
     obtain ⟨K1, x1, l1, a1⟩ := K1
     obtain ⟨k2, hk2, K2, x2, l2⟩ := rd2_kept r s1
     have b1 : s1.2.2.b = w / 65536 % 256 := K1.b
     have b2 : (rd2 r s1).2.2.b = w / 65536 % 256 := by rw [K2.b, b1]
     have hl2 : (rd2 r s1).2.2.l = [] := by rw [l2, l1]; rfl
     obtain ⟨k3, hk3, K3, x3, l3⟩ := rd3_kept r (rd2 r s1) hl2 (by rw [b2]; omega)
     have K13 := (K1.trans K2).trans K3
     have lo3 := K13.lo
     have sm := K13.sum
     have hd0 : (rdI n w).n = 1 := rfl
     have hl0 : (ws.drop (n.toNat + 1)).length = ws.length - (n.toNat + 1) := List.length_drop
     have hx0 : (rdI n w).x.length = 0 := rfl
     simp only [hd0, hl0] at lo3 sm
     refine ⟨lo3, by omega, by omega, by omega, ?_, l3⟩
     rw [x3, x2]; omega
    ·cases h
   ·cases h
  ·cases h
def allM (rd : Int -> Ins × Int) (len : Nat) : Nat -> Int -> List Ins -> List Ins × Int × Int
 | 0, _, acc => (acc, 0, 0)
 | f + 1, p, acc => if p < len then if (rd p).2 = 0 then allM rd len f (p + (rd p).1.n) (acc ++ [(rd p).1]) else ([], p, (rd p).2) else (acc, 0, 0)
def insV (i : Ins) : AV := .agg (insA i)
instance rf_ins : RowF insV := ⟨fun i => by simp [insV, insA, AV.pure, AV.pure.pures], fun i => by rfl⟩
def alV (ws : List Int) (l : List Ins) (a b p : Int) : List AV := [.ro 1 (ws.map (.int .u32)), .sl 60000 0 0, .int .i64 a, .int .i64 b, .sl 60001 0 l.length, .int .i64 p]
def alH (l : List Ins) : HL := [(60000, ⟨false, 9, []⟩), (60001, ⟨false, 9, l.map insV⟩)]
def alR (ws : List Int) (m : List Ins × Int × Int) (x : Option ((Exit × List AV × HL) × Prop)) : Prop :=
 if m.2.2 = 0 then ∃ p, x = some ((.exit 0, alV ws m.1 0 0 p, alH m.1), True) else ∃ p l, x = some ((.ret, alV ws l m.2.1 m.2.2 p, alH l), True)
theorem all_loop {ws : List Int} (hs : ws.length ≤ 90000) (hu : ∀ x ∈ ws, u32r x) : ∀ (f : Nat) (p : Nat) (l : List Ins), ws.length ≤ p + f -> l.length ≤ p -> p ≤ ws.length ->
  alR ws (allM (readM ws) ws.length f p l) (E.L 12 4 (alV ws l 0 0 p) (alH l)) := by
 intro f
 induction f with
 | zero =>
  intro p l h hl hp
  refine ⟨p, ?_⟩
  have q : ((p : Int) < ws.length) = False := eq_false (by omega)
  simp only [allM, alV, alH]
  rw [l12_4]
  simp (maxSteps := 100000000) only [ivc, rgb, anf, vlen, vbuiltin, nilR, eq_self, Nat.reduceEqDiff, Nat.reduceLT, Nat.reduceLeDiff, Nat.reduceAdd, Nat.reduceBEq, reduceCtorEq, ↓reduceIte, tyb, q]
 | succ f ih =>
  intro p l h hl hp
  unfold allM
  by_cases hlt : (p : Int) < ws.length
  ·have hlt' := eq_true hlt
   have R := read_ev (ws := ws) (n := p) hs hu
   have N := readM_n (ws := ws) (n := p)
   simp only [readV] at R
   rw [if_pos hlt]
   generalize readM ws (p : Int) = r at *
   obtain ⟨i, e⟩ := r
   simp only at R N ⊢
   by_cases he : e = 0
   ·subst he
    rw [if_pos rfl]
    obtain ⟨n1, n2, n3, n4, n5, n6⟩ := N rfl
    have hw1 : IntKind.i64.wrap ((p : Int) + i.n) = p + i.n := wrap_id (by omega) (by omega)
    have ih' := ih (p + i.n.toNat) (l ++ [i]) (by omega) (by simp; omega) (by omega)
    have ec : ((p + i.n.toNat : Nat) : Int) = p + i.n := by omega
    rw [ec] at ih'
    have hV : insV i = .agg (insA i) := rfl
    simp only [insA] at R hV
    have e0 : ((0 : Int) != 0) = false := rfl
    generalize allM (readM ws) ws.length f (p + i.n) (l ++ [i]) = m at ih' ⊢
    obtain ⟨ml, mp, me⟩ := m
    unfold alR at ih' ⊢
    by_cases hm : me = 0
    ·rw [if_pos hm] at ih' ⊢
     obtain ⟨p2, ih'⟩ := ih'
     refine ⟨p2, ?_⟩
     simp only [alV, alH, hV, List.map_append, List.map_cons, List.map_nil, List.length_append, List.length_cons, List.length_nil, Nat.zero_add] at ih' ⊢
     rw [l12_4]
     simp (maxSteps := 100000000) only [ivc, rgb, anf, vop, vlen, vbuiltin, nilR, salloc, sappend, eq_self, Nat.reduceEqDiff, Nat.reduceLT, Nat.reduceLeDiff, Nat.reduceAdd, Nat.reduceMul, Nat.reduceBEq, reduceCtorEq, ↓reduceIte, tyb, hlt', R, hw1, ih']
     exact some_true (by omega)
    ·rw [if_neg hm] at ih' ⊢
     obtain ⟨p2, l2, ih'⟩ := ih'
     refine ⟨p2, l2, ?_⟩
     simp only [alV, alH, hV, List.map_append, List.map_cons, List.map_nil, List.length_append, List.length_cons, List.length_nil, Nat.zero_add] at ih' ⊢
     rw [l12_4]
     simp (maxSteps := 100000000) only [ivc, rgb, anf, vop, vlen, vbuiltin, nilR, salloc, sappend, eq_self, Nat.reduceEqDiff, Nat.reduceLT, Nat.reduceLeDiff, Nat.reduceAdd, Nat.reduceMul, Nat.reduceBEq, reduceCtorEq, ↓reduceIte, tyb, hlt', R, hw1, ih']
     exact some_true (by omega)
   ·have he' : (e != 0) = true := by simp [he]
    rw [if_neg he]
    unfold alR
    rw [if_neg he]
    refine ⟨p, l, ?_⟩
    clear ih N
    simp only [alV, alH, insA] at R ⊢
    rw [l12_4]
    simp (maxSteps := 100000000) only [ivc, rgb, anf, vop, vlen, vbuiltin, nilR, salloc, eq_self, Nat.reduceEqDiff, Nat.reduceLT, Nat.reduceLeDiff, Nat.reduceAdd, Nat.reduceBEq, reduceCtorEq, ↓reduceIte, tyb, hlt', R, he']
  ·rw [if_neg hlt]
   have q := eq_false hlt
   refine ⟨p, ?_⟩
   simp only [alV, alH]
   rw [l12_4]
   simp (maxSteps := 100000000) only [ivc, rgb, anf, vlen, vbuiltin, nilR, eq_self, Nat.reduceEqDiff, Nat.reduceLT, Nat.reduceLeDiff, Nat.reduceAdd, Nat.reduceBEq, reduceCtorEq, ↓reduceIte, tyb, q]
theorem allM_err (rd : Int -> Ins × Int) (len : Nat) : ∀ (f : Nat) (p : Int) (l : List Ins), ((allM rd len f p l).2.2 = 0 -> (allM rd len f p l).2.1 = 0) /\ ((allM rd len f p l).2.2 ≠ 0 -> (allM rd len f p l).1 = [])
 | 0, p, l => ⟨fun _ => rfl, fun h => absurd rfl h⟩
 | f + 1, p, l => by
  unfold allM
  split
  ·split
   ·exact allM_err rd len f _ _
   ·rename_i h
    exact ⟨fun h' => absurd h' h, fun _ => rfl⟩
  ·exact ⟨fun _ => rfl, fun h => absurd rfl h⟩
theorem all_ev {ws : List Int} (hs : ws.length ≤ 90000) (hu : ∀ x ∈ ws, u32r x) : E.F 12 [.ro 1 (ws.map (.int .u32))] [] = some ((.tup [.ro 9 ((allM (readM ws) ws.length ws.length 0 []).1.map insV), .int .i64 (allM (readM ws) ws.length ws.length 0 []).2.1, .int .i64 (allM (readM ws) ws.length ws.length 0 []).2.2], []), True) := by
 have L := all_loop hs hu ws.length 0 [] (by omega) (by simp) (by omega)
 simp only [Int.natCast_zero] at L
 have E := allM_err (readM ws) ws.length ws.length 0 []
 generalize allM (readM ws) ws.length ws.length 0 [] = m at L E ⊢
 obtain ⟨ml, mp, me⟩ := m
 simp only at E
 unfold alR at L
 by_cases hm : me = 0
 ·rw [if_pos hm] at L
  obtain ⟨p, L⟩ := L
  obtain rfl := hm
  obtain rfl := E.1 rfl
  simp only [alV, alH, List.length_nil, List.map_nil] at L
  rw [e12]
  simp (maxSteps := 100000000) only [ivc, rgb, anf, eq_self, Nat.reduceEqDiff, Nat.reduceLT, Nat.reduceLeDiff, Nat.reduceAdd, Nat.reduceBEq, reduceCtorEq, ↓reduceIte, L]
 ·rw [if_neg hm] at L
  obtain ⟨p, l2, L⟩ := L
  obtain rfl := E.2 hm
  simp only [alV, alH, List.length_nil, List.map_nil] at L
  rw [e12]
  simp (maxSteps := 100000000) only [ivc, rgb, anf, eq_self, Nat.reduceEqDiff, Nat.reduceLT, Nat.reduceLeDiff, Nat.reduceAdd, Nat.reduceBEq, reduceCtorEq, ↓reduceIte, L]
end Go.Proofs.YtfdipcpmfoidoaaDoor

/- What all rows of this seat share: the table, types of what comes in. -/
namespace Go.Proofs.YtfdipcpmfoidoaaDoor
open Go Go.Aw
set_option maxRecDepth 100000
theorem own : ownKnob Tryd.prog.godebug = none := by kernel_rfl
theorem laidOut : laidOutB Tryd.prog = true := by kernel_rfl
def laidL : List (String × DataW Unit) := [("hackamore/code.table", Rows.laid_hackamore_code_table)]
theorem gT : Tryd.prog.globalNamed "hackamore/code.table" = some 0 := by kernel_rfl
theorem tab_dat : datA (H := Unit) Tryd.prog 10 124 Rows.laid_hackamore_code_table = some tabA := by kernel_rfl
theorem tab_laid {W : World} (h : laidMetH Tryd.prog laidL W) : ∀ g, RV ⟨noμ, oldB W⟩ noH W (G g) (.pointer (some ⟨g, 0, none⟩)) := by
 have h' : laidMet Tryd.prog (("hackamore/code.table", Rows.laid_hackamore_code_table) :: []) W := by
  rw [MakeChecks.laidMetH_plain _ _ _ (by kernel_rfl)] at h
  exact h
 intro g
 by_cases hg : g = 0
 ·subst hg
  exact rop_laid (l := [124, 85, 83, 82, 80, 81, 3, 4]) (by kernel_rfl) (t := 124) gT (by kernel_rfl) (by kernel_rfl) tab_dat (by decide) h'
 ·rw [show G g = .junk from if_neg hg]
  exact .junk _
theorem door_met (os : Os) (args : Array Value) : laidMetH Tryd.prog laidL ((World.doorLaid Tryd.prog 400 os).forCall (fun _ _ => 0) ⟨#[], args, []⟩).memory :=
 laidMetH_of_parts3 (fuel := 8) (laidMet_of_run' 8 (by kernel_rfl) (by kernel_rfl)) (by kernel_rfl) (by kernel_rfl)
def i64r (x : Int) : Prop := -9223372036854775808 ≤ x /\ x ≤ 9223372036854775807
theorem wf64 {x : Int} (h : (Lit.int .i64 x).wf = true) : i64r x := by
 simp only [Lit.wf, Bool.and_eq_true, decide_eq_true_eq] at h
 exact h
theorem ints_of {n : Nat} {xs : List AV} (h : typed Tryd.prog n 25 xs) : ∃ l : List Int, (∀ x ∈ l, i64r x) /\ xs = [.ro 1 (l.map (AV.int .i64))] := by
 obtain ⟨m, es, hl, hb, he, rfl⟩ := typed_slice Tryd.underlying25 h
 obtain ⟨l, h1, rfl⟩ := list_map_of (f := AV.int .i64) (Q := fun x => i64r x) (es := es) fun y hy => by
  obtain ⟨k, hk, e⟩ := typed_int Tryd.underlying3 (he y hy).1
  have h2 := (he y hy).2
  simp only [isE, Tryd.underlying3] at h2
  rw [h2] at e
  exact ⟨k, wf64 hk, by simpa using e⟩
 exact ⟨l, h1, rfl⟩
theorem int_of {n : Nat} {xs : List AV} (h : typed Tryd.prog n 3 xs) : ∃ x, i64r x /\ xs = [.int .i64 x] := by
 obtain ⟨k, hk, e⟩ := typed_int Tryd.underlying3 h
 exact ⟨k, wf64 hk, e⟩
def inpI (i : Ins) : Prop := i64r i.at_ /\ i64r i.op /\ i64r i.a /\ i64r i.b /\ i64r i.c /\ (∀ x ∈ i.x, i64r x) /\ i64r i.ra /\ (∀ x ∈ i.l, i64r x) /\ i64r i.n
theorem ins_of {n : Nat} {xs : List AV} (h : typed Tryd.prog n 27 xs) : ∃ i : Ins, inpI i /\ xs = insA i := by
 obtain ⟨m, y0, r0, rfl, h0, y1, r1, rfl, h1, y2, r2, rfl, h2, y3, r3, rfl, h3, y4, r4, rfl, h4, y5, r5, rfl, h5, y6, r6, rfl, h6, y7, r7, rfl, h7, y8, r8, rfl, h8, rfl⟩ := typed_struct Tryd.underlying27 h rfl
 obtain ⟨a0, w0, rfl⟩ := int_of h0
 obtain ⟨a1, w1, rfl⟩ := int_of h1
 obtain ⟨a2, w2, rfl⟩ := int_of h2
 obtain ⟨a3, w3, rfl⟩ := int_of h3
 obtain ⟨a4, w4, rfl⟩ := int_of h4
 obtain ⟨a5, w5, rfl⟩ := ints_of h5
 obtain ⟨a6, w6, rfl⟩ := int_of h6
 obtain ⟨a7, w7, rfl⟩ := ints_of h7
 obtain ⟨a8, w8, rfl⟩ := int_of h8
 exact ⟨⟨a0, a1, a2, a3, a4, a5, a6, a7, a8⟩, ⟨w0, w1, w2, w3, w4, w5, w6, w7, w8⟩, rfl⟩
theorem inss_of {n : Nat} {xs : List AV} (h : typed Tryd.prog n 22 xs) : ∃ l : List Ins, (∀ i ∈ l, inpI i) /\ xs = [.ro 9 (l.map insV)] := by
 obtain ⟨m, es, hl, hb, hh, rfl⟩ := typed_slice Tryd.underlying22 h
 obtain ⟨l, h1, rfl⟩ := list_map_of (f := insV) (Q := inpI) (es := es) fun y hy => by
  obtain ⟨cs, rfl⟩ := isE_struct Tryd.underlying27 (hh y hy).2
  obtain ⟨i, hi, e⟩ := ins_of (hh _ hy).1
  exact ⟨i, hi, by show AV.agg cs = _; rw [show cs = _ from e]; rfl⟩
 exact ⟨l, h1, by rw [show Tryd.prog.cellsOf 27 = 9 by kernel_rfl]⟩
end Go.Proofs.YtfdipcpmfoidoaaDoor

/- Read is the reference's. -/
namespace Go.Proofs.YtfdipcpmfoidoaaDoor
open Go Go.Aw
set_option linter.unusedSimpArgs false
set_option linter.unusedVariables false
set_option maxRecDepth 100000
set_option maxHeartbeats 4000000
def bytesL : Nat -> Nat -> List Int -> List Int
 | 0, _, _ => []
 | m + 1, c, rest => (unp (rest.headD 0)).take c ++ bytesL m (c - 4) rest.tail
theorem idxS_all : ∀ (k : Nat) (ok : Bool) (rest : List Int) (i : Ins), k ≤ rest.length -> idxS k ok rest i = (ok, rest.drop k, { i with x := i.x ++ rest.take k, n := i.n + k })
 | 0, ok, rest, i, h => by simp [idxS]
 | k + 1, ok, [], i, h => by simp at h
 | k + 1, ok, a :: rest, i, h => by
  simp only [List.length_cons] at h
  simp only [idxS, tkI, List.isEmpty_cons, List.tail_cons, List.headD_cons, Bool.not_false, Bool.and_true]
  rw [idxS_all k ok rest _ (by omega)]
  simp
  omega
theorem idxS_few : ∀ (k : Nat) (ok : Bool) (rest : List Int) (i : Ins), rest.length < k -> (idxS k ok rest i).1 = false
 | 0, ok, rest, i, h => by omega
 | k + 1, ok, [], i, h => by
  simp only [idxS, List.isEmpty_nil, Bool.not_true, Bool.and_false, List.tail_nil]
  exact idxS_no k _ _
 | k + 1, ok, a :: rest, i, h => by
  simp only [List.length_cons] at h
  simp only [idxS]
  exact idxS_few k _ _ _ (by simp; omega)
where
 idxS_no : ∀ (k : Nat) (rest : List Int) (i : Ins), (idxS k false rest i).1 = false
  | 0, rest, i => rfl
  | k + 1, rest, i => by simp only [idxS, Bool.false_and]; exact idxS_no k _ _
theorem lstS_all : ∀ (m c : Nat) (ok : Bool) (rest : List Int) (i : Ins), m ≤ rest.length -> lstS m c ok rest i = (ok, rest.drop m, { i with l := i.l ++ bytesL m c rest, n := i.n + m })
 | 0, c, ok, rest, i, h => by simp [lstS, bytesL]
 | m + 1, c, ok, [], i, h => by simp at h
 | m + 1, c, ok, a :: rest, i, h => by
  simp only [List.length_cons] at h
  simp only [lstS, tkI, List.isEmpty_cons, List.tail_cons, List.headD_cons, Bool.not_false, Bool.and_true]
  rw [lstS_all m (c - 4) ok rest _ (by omega)]
  simp [bytesL]
  omega
theorem lstS_no : ∀ (m c : Nat) (rest : List Int) (i : Ins), (lstS m c false rest i).1 = false
 | 0, c, rest, i => rfl
 | m + 1, c, rest, i => by simp only [lstS, Bool.false_and]; exact lstS_no m _ _ _
theorem lstS_few : ∀ (m c : Nat) (ok : Bool) (rest : List Int) (i : Ins), rest.length < m -> (lstS m c ok rest i).1 = false
 | 0, c, ok, rest, i, h => by omega
 | m + 1, c, ok, [], i, h => by
  simp only [lstS, List.isEmpty_nil, Bool.not_true, Bool.and_false, List.tail_nil]
  exact lstS_no m _ _ _
 | m + 1, c, ok, a :: rest, i, h => by
  simp only [List.length_cons] at h
  simp only [lstS]
  exact lstS_few m _ _ _ _ (by simp; omega)
where
 rdB_zero : ∀ (bs : List Int) (p l l' : Int) (i : Ins), l ≤ p -> l' ≤ p -> rdB bs p l i = rdB bs p l' i
  | [], p, l, l', i, h, h' => rfl
  | b :: bs, p, l, l', i, h, h' => by
   simp only [rdB]
   rw [if_neg (show ¬ p < l by omega), if_neg (show ¬ p < l' by omega), rdB_zero bs (p + 1) l l' i (by omega) (by omega)]
theorem chL_app {a b : List Int} (h : a.length = 4) : chL (a ++ b) = a :: chL b := by
 unfold chL
 have e : ((a ++ b).length + 3) / 4 = (b.length + 3) / 4 + 1 := by simp; omega
 rw [e, List.range_succ_eq_map]
 simp only [List.map_cons, List.map_map, Nat.mul_zero, List.drop_zero]
 congr 1
 ·rw [List.take_left' h]
 ·refine List.map_congr_left fun j _ => ?_
  simp only [Function.comp]
  rw [show 4 * (j + 1) = a.length + 4 * j by omega, List.drop_append, List.drop_of_length_le (show a.length ≤ a.length + 4 * j by omega)]
  simp
theorem chL_one {a : List Int} (h : 1 ≤ a.length) (h4 : a.length ≤ 4) : chL a = [a] := by
 unfold chL
 rw [show (a.length + 3) / 4 = 1 by omega]
 simp [List.take_of_length_le h4]
theorem headD_drop {l : List Int} {k : Nat} : (l.drop k).headD 0 = l.getD k 0 := by
 rw [List.headD_eq_head?_getD, List.head?_drop, List.getD_eq_getElem?_getD]
theorem rd2_no {r : OpRow} {s : RS} (h : s.1 = false) : (rd2 r s).1 = false := by
 unfold rd2
 split
 ·simp [h]
 ·exact h
theorem rd3_no {r : OpRow} {s : RS} (h : s.1 = false) : (rd3 r s).1 = false := by
 unfold rd3
 split
 ·rw [h]; exact lstS_no _ _ _ _
 ·exact h
theorem rr_few {ws : List Int} {n : Int} (h0 : 0 ≤ n) (hn : n < ws.length) {r : OpRow} {s : Shp} (hr : rowW (ws.getD n.toNat 0 % 256) = r) (hs : shW (ws.getD n.toNat 0 % 256) = s) (e1 : r.x.length = s.x.length) (e2 : r.li = (s.b == 5)) (e7 : (r.c == 7) = (s.c == 7)) :
  (n.toNat + 1 + rrN (ws.getD n.toNat 0) ≤ ws.length -> rdS ws n = (true, ws.drop (n.toNat + 1 + rrN (ws.getD n.toNat 0)), rr4 (ws.getD n.toNat 0) { rr2 ws n (ws.getD n.toNat 0) with l := bytesL (rrm (ws.getD n.toNat 0)) (rrl (ws.getD n.toNat 0)).toNat (ws.drop (rrP n (ws.getD n.toNat 0))) })) /\ (¬ n.toNat + 1 + rrN (ws.getD n.toNat 0) ≤ ws.length -> (rdS ws n).1 = false) := by
 unfold rdS rd1 rr4 rr2 rrN rrP rrm rrl rrf rr1 rrX
 rw [hr, hs, <- e7, <- e2, <- e1]
 clear hr hs e1 e2 e7 s
 generalize ws.getD n.toNat 0 = w
 have hl : (ws.drop (n.toNat + 1)).length = ws.length - (n.toNat + 1) := List.length_drop
 constructor
 ·intro h
  rw [idxS_all _ _ _ _ (by rw [hl]; omega)]
  unfold rd2
  simp only [rdI, rdJ, List.nil_append, List.drop_drop] at h ⊢
  cases hf : r.c == 7 && w / 16777216 == 1 with
  | false =>
   simp only [hf, Bool.false_eq_true, if_false, Nat.add_zero] at h ⊢
   unfold rd3
   cases hli : r.li with
   | false => simp [hli, bytesL]
   | true =>
    simp only [hli, if_true] at h ⊢
    rw [lstS_all _ _ _ _ _ (by simp; omega)]
    simp [List.drop_drop, Nat.add_assoc]
    omega
  | true =>
   simp only [hf, if_true] at h ⊢
   have he : (ws.drop (n.toNat + 1 + r.x.length)).isEmpty = false := by
    rw [List.isEmpty_eq_false_iff, ne_eq, <- List.length_eq_zero_iff, List.length_drop]
    omega
   rw [headD_drop, List.tail_drop]
   simp only [tkI, he, Bool.not_false, Bool.and_true, Bool.false_eq_true, if_false]
   unfold rd3
   cases hli : r.li with
   | false => simp [hli, bytesL]; omega
   | true =>
    simp only [hli, if_true] at h ⊢
    rw [lstS_all _ _ _ _ _ (by simp; omega)]
    simp [List.drop_drop, Nat.add_assoc]
    omega
 ·intro h
  by_cases hX : r.x.length ≤ (ws.drop (n.toNat + 1)).length
  ·rw [idxS_all _ _ _ _ hX]
   unfold rd2
   rw [hl] at hX
   simp only [rdI, List.nil_append, List.drop_drop] at h ⊢
   cases hf : r.c == 7 && w / 16777216 == 1 with
   | false =>
    simp only [hf, Bool.false_eq_true, if_false, Nat.add_zero] at h ⊢
    unfold rd3
    cases hli : r.li with
    | false => simp [hli] at h; omega
    | true =>
     simp only [hli, if_true] at h ⊢
     exact lstS_few _ _ _ _ _ (by simp; omega)
   | true =>
    simp only [hf, if_true] at h ⊢
    by_cases hX1 : n.toNat + 1 + r.x.length < ws.length
    ·rw [List.tail_drop]
     unfold rd3
     cases hli : r.li with
     | false => simp [hli] at h; omega
     | true =>
      simp only [hli, if_true, tkI] at h ⊢
      exact lstS_few _ _ _ _ _ (by simp; omega)
    ·have he : (ws.drop (n.toNat + 1 + r.x.length)).isEmpty = true := by
      rw [List.isEmpty_iff_length_eq_zero, List.length_drop]
      omega
     exact rd3_no (by simp [he])
  ·exact rd3_no (rd2_no (idxS_few r.x.length true (ws.drop (n.toNat + 1)) _ (by omega)))
end Go.Proofs.YtfdipcpmfoidoaaDoor

/- The reference's All. -/
namespace Go.Proofs.YtfdipcpmfoidoaaDoor
open Go Go.Aw
set_option linter.unusedSimpArgs false
set_option linter.unusedVariables false
set_option maxRecDepth 100000
set_option maxHeartbeats 40000000
def awI : Ins := ⟨0, 12, 0, 2, 1, [7], 9, [1, 2], 0⟩
theorem aw_words : wordsM awI = (0, [16908300, 7, 9, 513]) := by kernel_rfl
theorem aw_read : readM [20] 0 = (⟨0, 20, 0, 0, 0, [], -1, [], 1⟩, 0) := by kernel_rfl
theorem aw_pack : packM 1 2 3 0 = .tup [.int .u32 197121, .int .i64 0] := by kernel_rfl
theorem awake_ev : E.F 7 [] [] = some ((.bool true, []), True) := by
 have p := pack_ev (a := 1) (b := 2) (c := 3) (d := 0)
 rw [aw_pack] at p
 have w := words_ev (i := awI) (by decide) (by decide)
 rw [aw_words] at w
 have r := read_ev (ws := [20]) (n := 0) (by decide) (by simp [u32r])
 rw [aw_read] at r
 have q := eq32_ev (a := [16908300, 7, 9, 513]) (b := [16908300, 7, 9, 513]) (by decide)
 simp only [awI, insA, wordsV, readV, List.map_cons, List.map_nil, decide_true] at w r q
 rw [e7]
 simp (maxSteps := 100000000) only [ivc, rgb, anf, vop, vlen, vbuiltin, nilR, salloc, eq_self, Nat.reduceEqDiff, Nat.reduceLT, Nat.reduceLeDiff, Nat.reduceAdd, Nat.reduceMul, Nat.reduceBEq, Int.reduceLT, Int.reduceLE, Int.reduceNeg, Int.reduceToNat, Int.reduceAdd, reduceCtorEq, ↓reduceIte, tyb, l11_5, e11, p, w, r]
end Go.Proofs.YtfdipcpmfoidoaaDoor

/- Reading what was written. -/
namespace Go.Proofs.YtfdipcpmfoidoaaDoor
open Go Go.Aw
set_option linter.unusedSimpArgs false
set_option linter.unusedVariables false
set_option maxRecDepth 100000
set_option maxHeartbeats 4000000
theorem pack_parts {a b c d : Int} (h : (byt a && byt b && byt c && byt d) = true) : packN a b c d % 256 = a /\ packN a b c d / 256 % 256 = b /\ packN a b c d / 65536 % 256 = c /\ packN a b c d / 16777216 = d /\ u32r (packN a b c d) := by
 simp only [Bool.and_eq_true] at h
 obtain ⟨⟨⟨ha, hb⟩, hc⟩, hd⟩ := h
 have ha := byt_true ha
 have hb := byt_true hb
 have hc := byt_true hc
 have hd := byt_true hd
 unfold packN u32r
 refine ⟨?_, ?_, ?_, ?_, ?_, ?_⟩ <;> omega
theorem unp_cw {c : List Int} (hc : cok c = true) (h1 : 1 ≤ c.length) (h4 : c.length ≤ 4) : unp (cw c) = pad4 c /\ u32r (cw c) := by
 have hp := pack_parts hc
 unfold unp cw
 rw [hp.1, hp.2.1, hp.2.2.1, hp.2.2.2.1]
 refine ⟨?_, hp.2.2.2.2⟩
 match c, h1, h4 with
 | [_], _, _ => rfl
 | [_, _], _, _ => rfl
 | [_, _, _], _, _ => rfl
 | [_, _, _, _], _, _ => rfl
theorem bytes_back : ∀ (m : Nat) (l q : List Int), (l.length + 3) / 4 = m -> (chL l).all cok = true -> bytesL m l.length ((chL l).map cw ++ q) = l
 | 0, l, q, h, hc => by
  have : l = [] := List.eq_nil_of_length_eq_zero (by omega)
  subst this
  rfl
 | m + 1, l, q, h, hc => by
  by_cases h4 : 4 ≤ l.length
  ·have e : l = l.take 4 ++ l.drop 4 := (List.take_append_drop 4 l).symm
   have ea : (l.take 4).length = 4 := by simp; omega
   have ec : chL l = l.take 4 :: chL (l.drop 4) := by
    conv => lhs; rw [e]
    exact chL_app ea
   rw [ec] at hc ⊢
   simp only [List.all_cons, Bool.and_eq_true] at hc
   have ih := bytes_back m (l.drop 4) q (by simp; omega) hc.2
   rw [List.length_drop] at ih
   simp only [List.map_cons, List.cons_append, bytesL, List.headD_cons, List.tail_cons, ih]
   rw [(unp_cw hc.1 (by omega) (by omega)).1]
   have ep : pad4 (l.take 4) = l.take 4 := by
    unfold pad4
    rw [List.take_left' ea]
   rw [ep, List.take_of_length_le (by omega)]
   exact e.symm
  ·have h1 : 1 ≤ l.length := by omega
   obtain rfl : m = 0 := by omega
   rw [chL_one h1 (by omega)] at hc ⊢
   simp only [List.all_cons, List.all_nil, Bool.and_true] at hc
   simp only [List.map_cons, List.map_nil, List.cons_append, List.nil_append, bytesL, List.headD_cons, List.append_nil]
   rw [(unp_cw hc h1 (by omega)).1]
   unfold pad4
   rw [List.take_take, Nat.min_eq_left (by omega), List.take_left' rfl]
theorem wordsM_parts {i : Ins} {ws : List Int} (h : wordsM i = (0, ws)) : opIn i.op = true /\ formedM i (rowW i.op) = true /\ (byt i.op && byt i.a && byt i.b && byt i.c) = true /\ (xsOf i).all wok = true /\ (chL i.l).all cok = true /\ ws = packN i.op i.a i.b i.c :: (xsOf i ++ (chL i.l).map cw) := by
 unfold wordsM at h
 split at h
 ·rename_i h1
  simp only [Bool.and_eq_true] at h1
  split at h
  ·rename_i h2
   split at h
   ·rename_i h3
    split at h
    ·rename_i h4
     cases h
     exact ⟨h1.1, h1.2, h2, h3, h4, rfl⟩
    ·cases h
   ·cases h
  ·cases h
 ·cases h
theorem wordsM_u32 {i : Ins} {ws : List Int} (h : wordsM i = (0, ws)) : ∀ x ∈ ws, u32r x := by
 obtain ⟨_, _, h3, h4, h5, rfl⟩ := wordsM_parts h
 intro x hx
 rcases List.mem_cons.1 hx with rfl | hx
 ·exact (pack_parts h3).2.2.2.2
 ·rcases List.mem_append.1 hx with hx | hx
  ·have := wok_true (List.all_eq_true.1 h4 x hx)
   exact ⟨this.1, by omega⟩
  ·obtain ⟨c, hc, rfl⟩ := List.mem_map.1 hx
   have := chL_mem hc
   exact (unp_cw (List.all_eq_true.1 h5 c hc) this.1 this.2).2
theorem wordsM_at {i : Ins} {x y : Int} : wordsM { i with at_ := x, n := y } = wordsM i := rfl
theorem formed_parts {i : Ins} {r : OpRow} (h : formedM i r = true) : i.x.length = r.x.length /\ (r.li = false -> i.l = []) /\ (r.li = true -> (i.l.length : Int) = i.b) /\ ((r.c == 7 && i.c == 1) = false -> i.ra = -1) := by
 unfold formedM at h
 split at h
 ·cases h
 ·rename_i h1
  split at h
  ·cases h
  ·refine ⟨?_, ?_, ?_, ?_⟩
   ·simp at h1; omega
   ·intro hl
    rw [hl] at h1
    simp at h1
    exact h1.2
   ·intro hl
    rw [hl] at h1
    simp at h1
    omega
   ·intro hc
    split at h
    ·simpa using h
    ·rename_i h2
     have h2' : (r.c == 7) = true := by simpa using h2
     rw [h2', Bool.true_and] at hc
     rw [hc] at h
     simp at h
     exact h.2
theorem read_words {i : Ins} {ws p q : List Int} (h : wordsM i = (0, ws)) : readM (p ++ ws ++ q) p.length = ({ i with at_ := p.length, n := ws.length }, 0) := by
 obtain ⟨ho, hf, hb, hx, hc, rfl⟩ := wordsM_parts h
 obtain ⟨f1, f2, f3, f4⟩ := formed_parts hf
 obtain ⟨p1, p2, p3, p4, p5⟩ := pack_parts hb
 have al := op_alike ho
 unfold alike at al
 simp only [Bool.and_eq_true, beq_iff_eq] at al
 obtain ⟨⟨⟨⟨⟨⟨e1, e2⟩, e3⟩, e4⟩, e5⟩, e6⟩, e7⟩ := al
 have hw : (p ++ (packN i.op i.a i.b i.c :: (xsOf i ++ (chL i.l).map cw)) ++ q).getD p.length 0 = packN i.op i.a i.b i.c := by
  rw [List.getD_eq_getElem?_getD, List.append_assoc, List.getElem?_append_right (Nat.le_refl _)]
  simp
 have hd1 : (p ++ (packN i.op i.a i.b i.c :: (xsOf i ++ (chL i.l).map cw)) ++ q).drop (p.length + 1) = xsOf i ++ ((chL i.l).map cw ++ q) := by
  rw [List.append_assoc, <- List.drop_drop, List.drop_left]
  simp
 have hd0 : ((p ++ (packN i.op i.a i.b i.c :: (xsOf i ++ (chL i.l).map cw)) ++ q).drop p.length).take (packN i.op i.a i.b i.c :: (xsOf i ++ (chL i.l).map cw)).length = packN i.op i.a i.b i.c :: (xsOf i ++ (chL i.l).map cw) := by
  rw [List.append_assoc, List.drop_left, List.take_left' rfl]
 have hlen : (p ++ (packN i.op i.a i.b i.c :: (xsOf i ++ (chL i.l).map cw)) ++ q).length = p.length + (1 + (xsOf i).length + (chL i.l).length) + q.length := by simp; omega
 have hll : (packN i.op i.a i.b i.c :: (xsOf i ++ (chL i.l).map cw)).length = 1 + (xsOf i).length + (chL i.l).length := by simp; omega
 generalize p ++ (packN i.op i.a i.b i.c :: (xsOf i ++ (chL i.l).map cw)) ++ q = L at *
 generalize hW : packN i.op i.a i.b i.c :: (xsOf i ++ (chL i.l).map cw) = W at *
 clear hW
 generalize packN i.op i.a i.b i.c = w at *
 have eX : rrX w = i.x.length := by unfold rrX; rw [p1, <- e1, f1]
 have ef : rrf w = ((rowW i.op).c == 7 && i.c == 1) := by unfold rrf; rw [p1, p4, e7]
 have el : (rrl w).toNat = i.l.length := by
  unfold rrl
  rw [p1, <- e2, p3]
  cases hli : (rowW i.op).li with
  | false => rw [f2 hli]; rfl
  | true => have := f3 hli; simp only [if_true]; omega
 have exs : (xsOf i).length = i.x.length + (if rrf w = true then 1 else 0) := by
  rw [ef]
  unfold xsOf
  split <;> simp
 have eN : rrN w = (xsOf i).length + (chL i.l).length := by
  unfold rrN rrm
  rw [eX, exs, el, chL_len]
  omega
 have F := (rr_few (ws := L) (n := (p.length : Int)) (r := rowW i.op) (s := shW i.op) (by omega) (by rw [hlen]; omega) (by rw [Int.toNat_natCast, hw, p1]) (by rw [Int.toNat_natCast, hw, p1]) e1 e2 e7).1
 rw [Int.toNat_natCast, hw] at F
 have F := F (by rw [eN, hlen]; omega)
 have ex1 : (rr1 L (p.length : Int) w).x = i.x := by
  unfold rr1
  simp only
  rw [Int.toNat_natCast, hd1, eX]
  unfold xsOf
  rw [List.append_assoc, List.take_left' rfl]
 have er : (rr2 L (p.length : Int) w).ra = i.ra := by
  unfold rr2
  cases hfl : rrf w with
  | false => rw [ef] at hfl; exact (f4 hfl).symm
  | true =>
   simp only [if_true]
   rw [ef] at hfl
   rw [Int.toNat_natCast, eX, <- headD_drop, <- List.drop_drop, hd1]
   unfold xsOf
   rw [hfl, if_pos rfl, List.append_assoc, List.drop_left]
   rfl
 have ed : L.drop (rrP (p.length : Int) w) = (chL i.l).map cw ++ q := by
  unfold rrP
  rw [Int.toNat_natCast, eX, Nat.add_assoc (p.length + 1), <- exs, <- List.drop_drop, hd1, List.drop_left]
 have eb : bytesL (rrm w) (rrl w).toNat (L.drop (rrP (p.length : Int) w)) = i.l := by
  rw [ed, el]
  exact bytes_back _ _ _ (by unfold rrm; rw [el]) hc
 have res : rr4 w { rr2 L (p.length : Int) w with l := bytesL (rrm w) (rrl w).toNat (L.drop (rrP (p.length : Int) w)) } = { i with at_ := (p.length : Int), n := (W.length : Int) } := by
  rw [eb]
  unfold rr4
  have en : (1 : Int) + (rrN w : Int) = W.length := by rw [eN, hll]; omega
  rw [en]
  simp only
  rw [er]
  have h2 : ∀ (g : Ins -> Int), (∀ j r, g { j with ra := r } = g j) -> g (rr2 L (p.length : Int) w) = g (rr1 L (p.length : Int) w) := fun g hg => by
   unfold rr2
   split
   ·exact hg _ _
   ·rfl
  have h3 : (rr2 L (p.length : Int) w).x = (rr1 L (p.length : Int) w).x := by
   unfold rr2
   split <;> rfl
  rw [h2 (·.at_) (fun _ _ => rfl), h2 (·.op) (fun _ _ => rfl), h2 (·.a) (fun _ _ => rfl), h2 (·.b) (fun _ _ => rfl), h2 (·.c) (fun _ _ => rfl), h3, ex1]
  have q1 : (rr1 L (p.length : Int) w).op = i.op := p1
  have q2 : (rr1 L (p.length : Int) w).a = i.a := p2
  have q3 : (rr1 L (p.length : Int) w).b = i.b := p3
  have q4 : (rr1 L (p.length : Int) w).c = i.c := p4
  rw [q1, q2, q3, q4]
  rfl
 unfold readM
 rw [if_neg (by rw [hlen]; omega), Int.toNat_natCast, hw, p1, if_pos ho, F, if_pos rfl]
 simp only
 rw [res, wordsM_at, h]
 rw [if_pos ⟨rfl, by rw [Int.toNat_natCast]; exact hd0.symm⟩]
end Go.Proofs.YtfdipcpmfoidoaaDoor

/- CodeWordsBack: the inner loop. -/
namespace Go.Proofs.YtfdipcpmfoidoaaDoor
open Go Go.Aw
set_option linter.unusedSimpArgs false
set_option linter.unusedVariables false
set_option maxRecDepth 100000
set_option maxHeartbeats 40000000
def wof (i : Ins) : List Int := (wordsM i).2
def good (i : Ins) : Bool := (wordsM i).1 == 0
theorem good_words {i : Ins} (h : good i = true) : wordsM i = (0, wof i) := by
 unfold good at h
 have : (wordsM i).1 = 0 := by simpa using h
 unfold wof
 rw [<- this]
theorem same_words {i g : Ins} (hi : good i = true) (hg : good g = true) : decide (wof g = wof i) = sameW i g := by
 have h1 := good_words hi
 have h2 := good_words hg
 by_cases h : wof g = wof i
 ·rw [decide_eq_true h]
  have r1 := read_words (p := []) (q := []) h1
  have r2 := read_words (p := []) (q := []) h2
  rw [h] at r2
  rw [r1] at r2
  simp only [Prod.mk.injEq, and_true, Ins.mk.injEq] at r2
  unfold sameW
  simp [r2.2.1, r2.2.2.1, r2.2.2.2.1, r2.2.2.2.2.1, r2.2.2.2.2.2.1, r2.2.2.2.2.2.2]
 ·rw [decide_eq_false h]
  cases hs : sameW i g with
  | false => rfl
  | true =>
   exfalso
   apply h
   unfold sameW at hs
   simp only [Bool.and_eq_true, beq_iff_eq, decide_eq_true_eq] at hs
   obtain ⟨⟨⟨⟨⟨⟨e1, e2⟩, e3⟩, e4⟩, e5⟩, e6⟩, e7⟩ := hs
   have : wordsM g = wordsM i := by
    have := wordsM_at (i := i) (x := g.at_) (y := g.n)
    rw [<- this, e1, e2, e3, e4, e5, e6, e7]
   unfold wof
   rw [this]
def bkH (U : List Int) (G : List Ins) (i : Ins) : HL := [(60000, ⟨false, 1, U.map (.int .u32)⟩), (60001, ⟨false, 9, G.map insV⟩), (60002, ⟨true, 9, [.agg (insA i)]⟩)]
def bkV (U : List Int) (G : List Ins) (i : Ins) (l : List Ins) (k j : Int) : List AV := [.bool false, .sl 60000 0 U.length, .sl 60001 0 G.length, .ptr 60002 0 0, .ro 1 ((wof i).map (.int .u32)), .ro 9 (l.map insV), .int .i64 l.length, .int .i64 k, .sl 60001 0 G.length, .int .i64 G.length, .int .i64 j]
def small80 (i : Ins) : Prop := i.x.length ≤ 8 /\ i.l.length ≤ 80
theorem bk_in {U : List Int} {G l : List Ins} {i : Ins} {k : Int} (hi : good i = true) (hs : small80 i) (hG : ∀ g ∈ G, good g = true /\ small80 g) (hl : G.length ≤ 1000) : ∀ (r m : List Ins), G = m ++ r ->
  E.L 3 17 (bkV U G i l k m.length) (bkH U G i) = some ((.exit 2, bkV U G i l k G.length, bkH U G i), True) := by
 intro r
 induction r with
 | nil =>
  intro m h
  rw [List.append_nil] at h
  subst h
  have q : ((G.length : Int) < G.length) = False := eq_false (by omega)
  simp only [bkV, bkH, insA]
  rw [l3_17]
  simp (maxSteps := 100000000) only [ivc, rgb, anf, nilR, eq_self, Nat.reduceEqDiff, Nat.reduceLT, Nat.reduceLeDiff, Nat.reduceAdd, Nat.reduceBEq, reduceCtorEq, ↓reduceIte, tyb, q]
 | cons y r ih =>
  intro m h
  have hi' : ((m.length : Int) < G.length) = True := eq_true (by rw [h]; simp; omega)
  have hi2 : m.length < G.length := by rw [h]; simp
  have hw1 : IntKind.i64.wrap ((m.length : Int) + 1) = m.length + 1 := wrap_id (by omega) (by rw [h] at hl; simp at hl; omega)
  have hg := getD_map (f := insV) (show G[m.length]? = some y by rw [h]; simp)
  obtain ⟨hy1, hy2⟩ := hG y (by rw [h]; simp)
  have W := words_ev (i := y) (by have := hy2.1; omega) (by have := hy2.2; omega)
  rw [good_words hy1] at W
  have Wl := words_len (i := y) (by have := hy2.1; omega) (by have := hy2.2; omega)
  have EQ := eq32_ev (a := wof y) (b := wof i) (by unfold wof; omega)
  rw [same_words hi hy1] at EQ
  have SM := same_ev (i := i) (j := y) (by have := hs.1; omega) (by have := hs.2; omega)
  have ih' := ih (m ++ [y]) (by rw [h]; simp)
  simp only [bkV, bkH, List.length_append, List.length_cons, List.length_nil, Int.natCast_add, Int.cast_ofNat_Int, Nat.zero_add] at ih' ⊢
  simp only [insV] at hg
  simp only [insA, wordsV] at hg W SM ih' ⊢
  rw [l3_17]
  generalize sameW i y = b at EQ SM
  have ub : (b != b) = false := by cases b <;> rfl
  simp (maxSteps := 100000000) only [ivc, rgb, anf, vop, nilR, salloc, eq_self, Nat.reduceEqDiff, Nat.reduceLT, Nat.reduceLeDiff, Nat.reduceAdd, Nat.reduceMul, Nat.reduceBEq, reduceCtorEq, ↓reduceIte, tyb, hi', hw1, hg, W, EQ, SM, ih']
  exact some_true (by omega)
def gA (m : List Ins) : List Ins := m.filter good
def wA (m : List Ins) : List Int := (gA m).flatMap wof
theorem wof_len {i : Ins} (h : small80 i) : (wof i).length ≤ 1000 := words_len (by have := h.1; omega) (by have := h.2; omega)
theorem wA_len : ∀ (m : List Ins), (∀ i ∈ m, small80 i) -> (wA m).length ≤ 1000 * m.length
 | [], _ => by simp [wA, gA]
 | i :: m, h => by
  have ih := wA_len m (fun j hj => h j (by simp [hj]))
  have hi := wof_len (h i (by simp))
  unfold wA gA at ih ⊢
  rw [List.filter_cons]
  split
  ·simp only [List.flatMap_cons, List.length_append, List.length_cons]; omega
  ·simp only [List.length_cons]; omega
def bpV (m l : List Ins) (k : Int) : List AV := [.bool false, .sl 60000 0 (wA m).length, .sl 60001 0 (gA m).length, .ro 9 (l.map insV), .int .i64 l.length, .int .i64 k]
def bpH (m : List Ins) : HL := [(60000, ⟨false, 1, (wA m).map (.int .u32)⟩), (60001, ⟨false, 9, (gA m).map insV⟩)]
def bpR (l r : List Ins) (x : Option ((Exit × List AV × HL) × Prop)) : Prop :=
 ((∀ i ∈ r, small80 i) -> x = some ((.exit 0, bpV l l l.length, bpH l), True)) /\ ((¬ ∀ i ∈ r, small80 i) -> ∃ v h, x = some ((.ret, .bool true :: v, h), True))
theorem same_self {i : Ins} {x y : Int} : sameW { i with at_ := x, n := y } i = true := by simp [sameW]
theorem bothP_self {R : Type} {x : Option (R × Prop)} : bothP x x = x := by
 cases x with
 | none => rfl
 | some x => obtain ⟨r, φ⟩ := x; simp [bothP_some']
theorem bp_big {l : List Ins} (hl : l.length ≤ 30) {m r : List Ins} {y : Ins} (h : l = m ++ y :: r) (hy : ¬ small80 y) : E.L 3 7 (bpV m l m.length) (bpH m) = some ((.ret, .bool true :: (bpV m l m.length).tail, bpH m), True) := by
 have aw := awake_ev
 have hi' : ((m.length : Int) < l.length) = True := eq_true (by rw [h]; simp; omega)
 have hg := getD_map (f := insV) (show l[m.length]? = some y by rw [h]; simp)
 simp only [insV] at hg
 simp only [insA] at hg
 simp only [bpV, bpH, List.tail_cons]
 by_cases h8 : 8 < y.x.length
 ·have q1 : ((8 : Int) < y.x.length) = True := eq_true (by omega)
  rw [l3_7]
  simp (maxSteps := 100000000) only [ivc, rgb, anf, vop, vlen, vbuiltin, nilR, salloc, eq_self, Nat.reduceEqDiff, Nat.reduceLT, Nat.reduceLeDiff, Nat.reduceAdd, Nat.reduceBEq, Int.reduceLT, reduceCtorEq, ↓reduceIte, tyb, hi', hg, q1, aw]
  exact some_true (by omega)
 ·have q1 : ((8 : Int) < y.x.length) = False := eq_false (by omega)
  have q2 : ((80 : Int) < y.l.length) = True := eq_true (by unfold small80 at hy; omega)
  rw [l3_7]
  simp (maxSteps := 100000000) only [ivc, rgb, anf, vop, vlen, vbuiltin, nilR, salloc, eq_self, Nat.reduceEqDiff, Nat.reduceLT, Nat.reduceLeDiff, Nat.reduceAdd, Nat.reduceBEq, reduceCtorEq, ↓reduceIte, tyb, hi', hg, q1, q2, aw]
  exact some_true (by omega)
theorem gA_app {m : List Ins} {y : Ins} : gA (m ++ [y]) = gA m ++ (if good y = true then [y] else []) := by
 unfold gA
 rw [List.filter_append, List.filter_cons, List.filter_nil]
theorem wA_app {m : List Ins} {y : Ins} : wA (m ++ [y]) = wA m ++ (if good y = true then wof y else []) := by
 unfold wA
 rw [gA_app]
 split <;> simp
theorem bp_loop {l : List Ins} (hl : l.length ≤ 30) : ∀ (r m : List Ins), l = m ++ r -> (∀ i ∈ m, small80 i) -> bpR l r (E.L 3 7 (bpV m l m.length) (bpH m)) := by
 intro r
 induction r with
 | nil =>
  intro m h hm
  rw [List.append_nil] at h
  subst h
  refine ⟨fun _ => ?_, fun h => absurd (by simp) h⟩
  have q : ((l.length : Int) < l.length) = False := eq_false (by omega)
  simp only [bpV, bpH]
  rw [l3_7]
  simp (maxSteps := 100000000) only [ivc, rgb, anf, nilR, eq_self, Nat.reduceEqDiff, Nat.reduceLT, Nat.reduceLeDiff, Nat.reduceAdd, Nat.reduceBEq, reduceCtorEq, ↓reduceIte, tyb, q]
 | cons y r ih =>
  intro m h hm
  by_cases hy : small80 y
  ·have ih' := ih (m ++ [y]) (by rw [h]; simp) (by intro i hi; rcases List.mem_append.1 hi with hi | hi; exact hm i hi; rw [List.mem_singleton.1 hi]; exact hy)
   have hi' : ((m.length : Int) < l.length) = True := eq_true (by rw [h]; simp; omega)
   have hg := getD_map (f := insV) (show l[m.length]? = some y by rw [h]; simp)
   simp only [insV] at hg
   have hw1 : IntKind.i64.wrap ((m.length : Int) + 1) = m.length + 1 := wrap_id (by omega) (by rw [h] at hl; simp at hl; omega)
   have q1 : ((8 : Int) < y.x.length) = False := eq_false (by have := hy.1; omega)
   have q2 : ((80 : Int) < y.l.length) = False := eq_false (by have := hy.2; omega)
   have W := words_ev (i := y) (by have := hy.1; omega) (by have := hy.2; omega)
   have hz : ((0 : Int) ≤ (m.length : Int)) = True := eq_true (by omega)
   have key : E.L 3 7 (bpV m l m.length) (bpH m) = E.L 3 7 (bpV (m ++ [y]) l ((m ++ [y]).length : Nat)) (bpH (m ++ [y])) := by
    cases hgd : good y with
    | false =>
     have e1 : ((wordsM y).1 != 0) = true := by unfold good at hgd; simpa using hgd
     generalize wordsM y = w at W e1
     obtain ⟨er1, w⟩ := w
     simp only [bpV, bpH, wA_app, gA_app, hgd, Bool.false_eq_true, if_false, List.append_nil, List.length_append, List.length_cons, List.length_nil, Int.natCast_add, Int.cast_ofNat_Int, Nat.zero_add]
     simp only [insA, wordsV] at hg W e1
     rw [l3_7]
     simp (maxSteps := 100000000) only [ivc, rgb, anf, vop, vlen, vbuiltin, nilR, salloc, eq_self, Nat.reduceEqDiff, Nat.reduceLT, Nat.reduceLeDiff, Nat.reduceAdd, Nat.reduceBEq, reduceCtorEq, ↓reduceIte, tyb, hi', hw1, hg, q1, q2, W, e1, hz]
    | true =>
     have e1 : ((0 : Int) != 0) = false := rfl
     rw [good_words hgd] at W
     have R := read_ev (ws := wof y) (n := 0) (by have := wof_len hy; omega) (wordsM_u32 (good_words hgd))
     have rw0 := read_words (p := []) (q := []) (good_words hgd)
     rw [List.nil_append, List.append_nil] at rw0
     have rw0 : readM (wof y) 0 = ({ y with at_ := 0, n := ((wof y).length : Int) }, 0) := rw0
     rw [rw0] at R
     have SM := same_ev (i := { y with at_ := 0, n := ((wof y).length : Int) }) (j := y) (by have := hy.1; simp only; omega) (by have := hy.2; simp only; omega)
     rw [same_self] at SM
     have hGm : ∀ g ∈ gA m, good g = true /\ small80 g := fun g hg => by
      have := List.mem_filter.1 hg
      exact ⟨this.2, hm g this.1⟩
     have gl : (gA m).length ≤ 1000 := by
      have h1 : (gA m).length ≤ m.length := List.length_filter_le _ _
      have h2 : l.length = m.length + (r.length + 1) := by rw [h]; simp
      omega
     have IN := bk_in (U := wA m) (l := l) (k := m.length) hgd hy hGm gl (gA m) [] rfl
     have ul : ((wof y).length != (wof y).length) = false := by simp
     have wl1 := wA_len m hm
     have wl2 := wof_len hy
     have h2 : l.length = m.length + (r.length + 1) := by rw [h]; simp
     simp only [bpV, bpH, bkV, bkH, wA_app, gA_app, hgd, if_true, List.length_append, List.length_cons, List.length_nil, Int.natCast_add, Int.cast_ofNat_Int, Nat.zero_add, List.map_append, List.map_cons, List.map_nil, insV] at IN ⊢
     simp only [insA, wordsV, readV] at hg W R SM IN ⊢
     have z1 : (((wA m).length + (wof y).length) * 4 ≤ 140737488355328) = True := eq_true (by omega)
     have z2 : ((wA m).length + (wof y).length ≤ 9223372036854775807) = True := eq_true (by omega)
     have z3 : (((gA m).length + 1) * 104 ≤ 140737488355328) = True := eq_true (by omega)
     have z4 : ((gA m).length ≤ 9223372036854775806) = True := eq_true (by omega)
     rw [l3_7]
     simp (maxSteps := 100000000) only [ivc, rgb, anf, vop, vlen, vbuiltin, nilR, salloc, sappend, eq_self, Nat.reduceEqDiff, Nat.reduceLT, Nat.reduceLeDiff, Nat.reduceAdd, Nat.reduceMul, Nat.reduceBEq, reduceCtorEq, ↓reduceIte, tyb, hi', hw1, hg, q1, q2, W, hz, R, SM, IN, z1, z2, z3, z4, bothP_self]
   rw [key]
   refine ⟨fun hr => ih'.1 fun i hi => hr i (by simp [hi]), fun hr => ih'.2 fun hr' => hr fun i hi => ?_⟩
   rcases List.mem_cons.1 hi with rfl | hi
   ·exact hy
   ·exact hr' i hi
  ·exact ⟨fun hr => absurd (hr y (by simp)) hy, fun _ => ⟨_, _, bp_big hl h hy⟩⟩
def plc : Nat -> List Ins -> List Ins
 | _, [] => []
 | p, i :: r => { i with at_ := (p : Int), n := ((wof i).length : Int) } :: plc (p + (wof i).length) r
theorem plc_len : ∀ (p : Nat) (G : List Ins), (plc p G).length = G.length
 | _, [] => rfl
 | p, i :: r => by simp [plc, plc_len]
theorem plc_get : ∀ (m : List Ins) (p : Nat) (y : Ins) (r : List Ins), (plc p (m ++ y :: r))[m.length]? = some { y with at_ := ((p + (m.flatMap wof).length : Nat) : Int), n := ((wof y).length : Int) }
 | [], p, y, r => by simp [plc]
 | i :: m, p, y, r => by
  simp only [List.cons_append, plc, List.length_cons, List.getElem?_cons_succ, List.flatMap_cons, List.length_append]
  rw [plc_get m]
  simp [Nat.add_assoc]
theorem wof_pos {i : Ins} (h : good i = true) : 1 ≤ (wof i).length := by
 obtain ⟨_, _, _, _, _, e⟩ := wordsM_parts (good_words h)
 rw [e]
 simp
theorem all_words : ∀ (G : List Ins) (P : List Int) (f : Nat) (acc : List Ins), (∀ g ∈ G, good g = true) -> G.length ≤ f ->
  allM (readM (P ++ G.flatMap wof)) (P ++ G.flatMap wof).length f P.length acc = (acc ++ plc P.length G, 0, 0)
 | [], P, f, acc, hG, hf => by
  cases f with
  | zero => simp [allM, plc]
  | succ f =>
   unfold allM
   rw [if_neg (by simp)]
   simp [plc]
 | g :: G, P, 0, acc, hG, hf => by simp at hf
 | g :: G, P, f + 1, acc, hG, hf => by
  have hg := hG g (by simp)
  have R := read_words (p := P) (q := G.flatMap wof) (good_words hg)
  have e : P ++ (g :: G).flatMap wof = P ++ wof g ++ G.flatMap wof := by simp
  unfold allM
  rw [e, R, if_pos (by have := wof_pos hg; simp; omega), if_pos rfl]
  simp only
  have ih := all_words G (P ++ wof g) f (acc ++ [{ g with at_ := (P.length : Int), n := ((wof g).length : Int) }]) (fun x hx => hG x (by simp [hx])) (by simp at hf; omega)
  rw [show (P.length : Int) + ((wof g).length : Int) = ((P ++ wof g).length : Nat) by simp, ih]
  simp [plc]
def bfV (G : List Ins) (p k : Int) : List AV := [.bool false, .sl 60000 0 G.length, .int .i64 p, .ro 9 ((plc 0 G).map insV), .int .i64 G.length, .int .i64 k]
def bfH (G : List Ins) : HL := [(60000, ⟨false, 9, G.map insV⟩)]
theorem bf_loop {G : List Ins} (hG : ∀ g ∈ G, good g = true /\ small80 g) (hl : G.length ≤ 30) : ∀ (r m : List Ins), G = m ++ r -> (m.flatMap wof).length ≤ 1000 * m.length ->
  ∃ p, E.L 3 30 (bfV G (m.flatMap wof).length m.length) (bfH G) = some ((.exit 4, bfV G p G.length, bfH G), True) := by
 intro r
 induction r with
 | nil =>
  intro m h hm
  rw [List.append_nil] at h
  subst h
  refine ⟨(G.flatMap wof).length, ?_⟩
  have q : ((G.length : Int) < G.length) = False := eq_false (by omega)
  simp only [bfV, bfH]
  rw [l3_30]
  simp (maxSteps := 100000000) only [ivc, rgb, anf, nilR, eq_self, Nat.reduceEqDiff, Nat.reduceLT, Nat.reduceLeDiff, Nat.reduceAdd, Nat.reduceBEq, reduceCtorEq, ↓reduceIte, tyb, q]
 | cons y r ih =>
  intro m h hm
  have hgl : m.length + (r.length + 1) = G.length := by rw [h]; simp
  have hi' : ((m.length : Int) < G.length) = True := eq_true (by omega)
  have hi2 : m.length < G.length := by omega
  have hw1 : IntKind.i64.wrap ((m.length : Int) + 1) = m.length + 1 := wrap_id (by omega) (by omega)
  obtain ⟨y1, y2⟩ := hG y (by rw [h]; simp)
  have wl := wof_len y2
  have hw2 : IntKind.i64.wrap (((m.flatMap wof).length : Int) + (wof y).length) = (m.flatMap wof).length + (wof y).length := wrap_id (by omega) (by omega)
  have hg := getD_map (f := insV) (show G[m.length]? = some y by rw [h]; simp)
  have hg2 := getD_map (f := insV) (show (plc 0 G)[m.length]? = some { y with at_ := ((0 + (m.flatMap wof).length : Nat) : Int), n := ((wof y).length : Int) } by rw [h]; exact plc_get m 0 y r)
  rw [Nat.zero_add] at hg2
  have SM := same_ev (i := { y with at_ := ((m.flatMap wof).length : Int), n := ((wof y).length : Int) }) (j := y) (by have := y2.1; simp only; omega) (by have := y2.2; simp only; omega)
  rw [same_self] at SM
  obtain ⟨p, ih'⟩ := ih (m ++ [y]) (by rw [h]; simp) (by simp only [List.flatMap_append, List.flatMap_cons, List.flatMap_nil, List.append_nil, List.length_append, List.length_cons, List.length_nil]; omega)
  refine ⟨p, ?_⟩
  have pl := plc_len 0 G
  have b1 : (((m.flatMap wof).length : Int) != (m.flatMap wof).length) = false := by simp
  simp only [bfV, bfH, List.length_append, List.length_cons, List.length_nil, Int.natCast_add, Int.cast_ofNat_Int, Nat.zero_add, List.flatMap_append, List.flatMap_cons, List.flatMap_nil, List.append_nil] at ih' ⊢
  simp only [insV] at hg hg2
  simp only [insA] at hg hg2 SM
  generalize (m.flatMap wof).length = N at *
  rw [l3_30]
  simp (maxSteps := 100000000) only [ivc, rgb, anf, vop, nilR, salloc, eq_self, Nat.reduceEqDiff, Nat.reduceLT, Nat.reduceLeDiff, Nat.reduceAdd, Nat.reduceBEq, reduceCtorEq, ↓reduceIte, tyb, hi', hw1, hw2, hg, hg2, SM, pl, ih']
  exact some_true (by omega)
theorem wordsBack_ev {l : List Ins} : E.F 3 [.ro 9 (l.map insV)] [] = some ((.bool true, []), True) := by
 have aw := awake_ev
 by_cases hl : 30 < l.length
 ·have q : ((30 : Int) < l.length) = True := eq_true (by omega)
  rw [e3]
  simp (maxSteps := 100000000) only [ivc, rgb, anf, vlen, vbuiltin, nilR, eq_self, Nat.reduceLT, Nat.reduceLeDiff, Nat.reduceBEq, reduceCtorEq, ↓reduceIte, tyb, q, aw]
 ·have q : ((30 : Int) < l.length) = False := eq_false (by omega)
  obtain ⟨L1, L2⟩ := bp_loop (l := l) (by omega) l [] rfl (by simp)
  have wz : wA [] = [] := rfl
  have gz : gA [] = [] := rfl
  simp only [bpV, bpH, wz, gz, List.length_nil, List.map_nil, Int.natCast_zero] at L1 L2
  by_cases hs : ∀ i ∈ l, small80 i
  ·have L1 := L1 hs
   clear L2
   have hG : ∀ g ∈ gA l, good g = true /\ small80 g := fun g hg => by
    have := List.mem_filter.1 hg
    exact ⟨this.2, hs g this.1⟩
   have gl : (gA l).length ≤ l.length := List.length_filter_le _ _
   have wl := wA_len l hs
   have wu : ∀ x ∈ wA l, u32r x := fun x hx => by
    obtain ⟨g, hg, hx⟩ := List.mem_flatMap.1 hx
    exact wordsM_u32 (good_words (hG g hg).1) x hx
   have A := all_ev (ws := wA l) (by omega) wu
   have ga : ∀ (G : List Ins), (∀ g ∈ G, good g = true) -> G.length ≤ (G.flatMap wof).length := fun G => by
    induction G with
    | nil => simp
    | cons g G ih =>
     intro h
     have h1 := wof_pos (h g (by simp))
     have h2 := ih (fun x hx => h x (by simp [hx]))
     simp only [List.flatMap_cons, List.length_append, List.length_cons]
     omega
   have AW := all_words (gA l) [] (wA l).length [] (fun g hg => (hG g hg).1) (ga _ fun g hg => (hG g hg).1)
   rw [List.nil_append, List.length_nil] at AW
   have AW : allM (readM (wA l)) (wA l).length (wA l).length 0 [] = (plc 0 (gA l), 0, 0) := AW
   rw [AW] at A
   obtain ⟨p, FN⟩ := bf_loop (G := gA l) hG (by omega) (gA l) [] rfl (by simp)
   have pl := plc_len 0 (gA l)
   have b1 : (((gA l).length : Int) != (gA l).length) = false := by simp
   have b2 : ((0 : Int) != 0) = false := rfl
   simp only [bfV, bfH, List.length_nil, List.flatMap_nil, Int.natCast_zero] at FN
   generalize gA l = G at *
   generalize wA l = U at *
   rw [e3]
   simp (maxSteps := 100000000) only [ivc, rgb, anf, vop, vlen, vbuiltin, nilR, eq_self, Nat.reduceEqDiff, Nat.reduceLT, Nat.reduceLeDiff, Nat.reduceAdd, Nat.reduceBEq, reduceCtorEq, ↓reduceIte, tyb, q, aw, L1, A, FN, pl]
  ·obtain ⟨v, h, L2⟩ := L2 hs
   rw [e3]
   simp (maxSteps := 100000000) only [ivc, rgb, anf, vlen, vbuiltin, nilR, eq_self, Nat.reduceEqDiff, Nat.reduceLT, Nat.reduceLeDiff, Nat.reduceAdd, Nat.reduceBEq, reduceCtorEq, ↓reduceIte, tyb, q, L2]
end Go.Proofs.YtfdipcpmfoidoaaDoor

namespace Go.Proofs.YtfdipcpmfoidoaaDoor
open Go Go.Aw
set_option linter.unusedSimpArgs false
set_option linter.unusedVariables false
set_option maxRecDepth 100000
theorem back_lifted (os : Os) (started : os.Started) (H : Type) (enc : TypeId × Value -> H) :
  ReturnsInHanded {} Tryd.checked os 3 .any (fun w args => (Rows.codeWordsBackSpec.pre enc Tryd.prog Tryd.f3 [] false w args /\ laidMetH Tryd.prog laidL w) /\ sizedMet enc Tryd.prog Tryd.f3 (OpenSpec.ofChange Rows.codeWordsBackSpec) false w args)
   (Rows.codeWordsBackSpec.post enc Tryd.prog Tryd.f3 false true false false) := by
 refine returnsInHanded_of_change_and (C := Tryd.checked) (X := fun w _ => laidMetH Tryd.prog laidL w) (fun _ _ _ hh h => h.of_heap hh) own started (by kernel_rfl) Tryd.func3
  (ChangeSpec.witness_shaped (enc := enc) (C := Tryd.checked) (os := os) (X := fun w _ => laidMetH Tryd.prog laidL w) false (World.doorLaid Tryd.prog 400 os) #[.slice none 0 0] 8 rfl (World.shaped_of_RefB (by kernel_rfl) (by kernel_rfl)) (by kernel_rfl) (by kernel_rfl) (by kernel_rfl) (door_met os _)) ?_
 intro W base args ds gs before hval hW _ hsz hL _
 refine law_contractG (G := G) (A := AN) evok laidOut (fn := Tryd.f3) (l := [22, 27, 25, 3]) (by kernel_rfl) (ts := [22]) (by rw [Tryd.params3]) (by kernel_rfl) (by kernel_rfl) (tb := 4) (by kernel_rfl) Tryd.underlying4 rfl (tab_laid hL) hval hW hsz (fun ds h => ?_) fun nx hl ht => ?_
 ·match ds, h with
  | [a], _ => exact ⟨rfl, rfl, rfl⟩
 ·match nx, hl with
  | [a], _ =>
   obtain ⟨la, ra, ha⟩ := inss_of (ht 0 22 a rfl rfl)
   refine ⟨[], ?_⟩
   have := wordsBack_ev (l := la)
   show E.F 3 [argA Tryd.prog 22 a.2] [] = _
   rw [ha]
   simp only [argA, Tryd.underlying22, List.getD_cons_zero]
   exact this
theorem back_holds : Rows.CodeWordsBackSaid :=
 OpenClaim.holds_of_wide 3 Tryd.f3 rfl rfl rfl rfl rfl rfl rfl ⟨rfl, rfl, rfl, rfl, rfl⟩ rfl rfl rfl rfl rfl (by kernel_rfl) Tryd.func3 (by kernel_rfl)
  (of_decide_eq_true (by kernel_rfl)) (by unfold Func.isWrapper; first | (rw [if_pos (by decide +kernel)]; kernel_rfl) | (rw [if_neg (by decide +kernel)]; exact ⟨rfl, rfl⟩))
  (fun os started H enc _ => back_lifted os started H enc)
theorem back_card : Rows.CodeWordsBackCardSaid :=
 Claim7.holds_tied_plain_at .later [] [.widerDeep] true (true, "09bf8b756bc8d9dfa2faf4825854ee5bd48bd8245ec705a19d468fbba49fe3eb") false
  back_holds (fun _ h => by cases h) (by kernel_rfl) (fun _ h => by cases h) codeWordsBack_row_tie rfl ⟨rfl, rfl⟩ (by kernel_rfl) rfl
  (fun f fn hf hfn => by
   obtain rfl : f = 3 := Option.some.inj ((show Tryd.prog.funcNamed "hackamore/hackamorelaw24.CodeWordsBack" = some 3 by kernel_rfl).symm.trans hf) |>.symm
   obtain rfl : fn = Tryd.f3 := (Option.some.inj (Tryd.func3.symm.trans hfn)).symm
   exact ⟨by kernel_rfl, fun j t ht => by
    rw [Tryd.params3] at ht
    have hm : t ∈ [22] := by simpa using Array.mem_of_getElem? ht
    have hall : ([22].all fun u => !Tryd.prog.wantsStandIn u) = true := by kernel_rfl
    exact (show Tryd.prog.wantsStandIn t = false by simpa using List.all_eq_true.1 hall t hm)⟩)
  (by kernel_rfl)
end Go.Proofs.YtfdipcpmfoidoaaDoor

