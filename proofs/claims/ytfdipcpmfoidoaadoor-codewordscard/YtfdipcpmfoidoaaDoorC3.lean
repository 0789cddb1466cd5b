/- CodeWords: the program's Pack, Unpack, Words, Read and All answer as the reference's do, for any four numbers, up to 200 words read at any place, and any instruction with up to 8 extra words and 80 entries (else: that the program is awake). The package's table hackamore/code.table is as the program's text lays it. -/
import Derived.Test.YtfdipcpmfoidoaaDoorTie
import Derived.Test.YtfdipcpmfoidoaaDoorCards
import Derived.LaidMore
import Derived.LaidLaws
import Derived.ProofKit
import Derived.Test.YtfdipcpmfoidoaaDoorC2
/- The reference's Read. -/
namespace Go.Proofs.YtfdipcpmfoidoaaDoor
open Go Go.Aw
set_option linter.unusedSimpArgs false
set_option linter.unusedVariables false
set_option maxRecDepth 100000
set_option maxHeartbeats 40000000
def rrl (w : Int) : Int := if ((shW (w % 256)).b == 5) = true then w / 65536 % 256 else 0
def rrf (w : Int) : Bool := (shW (w % 256)).c == 7 && (w / 16777216 == 1)
def rrm (w : Int) : Nat := ((rrl w).toNat + 3) / 4
def rrX (w : Int) : Nat := (shW (w % 256)).x.length
def rrN (w : Int) : Nat := rrX w + rrm w + (if rrf w = true then 1 else 0)
def rdJ (n w : Int) : Ins := ⟨n, w % 256, w / 256 % 256, w / 65536 % 256, w / 16777216, [], -1, [], 0⟩
def rr1 (ws : List Int) (n w : Int) : Ins := { rdJ n w with x := (ws.drop (n.toNat + 1)).take (rrX w) }
def rr2 (ws : List Int) (n w : Int) : Ins := if rrf w = true then { rr1 ws n w with ra := ws.getD (n.toNat + 1 + rrX w) 0 } else rr1 ws n w
def rrP (n w : Int) : Nat := n.toNat + 1 + rrX w + (if rrf w = true then 1 else 0)
def rr3 (ws : List Int) (n w : Int) : Option Ins := rdC (rrm w) (ws.drop (rrP n w)) 0 (rrl w) (rr2 ws n w)
def rr4 (w : Int) (i : Ins) : Ins := { i with n := 1 + rrN w }
def rreadM (ws : List Int) (n : Int) : Ins × Int :=
 if n < 0 \/ (ws.length : Int) ≤ n then (insZ, 3)
 else if opIn (ws.getD n.toNat 0 % 256) = true then
  if n.toNat + 1 + rrN (ws.getD n.toNat 0) ≤ ws.length then
   match rr3 ws n (ws.getD n.toNat 0) with
   | some i => if (wordsM (rr4 (ws.getD n.toNat 0) i)).1 = 0 then (rr4 (ws.getD n.toNat 0) i, 0) else (insZ, 260)
   | none => (insZ, 260)
  else (insZ, 260)
 else (insZ, 260)
theorem rdB_kept : ∀ (bs : List Int) (p l : Int) (i j : Ins), rdB bs p l i = some j -> j.x = i.x
 | [], p, l, i, j, h => by cases h; rfl
 | b :: bs, p, l, i, j, h => by
  unfold rdB at h
  split at h
  ·exact (rdB_kept bs (p + 1) l { i with l := i.l ++ [b] } j h)
  ·split at h
   ·cases h
   ·exact rdB_kept bs _ l _ j h
theorem rdC_kept : ∀ (m : Nat) (rest : List Int) (p l : Int) (i j : Ins), rdC m rest p l i = some j -> j.x = i.x /\ j.l.length ≤ i.l.length + 4 * m
 | 0, rest, p, l, i, j, h => by cases h; simp
 | m + 1, rest, p, l, i, j, h => by
  unfold rdC at h
  split at h
  ·rename_i i2 h2
   have h3 := rdB_kept _ _ _ _ _ h2
   have h4 := rdB_len _ _ _ _ _ h2
   obtain ⟨h5, h6⟩ := rdC_kept m _ _ _ _ _ h
   refine ⟨by rw [h5, h3], ?_⟩
   simp [unp] at h4
   omega
  ·cases h
theorem shW_x (n : Int) : (shW n).x.length ≤ 2 := by
 unfold shW
 split
 ·rename_i h
  obtain ⟨h1, h2⟩ := opIn_true h
  have : ∀ k, k < 24 -> (shT.getD k shZ).x.length ≤ 2 := by decide
  exact this _ (by omega)
 ·simp [shZ]
theorem rread_bad {ws : List Int} {n : Int} (h : n < 0 \/ (ws.length : Int) ≤ n) : E.F 18 [.ro 1 (ws.map (.int .u32)), .int .i64 n] [] = some ((readV (rreadM ws n), []), True) := by
 rw [e18]
 unfold rreadM readV
 rw [if_pos h]
 rcases h with h | h
 ·have q : (n < 0) = True := eq_true h
  simp (maxSteps := 100000000) only [ivc, rgb, anf, vop, vlen, vbuiltin, nilR, salloc, eq_self, Nat.reduceEqDiff, Nat.reduceLT, Nat.reduceLeDiff, Nat.reduceAdd, Nat.reduceBEq, Int.reduceNeg, reduceCtorEq, ↓reduceIte, tyb, q, insA, insZ]
 ·by_cases q : n < 0
  ·simp (maxSteps := 100000000) only [ivc, rgb, anf, vop, vlen, vbuiltin, nilR, salloc, eq_self, Nat.reduceEqDiff, Nat.reduceLT, Nat.reduceLeDiff, Nat.reduceAdd, Nat.reduceBEq, Int.reduceNeg, reduceCtorEq, ↓reduceIte, tyb, q, insA, insZ]
  ·have q' : ((ws.length : Int) ≤ n) = True := eq_true h
   simp (maxSteps := 100000000) only [ivc, rgb, anf, vop, vlen, vbuiltin, nilR, salloc, eq_self, Nat.reduceEqDiff, Nat.reduceLT, Nat.reduceLeDiff, Nat.reduceAdd, Nat.reduceBEq, Int.reduceNeg, reduceCtorEq, ↓reduceIte, tyb, q, q', insA, insZ]
theorem rread_all {ws : List Int} {n : Int} (h0 : 0 ≤ n) (h1 : n < ws.length) (hs : ws.length ≤ 90000) (hu : ∀ x ∈ ws, u32r x) : E.F 18 [.ro 1 (ws.map (.int .u32)), .int .i64 n] [] = some ((readV (rreadM ws n), []), True) := by
 have hg := getD_row (f := AV.int .u32) (l := ws) (k := n.toNat) (by omega)
 have hw := u32r_getD hu n.toNat
 have q : (n < 0) = False := eq_false (by omega)
 have q' : ((ws.length : Int) ≤ n) = False := eq_false (by omega)
 have q2 : (n < (ws.length : Int)) = True := eq_true h1
 have q3 : (0 ≤ n) = True := eq_true h0
 have up := runpack_ev hw.1 hw.2
 have sh := shape_ev (n := ws.getD n.toNat 0 % 256)
 have hrx := shW_x (ws.getD n.toNat 0 % 256)
 have hw1 : IntKind.i64.wrap (n + 1) = n + 1 := wrap_id (by omega) (by omega)
 unfold rreadM readV
 rw [if_neg (by omega)]
 unfold rr4 rr3 rr2 rrP rrN rrm rrl rrf rrX
 have hr1 : rr1 ws n (ws.getD n.toNat 0) = { rdJ n (ws.getD n.toNat 0) with x := (ws.drop (n.toNat + 1)).take (shW (ws.getD n.toNat 0 % 256)).x.length } := rfl
 generalize ws.getD n.toNat 0 = w at *
 generalize shW (w % 256) = r at *
 cases hop : opIn (w % 256) with
 | false =>
  rw [if_neg (by decide)]
  rw [hop] at sh
  simp only [shA] at sh
  rw [e18]
  simp (maxSteps := 100000000) only [ivc, rgb, anf, vop, vlen, vbuiltin, nilR, salloc, eq_self, Nat.reduceEqDiff, Nat.reduceLT, Nat.reduceLeDiff, Nat.reduceAdd, Nat.reduceBEq, Int.reduceNeg, reduceCtorEq, ↓reduceIte, tyb, q, q', q2, q3, hg, up, sh, insA, insZ]
 | true =>
 rw [if_pos rfl]
 rw [hop] at sh
 simp only [shA] at sh
 obtain ⟨k, rfl⟩ := Int.eq_ofNat_of_zero_le h0
 simp only [Int.toNat_natCast] at hg hr1 ⊢
 have hr1 : rr1 ws (k : Int) w = { rdJ (k : Int) w with x := (rdJ (k : Int) w).x ++ (ws.drop (k + 1)).take r.x.length } := hr1
 have hb0 : 0 ≤ w / 65536 % 256 /\ w / 65536 % 256 ≤ 255 := by omega
 have wb3 : IntKind.i64.wrap (w / 65536 % 256 + 3) = w / 65536 % 256 + 3 := wrap_id (by omega) (by omega)
 have td : (w / 65536 % 256 + 3).tdiv 4 = (((w / 65536 % 256).toNat + 3) / 4 : Nat) := by
  rw [Int.tdiv_eq_ediv_of_nonneg (by omega)]
  omega
 have hm0 : ((w / 65536 % 256).toNat + 3) / 4 ≤ 100 := by omega
 have hX : r.x.length ≤ 2 := hrx
 cases hl5 : (r.b == 5) with
 | false =>
  simp only [Bool.false_eq_true, if_false, Int.toNat_zero, Nat.zero_add, Nat.reduceDiv, Nat.add_zero]
  cases hcc : (r.c == 7 && (w / 16777216 == 1)) with
  | false =>
   simp only [Bool.false_eq_true, if_false, Nat.add_zero]
   have wX : IntKind.i64.wrap ((r.x.length : Int) + 0) = r.x.length := by rw [Int.add_zero]; exact wrap_id (by omega) (by omega)
   have wN : IntKind.i64.wrap ((k : Int) + 1 + ((r.x.length : Int))) = (k : Int) + 1 + ((r.x.length : Int)) := wrap_id (by omega) (by omega)
   by_cases hN : k + 1 + r.x.length ≤ ws.length
   ·rw [if_pos hN]
    have hN' : ((ws.length : Int) < (k : Int) + 1 + ((r.x.length : Int))) = False := eq_false (by omega)
    have L1 := rf_idx (ws := ws) (n := (k : Int)) (l := 0) (r := r) hu hs (by omega) r.x.length 0 (k + 1) (rdJ k w) (by omega) (by omega) (by simp [rdJ]; omega)
    rw [<- hr1] at L1
    have x1 : (rr1 ws (k : Int) w).x.length ≤ 2 := by rw [hr1]; simp [rdJ]; omega
    have c1 : (rr1 ws (k : Int) w).c = w / 16777216 := rfl
    have l1 : (rr1 ws (k : Int) w).l = [] := rfl
    clear hr1
    generalize rr1 ws (k : Int) w = i1 at *
    have hcc1 : (r.c == 7 && i1.c == 1) = false := by rw [c1]; exact hcc
    have L2 := rf_lst (ws := ws) (n := (k : Int)) (l := 0) hu hs (by omega) 0 (k + 1 + r.x.length) 0 i1 (by omega) (by omega) (by omega) (by omega) (by omega) (by omega) (by simp [l1])
    have K2 := rdC_kept 0 (ws.drop (k + 1 + r.x.length)) 0 (0) i1
    simp only [rfV, rfH, insL, shA, iR, rdJ, insZL, Int.natCast_add, Int.cast_ofNat_Int, List.length_nil, List.map_nil] at L1
    cases ho : rdC 0 (ws.drop (k + 1 + r.x.length)) 0 (0) i1 with
    | none =>
     rw [ho] at L2
     obtain ⟨p3, p4, i3, L2⟩ := L2
     simp only [ryV, ryH, insL, iR, insZL, Int.natCast_add, Int.cast_ofNat_Int] at L2
     rw [e18]
     simp (maxSteps := 100000000) only [ivc, rgb, anf, vop, vlen, vbuiltin, nilR, salloc, eq_self, Nat.reduceEqDiff, Nat.reduceLT, Nat.reduceLeDiff, Nat.reduceAdd, Nat.reduceBEq, Int.reduceEq, Int.reduceLE, Int.reduceNeg, Int.reduceAdd, Int.reduceTDiv, reduceCtorEq, ne_eq, ↓reduceIte, tyb, q, q', q2, q3, hg, up, sh, insA, insZ, hw1, hl5, hcc, wN, wX, hN', L1, hcc1, L2]
    | some i3 =>
     rw [ho] at L2
     have k3 := K2 i3 ho
     have W := rwords_ev (i := { i3 with n := 1 + ((r.x.length : Nat) : Int) }) (show i3.x.length ≤ 100 by rw [k3.1]; exact Nat.le_trans x1 (by omega)) (show i3.l.length ≤ 1000 by have h3 : i3.l.length ≤ i1.l.length + 4 * 0 := k3.2; have h4 : i1.l.length = 0 := (by rw [l1]; rfl); omega)
     rw [words_eq] at W
     have wn : IntKind.i64.wrap ((k : Int) + 1 + r.x.length + 0 - (k : Int)) = 1 + ((r.x.length : Nat) : Int) := by rw [wrap_id (by omega) (by omega)]; omega
     simp only
     generalize wordsM { i3 with n := 1 + ((r.x.length : Nat) : Int) } = m3 at *
     obtain ⟨er3, w3⟩ := m3
     simp only [wordsV, insA] at W
     simp only [Int.natCast_add] at W wn ⊢
     simp only [ryR, ryV, ryH, insL, iR, insZL, Int.natCast_add, Int.cast_ofNat_Int] at L2
     by_cases he : er3 = 0
     ·subst he
      rw [e18]
      simp (maxSteps := 100000000) only [ivc, rgb, anf, vop, vlen, vbuiltin, nilR, salloc, eq_self, Nat.reduceEqDiff, Nat.reduceLT, Nat.reduceLeDiff, Nat.reduceAdd, Nat.reduceBEq, Int.reduceEq, Int.reduceLE, Int.reduceNeg, Int.reduceAdd, Int.reduceMul, Int.reduceTDiv, reduceCtorEq, ne_eq, ↓reduceIte, tyb, q, q', q2, q3, hg, up, sh, insA, hw1, hl5, hcc, wN, wX, hN', L1, hcc1, L2, wn, W]
     ·have he' : (er3 != 0) = true := by simp [he]
      rw [e18]
      simp (maxSteps := 100000000) only [ivc, rgb, anf, vop, vlen, vbuiltin, nilR, salloc, eq_self, Nat.reduceEqDiff, Nat.reduceLT, Nat.reduceLeDiff, Nat.reduceAdd, Nat.reduceBEq, Int.reduceEq, Int.reduceLE, Int.reduceNeg, Int.reduceAdd, Int.reduceMul, Int.reduceTDiv, reduceCtorEq, ne_eq, ↓reduceIte, tyb, q, q', q2, q3, hg, up, sh, insA, insZ, hw1, hl5, hcc, wN, wX, hN', L1, hcc1, L2, wn, W, he, he']
   ·rw [if_neg hN]
    have hN' : ((ws.length : Int) < (k : Int) + 1 + ((r.x.length : Int))) = True := eq_true (by omega)
    rw [e18]
    simp (maxSteps := 100000000) only [ivc, rgb, anf, vop, vlen, vbuiltin, nilR, salloc, eq_self, Nat.reduceEqDiff, Nat.reduceLT, Nat.reduceLeDiff, Nat.reduceAdd, Nat.reduceBEq, Int.reduceEq, Int.reduceLE, Int.reduceNeg, Int.reduceAdd, Int.reduceTDiv, reduceCtorEq, ne_eq, ↓reduceIte, tyb, q, q', q2, q3, hg, up, sh, insA, insZ, hw1, hl5, hcc, wN, wX, hN']
  | true =>
   simp only [if_true]
   have wX : IntKind.i64.wrap ((r.x.length : Int) + 0) = r.x.length := by rw [Int.add_zero]; exact wrap_id (by omega) (by omega)
   have wX1 : IntKind.i64.wrap ((r.x.length : Int) + 1) = r.x.length + 1 := wrap_id (by omega) (by omega)
   have wN : IntKind.i64.wrap ((k : Int) + 1 + ((r.x.length : Int) + 1)) = (k : Int) + 1 + ((r.x.length : Int) + 1) := wrap_id (by omega) (by omega)
   by_cases hN : k + 1 + (r.x.length + 1) ≤ ws.length
   ·rw [if_pos hN]
    have hN' : ((ws.length : Int) < (k : Int) + 1 + ((r.x.length : Int) + 1)) = False := eq_false (by omega)
    have L1 := rf_idx (ws := ws) (n := (k : Int)) (l := 0) (r := r) hu hs (by omega) r.x.length 0 (k + 1) (rdJ k w) (by omega) (by omega) (by simp [rdJ]; omega)
    rw [<- hr1] at L1
    have x1 : (rr1 ws (k : Int) w).x.length ≤ 2 := by rw [hr1]; simp [rdJ]; omega
    have c1 : (rr1 ws (k : Int) w).c = w / 16777216 := rfl
    have l1 : (rr1 ws (k : Int) w).l = [] := rfl
    clear hr1
    generalize rr1 ws (k : Int) w = i1 at *
    have hcc1 : (r.c == 7 && i1.c == 1) = true := by rw [c1]; exact hcc
    have hg2 := getD_row (f := AV.int .u32) (l := ws) (k := k + 1 + r.x.length) (by omega)
    have hu2 := u32r_getD hu (k + 1 + r.x.length)
    have hw2 : IntKind.i64.wrap (ws.getD (k + 1 + r.x.length) 0) = ws.getD (k + 1 + r.x.length) 0 := wrap_id (by have := hu2.1; omega) (by have := hu2.2; omega)
    have e2 : ((k : Int) + 1 + r.x.length).toNat = k + 1 + r.x.length := by omega
    have b2 : ((k : Int) + 1 + r.x.length < ws.length) = True := eq_true (by omega)
    have b3 : (0 ≤ (k : Int) + 1 + r.x.length) = True := eq_true (by omega)
    have w2 : IntKind.i64.wrap ((k : Int) + 1 + r.x.length + 1) = (k : Int) + 1 + r.x.length + 1 := wrap_id (by omega) (by omega)
    generalize ws.getD (k + 1 + r.x.length) 0 = ra at *
    have L2 := rf_lst (ws := ws) (n := (k : Int)) (l := 0) hu hs (by omega) 0 (k + 1 + r.x.length + 1) 0 { i1 with ra := ra } (by omega) (by omega) (by omega) (by omega) (by omega) (by omega) (by simp [l1])
    have K2 := rdC_kept 0 (ws.drop (k + 1 + r.x.length + 1)) 0 (0) { i1 with ra := ra }
    simp only [rfV, rfH, insL, shA, iR, rdJ, insZL, Int.natCast_add, Int.cast_ofNat_Int, List.length_nil, List.map_nil] at L1
    cases ho : rdC 0 (ws.drop (k + 1 + r.x.length + 1)) 0 (0) { i1 with ra := ra } with
    | none =>
     rw [ho] at L2
     obtain ⟨p3, p4, i3, L2⟩ := L2
     simp only [ryV, ryH, insL, iR, insZL, Int.natCast_add, Int.cast_ofNat_Int] at L2
     rw [e18]
     simp (maxSteps := 100000000) only [ivc, rgb, anf, vop, vlen, vbuiltin, nilR, salloc, eq_self, Nat.reduceEqDiff, Nat.reduceLT, Nat.reduceLeDiff, Nat.reduceAdd, Nat.reduceBEq, Int.reduceEq, Int.reduceLE, Int.reduceNeg, Int.reduceAdd, Int.reduceTDiv, reduceCtorEq, ne_eq, ↓reduceIte, tyb, q, q', q2, q3, hg, up, sh, insA, insZ, hw1, hl5, hcc, wN, wX, wX1, hN', L1, hcc1, L2, hg2, hw2, e2, b2, b3, w2]
    | some i3 =>
     rw [ho] at L2
     have k3 := K2 i3 ho
     have W := rwords_ev (i := { i3 with n := 1 + (((r.x.length + 1) : Nat) : Int) }) (show i3.x.length ≤ 100 by rw [k3.1]; exact Nat.le_trans x1 (by omega)) (show i3.l.length ≤ 1000 by have h3 : i3.l.length ≤ i1.l.length + 4 * 0 := k3.2; have h4 : i1.l.length = 0 := (by rw [l1]; rfl); omega)
     rw [words_eq] at W
     have wn : IntKind.i64.wrap ((k : Int) + 1 + r.x.length + 1 + 0 - (k : Int)) = 1 + (((r.x.length + 1) : Nat) : Int) := by rw [wrap_id (by omega) (by omega)]; omega
     simp only
     generalize wordsM { i3 with n := 1 + (((r.x.length + 1) : Nat) : Int) } = m3 at *
     obtain ⟨er3, w3⟩ := m3
     simp only [wordsV, insA] at W
     simp only [Int.natCast_add, Int.cast_ofNat_Int] at W wn ⊢
     simp only [ryR, ryV, ryH, insL, iR, insZL, Int.natCast_add, Int.cast_ofNat_Int] at L2
     by_cases he : er3 = 0
     ·subst he
      rw [e18]
      simp (maxSteps := 100000000) only [ivc, rgb, anf, vop, vlen, vbuiltin, nilR, salloc, eq_self, Nat.reduceEqDiff, Nat.reduceLT, Nat.reduceLeDiff, Nat.reduceAdd, Nat.reduceBEq, Int.reduceEq, Int.reduceLE, Int.reduceNeg, Int.reduceAdd, Int.reduceMul, Int.reduceTDiv, reduceCtorEq, ne_eq, ↓reduceIte, tyb, q, q', q2, q3, hg, up, sh, insA, hw1, hl5, hcc, wN, wX, wX1, hN', L1, hcc1, L2, hg2, hw2, e2, b2, b3, w2, wn, W]
     ·have he' : (er3 != 0) = true := by simp [he]
      rw [e18]
      simp (maxSteps := 100000000) only [ivc, rgb, anf, vop, vlen, vbuiltin, nilR, salloc, eq_self, Nat.reduceEqDiff, Nat.reduceLT, Nat.reduceLeDiff, Nat.reduceAdd, Nat.reduceBEq, Int.reduceEq, Int.reduceLE, Int.reduceNeg, Int.reduceAdd, Int.reduceMul, Int.reduceTDiv, reduceCtorEq, ne_eq, ↓reduceIte, tyb, q, q', q2, q3, hg, up, sh, insA, insZ, hw1, hl5, hcc, wN, wX, wX1, hN', L1, hcc1, L2, hg2, hw2, e2, b2, b3, w2, wn, W, he, he']
   ·rw [if_neg hN]
    have hN' : ((ws.length : Int) < (k : Int) + 1 + ((r.x.length : Int) + 1)) = True := eq_true (by omega)
    rw [e18]
    simp (maxSteps := 100000000) only [ivc, rgb, anf, vop, vlen, vbuiltin, nilR, salloc, eq_self, Nat.reduceEqDiff, Nat.reduceLT, Nat.reduceLeDiff, Nat.reduceAdd, Nat.reduceBEq, Int.reduceEq, Int.reduceLE, Int.reduceNeg, Int.reduceAdd, Int.reduceTDiv, reduceCtorEq, ne_eq, ↓reduceIte, tyb, q, q', q2, q3, hg, up, sh, insA, insZ, hw1, hl5, hcc, wN, wX, wX1, hN']
 | true =>
  simp only [if_true]
  cases hcc : (r.c == 7 && (w / 16777216 == 1)) with
  | false =>
   simp only [Bool.false_eq_true, if_false, Nat.add_zero]
   generalize hm : ((w / 65536 % 256).toNat + 3) / 4 = m at *
   have wm : IntKind.i64.wrap (m : Int) = m := wrap_id (by omega) (by omega)
   have wX : IntKind.i64.wrap ((r.x.length : Int) + m) = r.x.length + m := wrap_id (by omega) (by omega)
   have wN : IntKind.i64.wrap ((k : Int) + 1 + ((r.x.length : Int) + m)) = (k : Int) + 1 + ((r.x.length : Int) + m) := wrap_id (by omega) (by omega)
   by_cases hN : k + 1 + (r.x.length + m) ≤ ws.length
   ·rw [if_pos hN]
    have hN' : ((ws.length : Int) < (k : Int) + 1 + ((r.x.length : Int) + m)) = False := eq_false (by omega)
    have L1 := rf_idx (ws := ws) (n := (k : Int)) (l := w / 65536 % 256) (r := r) hu hs (by omega) r.x.length 0 (k + 1) (rdJ k w) (by omega) (by omega) (by simp [rdJ]; omega)
    rw [<- hr1] at L1
    have x1 : (rr1 ws (k : Int) w).x.length ≤ 2 := by rw [hr1]; simp [rdJ]; omega
    have c1 : (rr1 ws (k : Int) w).c = w / 16777216 := rfl
    have l1 : (rr1 ws (k : Int) w).l = [] := rfl
    clear hr1
    generalize rr1 ws (k : Int) w = i1 at *
    have hcc1 : (r.c == 7 && i1.c == 1) = false := by rw [c1]; exact hcc
    have L2 := rf_lst (ws := ws) (n := (k : Int)) (l := w / 65536 % 256) hu hs (by omega) m (k + 1 + r.x.length) 0 i1 (by omega) (by omega) (by omega) (by omega) (by omega) (by omega) (by simp [l1])
    have K2 := rdC_kept m (ws.drop (k + 1 + r.x.length)) 0 (w / 65536 % 256) i1
    simp only [rfV, rfH, insL, shA, iR, rdJ, insZL, Int.natCast_add, Int.cast_ofNat_Int, List.length_nil, List.map_nil] at L1
    cases ho : rdC m (ws.drop (k + 1 + r.x.length)) 0 (w / 65536 % 256) i1 with
    | none =>
     rw [ho] at L2
     obtain ⟨p3, p4, i3, L2⟩ := L2
     simp only [ryV, ryH, insL, iR, insZL, Int.natCast_add, Int.cast_ofNat_Int] at L2
     rw [e18]
     simp (maxSteps := 100000000) only [ivc, rgb, anf, vop, vlen, vbuiltin, nilR, salloc, eq_self, Nat.reduceEqDiff, Nat.reduceLT, Nat.reduceLeDiff, Nat.reduceAdd, Nat.reduceBEq, Int.reduceEq, Int.reduceNeg, reduceCtorEq, ne_eq, ↓reduceIte, tyb, q, q', q2, q3, hg, up, sh, insA, insZ, hw1, hl5, hcc, wN, wb3, td, wm, wX, hN', L1, hcc1, L2]
    | some i3 =>
     rw [ho] at L2
     have k3 := K2 i3 ho
     have W := rwords_ev (i := { i3 with n := 1 + (((r.x.length + m) : Nat) : Int) }) (show i3.x.length ≤ 100 by rw [k3.1]; exact Nat.le_trans x1 (by omega)) (show i3.l.length ≤ 1000 by have h3 : i3.l.length ≤ i1.l.length + 4 * m := k3.2; have h4 : i1.l.length = 0 := (by rw [l1]; rfl); omega)
     rw [words_eq] at W
     have wn : IntKind.i64.wrap ((k : Int) + 1 + r.x.length + m - (k : Int)) = 1 + (((r.x.length + m) : Nat) : Int) := by rw [wrap_id (by omega) (by omega)]; omega
     simp only
     generalize wordsM { i3 with n := 1 + (((r.x.length + m) : Nat) : Int) } = m3 at *
     obtain ⟨er3, w3⟩ := m3
     simp only [wordsV, insA] at W
     simp only [Int.natCast_add] at W wn ⊢
     simp only [ryR, ryV, ryH, insL, iR, insZL, Int.natCast_add, Int.cast_ofNat_Int] at L2
     by_cases he : er3 = 0
     ·subst he
      rw [e18]
      simp (maxSteps := 100000000) only [ivc, rgb, anf, vop, vlen, vbuiltin, nilR, salloc, eq_self, Nat.reduceEqDiff, Nat.reduceLT, Nat.reduceLeDiff, Nat.reduceAdd, Nat.reduceBEq, Int.reduceEq, Int.reduceNeg, reduceCtorEq, ne_eq, ↓reduceIte, tyb, q, q', q2, q3, hg, up, sh, insA, hw1, hl5, hcc, wN, wb3, td, wm, wX, hN', L1, hcc1, L2, wn, W]
     ·have he' : (er3 != 0) = true := by simp [he]
      rw [e18]
      simp (maxSteps := 100000000) only [ivc, rgb, anf, vop, vlen, vbuiltin, nilR, salloc, eq_self, Nat.reduceEqDiff, Nat.reduceLT, Nat.reduceLeDiff, Nat.reduceAdd, Nat.reduceBEq, Int.reduceEq, Int.reduceNeg, reduceCtorEq, ne_eq, ↓reduceIte, tyb, q, q', q2, q3, hg, up, sh, insA, insZ, hw1, hl5, hcc, wN, wb3, td, wm, wX, hN', L1, hcc1, L2, wn, W, he, he']
   ·rw [if_neg hN]
    have hN' : ((ws.length : Int) < (k : Int) + 1 + ((r.x.length : Int) + m)) = True := eq_true (by omega)
    rw [e18]
    simp (maxSteps := 100000000) only [ivc, rgb, anf, vop, vlen, vbuiltin, nilR, salloc, eq_self, Nat.reduceEqDiff, Nat.reduceLT, Nat.reduceLeDiff, Nat.reduceAdd, Nat.reduceBEq, Int.reduceEq, Int.reduceNeg, reduceCtorEq, ne_eq, ↓reduceIte, tyb, q, q', q2, q3, hg, up, sh, insA, insZ, hw1, hl5, hcc, wN, wb3, td, wm, wX, hN']
  | true =>
   simp only [if_true]
   generalize hm : ((w / 65536 % 256).toNat + 3) / 4 = m at *
   have wm : IntKind.i64.wrap (m : Int) = m := wrap_id (by omega) (by omega)
   have wX : IntKind.i64.wrap ((r.x.length : Int) + m) = r.x.length + m := wrap_id (by omega) (by omega)
   have wX1 : IntKind.i64.wrap ((r.x.length : Int) + m + 1) = r.x.length + m + 1 := wrap_id (by omega) (by omega)
   have wN : IntKind.i64.wrap ((k : Int) + 1 + ((r.x.length : Int) + m + 1)) = (k : Int) + 1 + ((r.x.length : Int) + m + 1) := wrap_id (by omega) (by omega)
   by_cases hN : k + 1 + (r.x.length + m + 1) ≤ ws.length
   ·rw [if_pos hN]
    have hN' : ((ws.length : Int) < (k : Int) + 1 + ((r.x.length : Int) + m + 1)) = False := eq_false (by omega)
    have L1 := rf_idx (ws := ws) (n := (k : Int)) (l := w / 65536 % 256) (r := r) hu hs (by omega) r.x.length 0 (k + 1) (rdJ k w) (by omega) (by omega) (by simp [rdJ]; omega)
    rw [<- hr1] at L1
    have x1 : (rr1 ws (k : Int) w).x.length ≤ 2 := by rw [hr1]; simp [rdJ]; omega
    have c1 : (rr1 ws (k : Int) w).c = w / 16777216 := rfl
    have l1 : (rr1 ws (k : Int) w).l = [] := rfl
    clear hr1
    generalize rr1 ws (k : Int) w = i1 at *
    have hcc1 : (r.c == 7 && i1.c == 1) = true := by rw [c1]; exact hcc
    have hg2 := getD_row (f := AV.int .u32) (l := ws) (k := k + 1 + r.x.length) (by omega)
    have hu2 := u32r_getD hu (k + 1 + r.x.length)
    have hw2 : IntKind.i64.wrap (ws.getD (k + 1 + r.x.length) 0) = ws.getD (k + 1 + r.x.length) 0 := wrap_id (by have := hu2.1; omega) (by have := hu2.2; omega)
    have e2 : ((k : Int) + 1 + r.x.length).toNat = k + 1 + r.x.length := by omega
    have b2 : ((k : Int) + 1 + r.x.length < ws.length) = True := eq_true (by omega)
    have b3 : (0 ≤ (k : Int) + 1 + r.x.length) = True := eq_true (by omega)
    have w2 : IntKind.i64.wrap ((k : Int) + 1 + r.x.length + 1) = (k : Int) + 1 + r.x.length + 1 := wrap_id (by omega) (by omega)
    generalize ws.getD (k + 1 + r.x.length) 0 = ra at *
    have L2 := rf_lst (ws := ws) (n := (k : Int)) (l := w / 65536 % 256) hu hs (by omega) m (k + 1 + r.x.length + 1) 0 { i1 with ra := ra } (by omega) (by omega) (by omega) (by omega) (by omega) (by omega) (by simp [l1])
    have K2 := rdC_kept m (ws.drop (k + 1 + r.x.length + 1)) 0 (w / 65536 % 256) { i1 with ra := ra }
    simp only [rfV, rfH, insL, shA, iR, rdJ, insZL, Int.natCast_add, Int.cast_ofNat_Int, List.length_nil, List.map_nil] at L1
    cases ho : rdC m (ws.drop (k + 1 + r.x.length + 1)) 0 (w / 65536 % 256) { i1 with ra := ra } with
    | none =>
     rw [ho] at L2
     obtain ⟨p3, p4, i3, L2⟩ := L2
     simp only [ryV, ryH, insL, iR, insZL, Int.natCast_add, Int.cast_ofNat_Int] at L2
     rw [e18]
     simp (maxSteps := 100000000) only [ivc, rgb, anf, vop, vlen, vbuiltin, nilR, salloc, eq_self, Nat.reduceEqDiff, Nat.reduceLT, Nat.reduceLeDiff, Nat.reduceAdd, Nat.reduceBEq, Int.reduceEq, Int.reduceNeg, reduceCtorEq, ne_eq, ↓reduceIte, tyb, q, q', q2, q3, hg, up, sh, insA, insZ, hw1, hl5, hcc, wN, wb3, td, wm, wX, wX1, hN', L1, hcc1, L2, hg2, hw2, e2, b2, b3, w2]
    | some i3 =>
     rw [ho] at L2
     have k3 := K2 i3 ho
     have W := rwords_ev (i := { i3 with n := 1 + (((r.x.length + m + 1) : Nat) : Int) }) (show i3.x.length ≤ 100 by rw [k3.1]; exact Nat.le_trans x1 (by omega)) (show i3.l.length ≤ 1000 by have h3 : i3.l.length ≤ i1.l.length + 4 * m := k3.2; have h4 : i1.l.length = 0 := (by rw [l1]; rfl); omega)
     rw [words_eq] at W
     have wn : IntKind.i64.wrap ((k : Int) + 1 + r.x.length + 1 + m - (k : Int)) = 1 + (((r.x.length + m + 1) : Nat) : Int) := by rw [wrap_id (by omega) (by omega)]; omega
     simp only
     generalize wordsM { i3 with n := 1 + (((r.x.length + m + 1) : Nat) : Int) } = m3 at *
     obtain ⟨er3, w3⟩ := m3
     simp only [wordsV, insA] at W
     simp only [Int.natCast_add, Int.cast_ofNat_Int] at W wn ⊢
     simp only [ryR, ryV, ryH, insL, iR, insZL, Int.natCast_add, Int.cast_ofNat_Int] at L2
     by_cases he : er3 = 0
     ·subst he
      rw [e18]
      simp (maxSteps := 100000000) only [ivc, rgb, anf, vop, vlen, vbuiltin, nilR, salloc, eq_self, Nat.reduceEqDiff, Nat.reduceLT, Nat.reduceLeDiff, Nat.reduceAdd, Nat.reduceBEq, Int.reduceEq, Int.reduceNeg, reduceCtorEq, ne_eq, ↓reduceIte, tyb, q, q', q2, q3, hg, up, sh, insA, hw1, hl5, hcc, wN, wb3, td, wm, wX, wX1, hN', L1, hcc1, L2, hg2, hw2, e2, b2, b3, w2, wn, W]
     ·have he' : (er3 != 0) = true := by simp [he]
      rw [e18]
      simp (maxSteps := 100000000) only [ivc, rgb, anf, vop, vlen, vbuiltin, nilR, salloc, eq_self, Nat.reduceEqDiff, Nat.reduceLT, Nat.reduceLeDiff, Nat.reduceAdd, Nat.reduceBEq, Int.reduceEq, Int.reduceNeg, reduceCtorEq, ne_eq, ↓reduceIte, tyb, q, q', q2, q3, hg, up, sh, insA, insZ, hw1, hl5, hcc, wN, wb3, td, wm, wX, wX1, hN', L1, hcc1, L2, hg2, hw2, e2, b2, b3, w2, wn, W, he, he']
   ·rw [if_neg hN]
    have hN' : ((ws.length : Int) < (k : Int) + 1 + ((r.x.length : Int) + m + 1)) = True := eq_true (by omega)
    rw [e18]
    simp (maxSteps := 100000000) only [ivc, rgb, anf, vop, vlen, vbuiltin, nilR, salloc, eq_self, Nat.reduceEqDiff, Nat.reduceLT, Nat.reduceLeDiff, Nat.reduceAdd, Nat.reduceBEq, Int.reduceEq, Int.reduceNeg, reduceCtorEq, ne_eq, ↓reduceIte, tyb, q, q', q2, q3, hg, up, sh, insA, insZ, hw1, hl5, hcc, wN, wb3, td, wm, wX, wX1, hN']
theorem rread_ev {ws : List Int} {n : Int} (hs : ws.length ≤ 90000) (hu : ∀ x ∈ ws, u32r x) : E.F 18 [.ro 1 (ws.map (.int .u32)), .int .i64 n] [] = some ((readV (rreadM ws n), []), True) := by
 by_cases h : n < 0 \/ (ws.length : Int) ≤ n
 ·exact rread_bad h
 ·exact rread_all (by omega) (by omega) hs hu
theorem eq64_loop {a b : List Int} (hl : a.length = b.length) (hs : a.length ≤ 1000000) : ∀ (r r' m m' : List Int), a = m ++ r -> b = m' ++ r' -> m.length = m'.length ->
  ∃ k, E.L 24 5 [.ro 1 (a.map (.int .i64)), .ro 1 (b.map (.int .i64)), .bool false, .int .i64 a.length, .int .i64 m.length] [] = some ((if r = r' then .exit 0 else .ret, [.ro 1 (a.map (.int .i64)), .ro 1 (b.map (.int .i64)), .bool false, .int .i64 a.length, .int .i64 k], []), True) := by
 intro r
 induction r with
 | nil =>
  intro r' m m' h h' hm
  have q : ((m.length : Int) < a.length) = False := eq_false (by rw [h]; simp)
  have : r' = [] := by
   have := congrArg List.length h'; rw [h] at hl; simp at hl this; exact List.eq_nil_of_length_eq_zero (by omega)
  subst this
  refine ⟨m.length, ?_⟩
  rw [l24_5]
  simp (maxSteps := 100000000) only [ivc, rgb, anf, nilR, eq_self, Nat.reduceEqDiff, Nat.reduceLT, Nat.reduceAdd, Nat.reduceBEq, reduceCtorEq, ↓reduceIte, tyb, q]
 | cons y r ih => 
  intro r' m m' h h' hm
  have hp : 0 < r'.length := by
   have := congrArg List.length h'; rw [h] at hl; simp at hl this; omega
  obtain ⟨z, r', rfl⟩ := List.exists_cons_of_length_pos hp
  have hi' : ((m.length : Int) < a.length) = True := eq_true (by rw [h]; simp; omega)
  have hib : ((m.length : Int) < b.length) = True := eq_true (by rw [<- hl]; exact of_eq_true hi')
  have hw1 : IntKind.i64.wrap ((m.length : Int) + 1) = m.length + 1 := wrap_id (by omega) (by rw [h] at hs; simp at hs; omega)
  have hg := getD_map (f := AV.int .i64) (show a[m.length]? = some y by rw [h]; simp)
  have hg' := getD_map (f := AV.int .i64) (show b[m.length]? = some z by rw [h', hm]; simp)
  by_cases e : y = z
  ·subst e
   obtain ⟨k, ih⟩ := ih r' (m ++ [y]) (m' ++ [y]) (by rw [h]; simp) (by rw [h']; simp) (by simp [hm])
   refine ⟨k, ?_⟩
   simp only [List.length_append, List.length_cons, List.length_nil, Int.natCast_add, Int.cast_ofNat_Int, Nat.zero_add] at ih
   rw [l24_5]
   simp (maxSteps := 100000000) only [ivc, rgb, anf, nilR, eq_self, Nat.reduceEqDiff, Nat.reduceLT, Nat.reduceAdd, Nat.reduceBEq, reduceCtorEq, ↓reduceIte, tyb, hi', hib, hw1, hg, hg', ih]
   simp
  ·refine ⟨m.length, ?_⟩
   have hb : (y != z) = true := by simp [e]
   rw [l24_5]
   simp (maxSteps := 100000000) only [ivc, rgb, anf, nilR, eq_self, Nat.reduceEqDiff, Nat.reduceLT, Nat.reduceAdd, Nat.reduceBEq, reduceCtorEq, ↓reduceIte, tyb, hi', hib, hg, hg', hb]
   simp [e]
theorem eq64_ev {a b : List Int} (hs : a.length ≤ 1000000) : E.F 24 [.ro 1 (a.map (.int .i64)), .ro 1 (b.map (.int .i64))] [] = some ((.bool (decide (a = b)), []), True) := by
 by_cases hl : a.length = b.length
 ·obtain ⟨k, L⟩ := eq64_loop hl hs a b [] [] rfl rfl rfl
  have hl' : ((a.length : Int) != b.length) = false := by simp [hl]
  simp only [List.length_nil, Int.natCast_zero] at L
  rw [e24]
  by_cases e : a = b
  ·simp only [e, if_true] at L
   simp (maxSteps := 100000000) only [ivc, rgb, anf, vlen, vbuiltin, nilR, eq_self, Nat.reduceEqDiff, Nat.reduceLT, Nat.reduceLeDiff, Nat.reduceAdd, Nat.reduceBEq, reduceCtorEq, ↓reduceIte, tyb, L, e]
  ·simp only [e, if_false] at L
   simp (maxSteps := 100000000) only [ivc, rgb, anf, vlen, vbuiltin, nilR, eq_self, Nat.reduceEqDiff, Nat.reduceLT, Nat.reduceLeDiff, Nat.reduceAdd, Nat.reduceBEq, reduceCtorEq, ↓reduceIte, tyb, L, hl', e]
 ·have hl' : ((a.length : Int) != b.length) = true := by simp; omega
  have e : a ≠ b := fun h => hl (by rw [h])
  rw [e24]
  simp (maxSteps := 100000000) only [ivc, rgb, anf, vlen, vbuiltin, nilR, eq_self, Nat.reduceEqDiff, Nat.reduceLT, Nat.reduceLeDiff, Nat.reduceAdd, Nat.reduceBEq, reduceCtorEq, ↓reduceIte, tyb, hl', e]
def inssW (i j : Ins) : Bool := (i.at_ == j.at_) && (i.op == j.op) && (i.a == j.a) && (i.b == j.b) && (i.c == j.c) && (i.ra == j.ra) && (i.n == j.n) && decide (i.x = j.x) && decide (i.l = j.l)
theorem inss_ev {i j : Ins} (hx : i.x.length ≤ 1000000) (hl : i.l.length ≤ 1000000) : E.F 19 [.agg (insA i), .agg (insA j)] [] = some ((.bool (inssW i j), []), True) := by
 have ex := eq64_ev (a := i.x) (b := j.x) hx
 have el := eq64_ev (a := i.l) (b := j.l) hl
 unfold inssW
 simp only [insA]
 cases h5 : ((((((i.at_ == j.at_) && (i.op == j.op)) && (i.a == j.a)) && (i.b == j.b)) && (i.c == j.c)) && (i.ra == j.ra)) && (i.n == j.n) with
 | false =>
  rw [e19]
  simp (maxSteps := 100000000) only [ivc, rgb, anf, vop, nilR, salloc, eq_self, Nat.reduceEqDiff, Nat.reduceLT, Nat.reduceLeDiff, Nat.reduceAdd, Nat.reduceBEq, reduceCtorEq, ↓reduceIte, tyb, h5]
 | true =>
  cases h6 : decide (i.x = j.x) with
  | false =>
   rw [h6] at ex
   rw [e19]
   simp (maxSteps := 100000000) only [ivc, rgb, anf, vop, nilR, salloc, eq_self, Nat.reduceEqDiff, Nat.reduceLT, Nat.reduceLeDiff, Nat.reduceAdd, Nat.reduceBEq, reduceCtorEq, ↓reduceIte, tyb, h5, ex]
  | true =>
   rw [h6] at ex
   rw [e19]
   simp (maxSteps := 100000000) only [ivc, rgb, anf, vop, nilR, salloc, eq_self, Nat.reduceEqDiff, Nat.reduceLT, Nat.reduceLeDiff, Nat.reduceAdd, Nat.reduceBEq, reduceCtorEq, ↓reduceIte, tyb, h5, ex, el]
theorem readM_n {ws : List Int} {n : Int} (h : (readM ws n).2 = 0) : 1 ≤ (readM ws n).1.n /\ n + (readM ws n).1.n ≤ ws.length /\ 0 ≤ n /\ n < ws.length /\ (readM ws n).1.x.length ≤ 100 /\ (readM ws n).1.l.length ≤ 255 := by
 unfold readM at h ⊢
 split at h
 ·cases h
 ·rename_i h0
  rw [if_neg h0]
  split at h
  ·rename_i h1
   rw [if_pos h1]
   split at h
   ·rename_i h2
    rw [if_pos h2]
    split at h
    ·rename_i h3
     rw [if_pos h3]
     simp only
     unfold rdS
     have hrx := rowW_x (ws.getD n.toNat 0 % 256)
     have K1 := idxS_kept (rowW (ws.getD n.toNat 0 % 256)).x.length true (ws.drop (n.toNat + 1)) (rdI n (ws.getD n.toNat 0))
     change Kept _ _ (rd1 ws n) /\ (rd1 ws n).2.2.x.length = _ /\ (rd1 ws n).2.2.l = _ /\ (rd1 ws n).2.2.ra = _ at K1
     generalize rd1 ws n = s1 at *
     generalize rowW (ws.getD n.toNat 0 % 256) = r at *
     generalize ws.getD n.toNat 0 = w at *
     obtain ⟨K1, x1, l1, a1⟩ := K1
     obtain ⟨k2, hk2, K2, x2, l2⟩ := rd2_kept r s1
     have b1 : s1.2.2.b = w / 65536 % 256 := K1.b
     have b2 : (rd2 r s1).2.2.b = w / 65536 % 256 := by rw [K2.b, b1]
     have hl2 : (rd2 r s1).2.2.l = [] := by rw [l2, l1]; rfl
     obtain ⟨k3, hk3, K3, x3, l3⟩ := rd3_kept r (rd2 r s1) hl2 (by rw [b2]; omega)
     have K13 := (K1.trans K2).trans K3
     have lo3 := K13.lo
     have sm := K13.sum
     have hd0 : (rdI n w).n = 1 := rfl
     have hl0 : (ws.drop (n.toNat + 1)).length = ws.length - (n.toNat + 1) := List.length_drop
     have hx0 : (rdI n w).x.length = 0 := rfl
     simp only [hd0, hl0] at lo3 sm
     refine ⟨lo3, by omega, by omega, by omega, ?_, l3⟩
     rw [x3, x2]; omega
    ·cases h
   ·cases h
  ·cases h
def allM (rd : Int -> Ins × Int) (len : Nat) : Nat -> Int -> List Ins -> List Ins × Int × Int
 | 0, _, acc => (acc, 0, 0)
 | f + 1, p, acc => if p < len then if (rd p).2 = 0 then allM rd len f (p + (rd p).1.n) (acc ++ [(rd p).1]) else ([], p, (rd p).2) else (acc, 0, 0)
def insV (i : Ins) : AV := .agg (insA i)
instance rf_ins : RowF insV := ⟨fun i => by simp [insV, insA, AV.pure, AV.pure.pures], fun i => by rfl⟩
def alV (ws : List Int) (l : List Ins) (a b p : Int) : List AV := [.ro 1 (ws.map (.int .u32)), .sl 60000 0 0, .int .i64 a, .int .i64 b, .sl 60001 0 l.length, .int .i64 p]
def alH (l : List Ins) : HL := [(60000, ⟨false, 9, []⟩), (60001, ⟨false, 9, l.map insV⟩)]
def alR (ws : List Int) (m : List Ins × Int × Int) (x : Option ((Exit × List AV × HL) × Prop)) : Prop :=
 if m.2.2 = 0 then ∃ p, x = some ((.exit 0, alV ws m.1 0 0 p, alH m.1), True) else ∃ p l, x = some ((.ret, alV ws l m.2.1 m.2.2 p, alH l), True)
theorem all_loop {ws : List Int} (hs : ws.length ≤ 90000) (hu : ∀ x ∈ ws, u32r x) : ∀ (f : Nat) (p : Nat) (l : List Ins), ws.length ≤ p + f -> l.length ≤ p -> p ≤ ws.length ->
  alR ws (allM (readM ws) ws.length f p l) (E.L 12 4 (alV ws l 0 0 p) (alH l)) := by
 intro f
 induction f with
 | zero =>
  intro p l h hl hp
  refine ⟨p, ?_⟩
  have q : ((p : Int) < ws.length) = False := eq_false (by omega)
  simp only [allM, alV, alH]
  rw [l12_4]
  simp (maxSteps := 100000000) only [ivc, rgb, anf, vlen, vbuiltin, nilR, eq_self, Nat.reduceEqDiff, Nat.reduceLT, Nat.reduceLeDiff, Nat.reduceAdd, Nat.reduceBEq, reduceCtorEq, ↓reduceIte, tyb, q]
 | succ f ih =>
  intro p l h hl hp
  unfold allM
  by_cases hlt : (p : Int) < ws.length
  ·have hlt' := eq_true hlt
   have R := read_ev (ws := ws) (n := p) hs hu
   have N := readM_n (ws := ws) (n := p)
   simp only [readV] at R
   rw [if_pos hlt]
   generalize readM ws (p : Int) = r at *
   obtain ⟨i, e⟩ := r
   simp only at R N ⊢
   by_cases he : e = 0
   ·subst he
    rw [if_pos rfl]
    obtain ⟨n1, n2, n3, n4, n5, n6⟩ := N rfl
    have hw1 : IntKind.i64.wrap ((p : Int) + i.n) = p + i.n := wrap_id (by omega) (by omega)
    have ih' := ih (p + i.n.toNat) (l ++ [i]) (by omega) (by simp; omega) (by omega)
    have ec : ((p + i.n.toNat : Nat) : Int) = p + i.n := by omega
    rw [ec] at ih'
    have hV : insV i = .agg (insA i) := rfl
    simp only [insA] at R hV
    have e0 : ((0 : Int) != 0) = false := rfl
    generalize allM (readM ws) ws.length f (p + i.n) (l ++ [i]) = m at ih' ⊢
    obtain ⟨ml, mp, me⟩ := m
    unfold alR at ih' ⊢
    by_cases hm : me = 0
    ·rw [if_pos hm] at ih' ⊢
     obtain ⟨p2, ih'⟩ := ih'
     refine ⟨p2, ?_⟩
     simp only [alV, alH, hV, List.map_append, List.map_cons, List.map_nil, List.length_append, List.length_cons, List.length_nil, Nat.zero_add] at ih' ⊢
     rw [l12_4]
     simp (maxSteps := 100000000) only [ivc, rgb, anf, vop, vlen, vbuiltin, nilR, salloc, sappend, eq_self, Nat.reduceEqDiff, Nat.reduceLT, Nat.reduceLeDiff, Nat.reduceAdd, Nat.reduceMul, Nat.reduceBEq, reduceCtorEq, ↓reduceIte, tyb, hlt', R, hw1, ih']
     exact some_true (by omega)
    ·rw [if_neg hm] at ih' ⊢
     obtain ⟨p2, l2, ih'⟩ := ih'
     refine ⟨p2, l2, ?_⟩
     simp only [alV, alH, hV, List.map_append, List.map_cons, List.map_nil, List.length_append, List.length_cons, List.length_nil, Nat.zero_add] at ih' ⊢
     rw [l12_4]
     simp (maxSteps := 100000000) only [ivc, rgb, anf, vop, vlen, vbuiltin, nilR, salloc, sappend, eq_self, Nat.reduceEqDiff, Nat.reduceLT, Nat.reduceLeDiff, Nat.reduceAdd, Nat.reduceMul, Nat.reduceBEq, reduceCtorEq, ↓reduceIte, tyb, hlt', R, hw1, ih']
     exact some_true (by omega)
   ·have he' : (e != 0) = true := by simp [he]
    rw [if_neg he]
    unfold alR
    rw [if_neg he]
    refine ⟨p, l, ?_⟩
    clear ih N
    simp only [alV, alH, insA] at R ⊢
    rw [l12_4]
    simp (maxSteps := 100000000) only [ivc, rgb, anf, vop, vlen, vbuiltin, nilR, salloc, eq_self, Nat.reduceEqDiff, Nat.reduceLT, Nat.reduceLeDiff, Nat.reduceAdd, Nat.reduceBEq, reduceCtorEq, ↓reduceIte, tyb, hlt', R, he']
  ·rw [if_neg hlt]
   have q := eq_false hlt
   refine ⟨p, ?_⟩
   simp only [alV, alH]
   rw [l12_4]
   simp (maxSteps := 100000000) only [ivc, rgb, anf, vlen, vbuiltin, nilR, eq_self, Nat.reduceEqDiff, Nat.reduceLT, Nat.reduceLeDiff, Nat.reduceAdd, Nat.reduceBEq, reduceCtorEq, ↓reduceIte, tyb, q]
theorem allM_err (rd : Int -> Ins × Int) (len : Nat) : ∀ (f : Nat) (p : Int) (l : List Ins), ((allM rd len f p l).2.2 = 0 -> (allM rd len f p l).2.1 = 0) /\ ((allM rd len f p l).2.2 ≠ 0 -> (allM rd len f p l).1 = [])
 | 0, p, l => ⟨fun _ => rfl, fun h => absurd rfl h⟩
 | f + 1, p, l => by
  unfold allM
  split
  ·split
   ·exact allM_err rd len f _ _
   ·rename_i h
    exact ⟨fun h' => absurd h' h, fun _ => rfl⟩
  ·exact ⟨fun _ => rfl, fun h => absurd rfl h⟩
theorem all_ev {ws : List Int} (hs : ws.length ≤ 90000) (hu : ∀ x ∈ ws, u32r x) : E.F 12 [.ro 1 (ws.map (.int .u32))] [] = some ((.tup [.ro 9 ((allM (readM ws) ws.length ws.length 0 []).1.map insV), .int .i64 (allM (readM ws) ws.length ws.length 0 []).2.1, .int .i64 (allM (readM ws) ws.length ws.length 0 []).2.2], []), True) := by
 have L := all_loop hs hu ws.length 0 [] (by omega) (by simp) (by omega)
 simp only [Int.natCast_zero] at L
 have E := allM_err (readM ws) ws.length ws.length 0 []
 generalize allM (readM ws) ws.length ws.length 0 [] = m at L E ⊢
 obtain ⟨ml, mp, me⟩ := m
 simp only at E
 unfold alR at L
 by_cases hm : me = 0
 ·rw [if_pos hm] at L
  obtain ⟨p, L⟩ := L
  obtain rfl := hm
  obtain rfl := E.1 rfl
  simp only [alV, alH, List.length_nil, List.map_nil] at L
  rw [e12]
  simp (maxSteps := 100000000) only [ivc, rgb, anf, eq_self, Nat.reduceEqDiff, Nat.reduceLT, Nat.reduceLeDiff, Nat.reduceAdd, Nat.reduceBEq, reduceCtorEq, ↓reduceIte, L]
 ·rw [if_neg hm] at L
  obtain ⟨p, l2, L⟩ := L
  obtain rfl := E.2 hm
  simp only [alV, alH, List.length_nil, List.map_nil] at L
  rw [e12]
  simp (maxSteps := 100000000) only [ivc, rgb, anf, eq_self, Nat.reduceEqDiff, Nat.reduceLT, Nat.reduceLeDiff, Nat.reduceAdd, Nat.reduceBEq, reduceCtorEq, ↓reduceIte, L]
end Go.Proofs.YtfdipcpmfoidoaaDoor

/- What all rows of this seat share: the table, types of what comes in. -/
namespace Go.Proofs.YtfdipcpmfoidoaaDoor
open Go Go.Aw
set_option maxRecDepth 100000
theorem own : ownKnob Tryd.prog.godebug = none := by kernel_rfl
theorem laidOut : laidOutB Tryd.prog = true := by kernel_rfl
def laidL : List (String × DataW Unit) := [("hackamore/code.table", Rows.laid_hackamore_code_table)]
theorem gT : Tryd.prog.globalNamed "hackamore/code.table" = some 0 := by kernel_rfl
theorem tab_dat : datA (H := Unit) Tryd.prog 10 124 Rows.laid_hackamore_code_table = some tabA := by kernel_rfl
theorem tab_laid {W : World} (h : laidMetH Tryd.prog laidL W) : ∀ g, RV ⟨noμ, oldB W⟩ noH W (G g) (.pointer (some ⟨g, 0, none⟩)) := by
 have h' : laidMet Tryd.prog (("hackamore/code.table", Rows.laid_hackamore_code_table) :: []) W := by
  rw [MakeChecks.laidMetH_plain _ _ _ (by kernel_rfl)] at h
  exact h
 intro g
 by_cases hg : g = 0
 ·subst hg
  exact rop_laid (l := [124, 85, 83, 82, 80, 81, 3, 4]) (by kernel_rfl) (t := 124) gT (by kernel_rfl) (by kernel_rfl) tab_dat (by decide) h'
 ·rw [show G g = .junk from if_neg hg]
  exact .junk _
theorem door_met (os : Os) (args : Array Value) : laidMetH Tryd.prog laidL ((World.doorLaid Tryd.prog 400 os).forCall (fun _ _ => 0) ⟨#[], args, []⟩).memory :=
 laidMetH_of_parts3 (fuel := 8) (laidMet_of_run' 8 (by kernel_rfl) (by kernel_rfl)) (by kernel_rfl) (by kernel_rfl)
def i64r (x : Int) : Prop := -9223372036854775808 ≤ x /\ x ≤ 9223372036854775807
theorem wf64 {x : Int} (h : (Lit.int .i64 x).wf = true) : i64r x := by
 simp only [Lit.wf, Bool.and_eq_true, decide_eq_true_eq] at h
 exact h
theorem wf32 {x : Int} (h : (Lit.int .u32 x).wf = true) : u32r x := by
 simp only [Lit.wf, Bool.and_eq_true, decide_eq_true_eq] at h
 have h1 : 0 ≤ x := h.1
 have h2 : x ≤ 4294967295 := h.2
 exact ⟨h1, by omega⟩
theorem ints_of {n : Nat} {xs : List AV} (h : typed Tryd.prog n 25 xs) : ∃ l : List Int, (∀ x ∈ l, i64r x) /\ xs = [.ro 1 (l.map (AV.int .i64))] := by
 obtain ⟨m, es, hl, hb, he, rfl⟩ := typed_slice Tryd.underlying25 h
 obtain ⟨l, h1, rfl⟩ := list_map_of (f := AV.int .i64) (Q := fun x => i64r x) (es := es) fun y hy => by
  obtain ⟨k, hk, e⟩ := typed_int Tryd.underlying3 (he y hy).1
  have h2 := (he y hy).2
  simp only [isE, Tryd.underlying3] at h2
  rw [h2] at e
  exact ⟨k, wf64 hk, by simpa using e⟩
 exact ⟨l, h1, rfl⟩
theorem words_of {n : Nat} {xs : List AV} (h : typed Tryd.prog n 24 xs) : ∃ l : List Int, (∀ x ∈ l, u32r x) /\ xs = [.ro 1 (l.map (AV.int .u32))] := by
 obtain ⟨m, es, hl, hb, he, rfl⟩ := typed_slice Tryd.underlying24 h
 obtain ⟨l, h1, rfl⟩ := list_map_of (f := AV.int .u32) (Q := fun x => u32r x) (es := es) fun y hy => by
  obtain ⟨k, hk, e⟩ := typed_int Tryd.underlying35 (he y hy).1
  have h2 := (he y hy).2
  simp only [isE, Tryd.underlying35] at h2
  rw [h2] at e
  exact ⟨k, wf32 hk, by simpa using e⟩
 exact ⟨l, h1, rfl⟩
theorem int_of {n : Nat} {xs : List AV} (h : typed Tryd.prog n 3 xs) : ∃ x, i64r x /\ xs = [.int .i64 x] := by
 obtain ⟨k, hk, e⟩ := typed_int Tryd.underlying3 h
 exact ⟨k, wf64 hk, e⟩
def inpI (i : Ins) : Prop := i64r i.at_ /\ i64r i.op /\ i64r i.a /\ i64r i.b /\ i64r i.c /\ (∀ x ∈ i.x, i64r x) /\ i64r i.ra /\ (∀ x ∈ i.l, i64r x) /\ i64r i.n
theorem ins_of {n : Nat} {xs : List AV} (h : typed Tryd.prog n 27 xs) : ∃ i : Ins, inpI i /\ xs = insA i := by
 obtain ⟨m, y0, r0, rfl, h0, y1, r1, rfl, h1, y2, r2, rfl, h2, y3, r3, rfl, h3, y4, r4, rfl, h4, y5, r5, rfl, h5, y6, r6, rfl, h6, y7, r7, rfl, h7, y8, r8, rfl, h8, rfl⟩ := typed_struct Tryd.underlying27 h rfl
 obtain ⟨a0, w0, rfl⟩ := int_of h0
 obtain ⟨a1, w1, rfl⟩ := int_of h1
 obtain ⟨a2, w2, rfl⟩ := int_of h2
 obtain ⟨a3, w3, rfl⟩ := int_of h3
 obtain ⟨a4, w4, rfl⟩ := int_of h4
 obtain ⟨a5, w5, rfl⟩ := ints_of h5
 obtain ⟨a6, w6, rfl⟩ := int_of h6
 obtain ⟨a7, w7, rfl⟩ := ints_of h7
 obtain ⟨a8, w8, rfl⟩ := int_of h8
 exact ⟨⟨a0, a1, a2, a3, a4, a5, a6, a7, a8⟩, ⟨w0, w1, w2, w3, w4, w5, w6, w7, w8⟩, rfl⟩
end Go.Proofs.YtfdipcpmfoidoaaDoor

/- Read is the reference's. -/
namespace Go.Proofs.YtfdipcpmfoidoaaDoor
open Go Go.Aw
set_option linter.unusedSimpArgs false
set_option linter.unusedVariables false
set_option maxRecDepth 100000
set_option maxHeartbeats 4000000
theorem unp_pack {w : Int} (h : u32r w) : packN (w % 256) (w / 256 % 256) (w / 65536 % 256) (w / 16777216) = w := by
 obtain ⟨h0, h1⟩ := h
 unfold packN
 omega
def bytesL : Nat -> Nat -> List Int -> List Int
 | 0, _, _ => []
 | m + 1, c, rest => (unp (rest.headD 0)).take c ++ bytesL m (c - 4) rest.tail
def padOk : Nat -> Nat -> List Int -> Bool
 | 0, _, _ => true
 | m + 1, c, rest => ((unp (rest.headD 0)).drop c).all (· == 0) && padOk m (c - 4) rest.tail
theorem idxS_all : ∀ (k : Nat) (ok : Bool) (rest : List Int) (i : Ins), k ≤ rest.length -> idxS k ok rest i = (ok, rest.drop k, { i with x := i.x ++ rest.take k, n := i.n + k })
 | 0, ok, rest, i, h => by simp [idxS]
 | k + 1, ok, [], i, h => by simp at h
 | k + 1, ok, a :: rest, i, h => by
  simp only [List.length_cons] at h
  simp only [idxS, tkI, List.isEmpty_cons, List.tail_cons, List.headD_cons, Bool.not_false, Bool.and_true]
  rw [idxS_all k ok rest _ (by omega)]
  simp
  omega
theorem idxS_few : ∀ (k : Nat) (ok : Bool) (rest : List Int) (i : Ins), rest.length < k -> (idxS k ok rest i).1 = false
 | 0, ok, rest, i, h => by omega
 | k + 1, ok, [], i, h => by
  simp only [idxS, List.isEmpty_nil, Bool.not_true, Bool.and_false, List.tail_nil]
  exact idxS_no k _ _
 | k + 1, ok, a :: rest, i, h => by
  simp only [List.length_cons] at h
  simp only [idxS]
  exact idxS_few k _ _ _ (by simp; omega)
where
 idxS_no : ∀ (k : Nat) (rest : List Int) (i : Ins), (idxS k false rest i).1 = false
  | 0, rest, i => rfl
  | k + 1, rest, i => by simp only [idxS, Bool.false_and]; exact idxS_no k _ _
theorem lstS_all : ∀ (m c : Nat) (ok : Bool) (rest : List Int) (i : Ins), m ≤ rest.length -> lstS m c ok rest i = (ok, rest.drop m, { i with l := i.l ++ bytesL m c rest, n := i.n + m })
 | 0, c, ok, rest, i, h => by simp [lstS, bytesL]
 | m + 1, c, ok, [], i, h => by simp at h
 | m + 1, c, ok, a :: rest, i, h => by
  simp only [List.length_cons] at h
  simp only [lstS, tkI, List.isEmpty_cons, List.tail_cons, List.headD_cons, Bool.not_false, Bool.and_true]
  rw [lstS_all m (c - 4) ok rest _ (by omega)]
  simp [bytesL]
  omega
theorem lstS_no : ∀ (m c : Nat) (rest : List Int) (i : Ins), (lstS m c false rest i).1 = false
 | 0, c, rest, i => rfl
 | m + 1, c, rest, i => by simp only [lstS, Bool.false_and]; exact lstS_no m _ _ _
theorem lstS_few : ∀ (m c : Nat) (ok : Bool) (rest : List Int) (i : Ins), rest.length < m -> (lstS m c ok rest i).1 = false
 | 0, c, ok, rest, i, h => by omega
 | m + 1, c, ok, [], i, h => by
  simp only [lstS, List.isEmpty_nil, Bool.not_true, Bool.and_false, List.tail_nil]
  exact lstS_no m _ _ _
 | m + 1, c, ok, a :: rest, i, h => by
  simp only [List.length_cons] at h
  simp only [lstS]
  exact lstS_few m _ _ _ _ (by simp; omega)
theorem rdB_eq : ∀ (bs : List Int) (p : Int) (c : Nat) (i : Ins), rdB bs p (p + c) i = if (bs.drop c).all (· == 0) = true then some { i with l := i.l ++ bs.take c } else none
 | [], p, c, i => by simp [rdB]
 | b :: bs, p, 0, i => by
  unfold rdB
  rw [if_neg (by omega)]
  have ih := rdB_eq bs (p + 1) 0 i
  have e : rdB bs (p + 1) (p + ((0 : Nat) : Int)) i = rdB bs (p + 1) (p + 1 + ((0 : Nat) : Int)) i := rdB_zero bs _ _ _ i (by omega) (by omega)
  rw [e, ih]
  by_cases h : b = 0 <;> simp [h]
 | b :: bs, p, c + 1, i => by
  unfold rdB
  rw [if_pos (by omega)]
  have ih := rdB_eq bs (p + 1) c { i with l := i.l ++ [b] }
  rw [show p + ((c + 1 : Nat) : Int) = p + 1 + (c : Int) by omega, ih]
  simp
where
 rdB_zero : ∀ (bs : List Int) (p l l' : Int) (i : Ins), l ≤ p -> l' ≤ p -> rdB bs p l i = rdB bs p l' i
  | [], p, l, l', i, h, h' => rfl
  | b :: bs, p, l, l', i, h, h' => by
   simp only [rdB]
   rw [if_neg (show ¬ p < l by omega), if_neg (show ¬ p < l' by omega), rdB_zero bs (p + 1) l l' i (by omega) (by omega)]
theorem rdC_eq : ∀ (m c : Nat) (rest : List Int) (p : Int) (i : Ins), (c + 3) / 4 = m -> rdC m rest p (p + c) i = if padOk m c rest = true then some { i with l := i.l ++ bytesL m c rest } else none
 | 0, c, rest, p, i, h => by simp [rdC, padOk, bytesL]
 | m + 1, c, rest, p, i, h => by
  unfold rdC padOk bytesL
  rw [rdB_eq]
  cases hb : ((unp (rest.headD 0)).drop c).all (· == 0) with
  | false => simp
  | true =>
   rw [if_pos rfl]
   simp only [Bool.true_and]
   by_cases h4 : 4 ≤ c
   ·rw [show p + (c : Int) = p + 4 + ((c - 4 : Nat) : Int) by omega, rdC_eq m (c - 4) rest.tail (p + 4) _ (by omega)]
    simp
   ·obtain rfl : m = 0 := by omega
    simp [rdC, padOk, bytesL]
theorem chL_app {a b : List Int} (h : a.length = 4) : chL (a ++ b) = a :: chL b := by
 unfold chL
 have e : ((a ++ b).length + 3) / 4 = (b.length + 3) / 4 + 1 := by simp; omega
 rw [e, List.range_succ_eq_map]
 simp only [List.map_cons, List.map_map, Nat.mul_zero, List.drop_zero]
 congr 1
 ·rw [List.take_left' h]
 ·refine List.map_congr_left fun j _ => ?_
  simp only [Function.comp]
  rw [show 4 * (j + 1) = a.length + 4 * j by omega, List.drop_append, List.drop_of_length_le (show a.length ≤ a.length + 4 * j by omega)]
  simp
theorem chL_one {a : List Int} (h : 1 ≤ a.length) (h4 : a.length ≤ 4) : chL a = [a] := by
 unfold chL
 rw [show (a.length + 3) / 4 = 1 by omega]
 simp [List.take_of_length_le h4]
theorem cw_eq {w : Int} (h : u32r w) {c : Nat} (hc : 1 ≤ c) : (cw ((unp w).take c) = w) ↔ ((unp w).drop c).all (· == 0) = true := by
 obtain ⟨h0, h1⟩ := h
 match c, hc with
 | 1, _ => simp [cw, pad4, unp, packN]; omega
 | 2, _ => simp [cw, pad4, unp, packN]; omega
 | 3, _ => simp [cw, pad4, unp, packN]; omega
 | c + 4, _ => simp [cw, pad4, unp, packN]; omega
theorem bytes_words : ∀ (m c : Nat) (rest : List Int), (c + 3) / 4 = m -> m ≤ rest.length -> (∀ x ∈ rest, u32r x) -> (((chL (bytesL m c rest)).map cw = rest.take m) ↔ padOk m c rest = true)
 | 0, c, rest, h, hr, hu => by simp [bytesL, padOk, chL_nil]
 | m + 1, c, [], h, hr, hu => by simp at hr
 | m + 1, c, w :: rest, h, hr, hu => by
  simp only [List.length_cons] at hr
  have hw : u32r w := hu w (by simp)
  simp only [bytesL, padOk, List.headD_cons, List.tail_cons, Bool.and_eq_true]
  rw [<- cw_eq hw (show 1 ≤ c by omega)]
  by_cases h4 : 4 ≤ c
  ·have e : ((unp w).take c).length = 4 := by simp [unp]; omega
   have ih := bytes_words m (c - 4) rest (by omega) (by omega) (fun x hx => hu x (by simp [hx]))
   rw [chL_app e, List.map_cons, List.take_succ_cons, List.cons.injEq, ih]
  ·obtain rfl : m = 0 := by omega
   have e : 1 ≤ ((unp w).take c).length /\ ((unp w).take c).length ≤ 4 := by simp [unp]; omega
   simp only [bytesL, padOk, List.append_nil]
   rw [chL_one e.1 e.2]
   simp
theorem headD_drop {l : List Int} {k : Nat} : (l.drop k).headD 0 = l.getD k 0 := by
 rw [List.headD_eq_head?_getD, List.head?_drop, List.getD_eq_getElem?_getD]
theorem rd2_no {r : OpRow} {s : RS} (h : s.1 = false) : (rd2 r s).1 = false := by
 unfold rd2
 split
 ·simp [h]
 ·exact h
theorem rd3_no {r : OpRow} {s : RS} (h : s.1 = false) : (rd3 r s).1 = false := by
 unfold rd3
 split
 ·rw [h]; exact lstS_no _ _ _ _
 ·exact h
theorem rr_few {ws : List Int} {n : Int} (h0 : 0 ≤ n) (hn : n < ws.length) {r : OpRow} {s : Shp} (hr : rowW (ws.getD n.toNat 0 % 256) = r) (hs : shW (ws.getD n.toNat 0 % 256) = s) (e1 : r.x.length = s.x.length) (e2 : r.li = (s.b == 5)) (e7 : (r.c == 7) = (s.c == 7)) :
  (n.toNat + 1 + rrN (ws.getD n.toNat 0) ≤ ws.length -> rdS ws n = (true, ws.drop (n.toNat + 1 + rrN (ws.getD n.toNat 0)), rr4 (ws.getD n.toNat 0) { rr2 ws n (ws.getD n.toNat 0) with l := bytesL (rrm (ws.getD n.toNat 0)) (rrl (ws.getD n.toNat 0)).toNat (ws.drop (rrP n (ws.getD n.toNat 0))) })) /\ (¬ n.toNat + 1 + rrN (ws.getD n.toNat 0) ≤ ws.length -> (rdS ws n).1 = false) := by
 unfold rdS rd1 rr4 rr2 rrN rrP rrm rrl rrf rr1 rrX
 rw [hr, hs, <- e7, <- e2, <- e1]
 clear hr hs e1 e2 e7 s
 generalize ws.getD n.toNat 0 = w
 have hl : (ws.drop (n.toNat + 1)).length = ws.length - (n.toNat + 1) := List.length_drop
 constructor
 ·intro h
  rw [idxS_all _ _ _ _ (by rw [hl]; omega)]
  unfold rd2
  simp only [rdI, rdJ, List.nil_append, List.drop_drop] at h ⊢
  cases hf : r.c == 7 && w / 16777216 == 1 with
  | false =>
   simp only [hf, Bool.false_eq_true, if_false, Nat.add_zero] at h ⊢
   unfold rd3
   cases hli : r.li with
   | false => simp [hli, bytesL]
   | true =>
    simp only [hli, if_true] at h ⊢
    rw [lstS_all _ _ _ _ _ (by simp; omega)]
    simp [List.drop_drop, Nat.add_assoc]
    omega
  | true =>
   simp only [hf, if_true] at h ⊢
   have he : (ws.drop (n.toNat + 1 + r.x.length)).isEmpty = false := by
    rw [List.isEmpty_eq_false_iff, ne_eq, <- List.length_eq_zero_iff, List.length_drop]
    omega
   rw [headD_drop, List.tail_drop]
   simp only [tkI, he, Bool.not_false, Bool.and_true, Bool.false_eq_true, if_false]
   unfold rd3
   cases hli : r.li with
   | false => simp [hli, bytesL]; omega
   | true =>
    simp only [hli, if_true] at h ⊢
    rw [lstS_all _ _ _ _ _ (by simp; omega)]
    simp [List.drop_drop, Nat.add_assoc]
    omega
 ·intro h
  by_cases hX : r.x.length ≤ (ws.drop (n.toNat + 1)).length
  ·rw [idxS_all _ _ _ _ hX]
   unfold rd2
   rw [hl] at hX
   simp only [rdI, List.nil_append, List.drop_drop] at h ⊢
   cases hf : r.c == 7 && w / 16777216 == 1 with
   | false =>
    simp only [hf, Bool.false_eq_true, if_false, Nat.add_zero] at h ⊢
    unfold rd3
    cases hli : r.li with
    | false => simp [hli] at h; omega
    | true =>
     simp only [hli, if_true] at h ⊢
     exact lstS_few _ _ _ _ _ (by simp; omega)
   | true =>
    simp only [hf, if_true] at h ⊢
    by_cases hX1 : n.toNat + 1 + r.x.length < ws.length
    ·rw [List.tail_drop]
     unfold rd3
     cases hli : r.li with
     | false => simp [hli] at h; omega
     | true =>
      simp only [hli, if_true, tkI] at h ⊢
      exact lstS_few _ _ _ _ _ (by simp; omega)
    ·have he : (ws.drop (n.toNat + 1 + r.x.length)).isEmpty = true := by
      rw [List.isEmpty_iff_length_eq_zero, List.length_drop]
      omega
     exact rd3_no (by simp [he])
  ·exact rd3_no (rd2_no (idxS_few r.x.length true (ws.drop (n.toNat + 1)) _ (by omega)))
theorem wordsM_ok {i : Ins} (h : (wordsM i).1 = 0) : (wordsM i).2 = packN i.op i.a i.b i.c :: (xsOf i ++ (chL i.l).map cw) := by
 unfold wordsM at h ⊢
 split at h
 ·rename_i h1
  rw [if_pos h1]
  split at h
  ·rename_i h2
   rw [if_pos h2]
   split at h
   ·rename_i h3
    rw [if_pos h3]
    split at h
    ·rename_i h4
     rw [if_pos h4]
    ·cases h
   ·cases h
  ·cases h
 ·cases h
theorem read_eq {ws : List Int} {n : Int} (hu : ∀ x ∈ ws, u32r x) : rreadM ws n = readM ws n := by
 unfold rreadM readM
 split
 ·rfl
 rename_i hn
 cases hop : opIn (ws.getD n.toNat 0 % 256) with
 | false => simp
 | true =>
  rw [if_pos rfl, if_pos rfl]
  have al := op_alike hop
  unfold alike at al
  simp only [Bool.and_eq_true, beq_iff_eq] at al
  obtain ⟨⟨⟨⟨⟨⟨e1, e2⟩, e3⟩, e4⟩, e5⟩, e6⟩, e7⟩ := al
  obtain ⟨f1, f2⟩ := rr_few (ws := ws) (n := n) (by omega) (by omega) rfl rfl e1 e2 e7
  have hw := u32r_getD hu n.toNat
  by_cases hN : n.toNat + 1 + rrN (ws.getD n.toNat 0) ≤ ws.length
  ·rw [if_pos hN, f1 hN, if_pos rfl]
   clear f1 f2
   have em : rrm (ws.getD n.toNat 0) = ((rrl (ws.getD n.toNat 0)).toNat + 3) / 4 := rfl
   have hl0 : 0 ≤ rrl (ws.getD n.toNat 0) := by unfold rrl; split <;> omega
   have C := rdC_eq (rrm (ws.getD n.toNat 0)) (rrl (ws.getD n.toNat 0)).toNat (ws.drop (rrP n (ws.getD n.toNat 0))) 0 (rr2 ws n (ws.getD n.toNat 0)) em.symm
   rw [show (0 : Int) + ((rrl (ws.getD n.toNat 0)).toNat : Int) = rrl (ws.getD n.toNat 0) by omega] at C
   unfold rr3
   rw [C]
   have eN : rrP n (ws.getD n.toNat 0) + rrm (ws.getD n.toNat 0) = n.toNat + 1 + rrN (ws.getD n.toNat 0) := by unfold rrP rrN; omega
   have B := bytes_words (rrm (ws.getD n.toNat 0)) (rrl (ws.getD n.toNat 0)).toNat (ws.drop (rrP n (ws.getD n.toNat 0))) em.symm (by rw [List.length_drop]; omega) (fun x hx => hu x (List.mem_of_mem_drop hx))
   have el : (rr2 ws n (ws.getD n.toNat 0)).l = [] := by unfold rr2; split <;> rfl
   rw [el, List.nil_append]
   have key : (wordsM (rr4 (ws.getD n.toNat 0) { rr2 ws n (ws.getD n.toNat 0) with l := bytesL (rrm (ws.getD n.toNat 0)) (rrl (ws.getD n.toNat 0)).toNat (ws.drop (rrP n (ws.getD n.toNat 0))) })).1 = 0 ->
     ((wordsM (rr4 (ws.getD n.toNat 0) { rr2 ws n (ws.getD n.toNat 0) with l := bytesL (rrm (ws.getD n.toNat 0)) (rrl (ws.getD n.toNat 0)).toNat (ws.drop (rrP n (ws.getD n.toNat 0))) })).2 = (ws.drop n.toNat).take (1 + rrN (ws.getD n.toNat 0)) ↔ padOk (rrm (ws.getD n.toNat 0)) (rrl (ws.getD n.toNat 0)).toNat (ws.drop (rrP n (ws.getD n.toNat 0))) = true) := by
    intro h
    rw [wordsM_ok h, <- B]
    have hx : xsOf (rr4 (ws.getD n.toNat 0) { rr2 ws n (ws.getD n.toNat 0) with l := bytesL (rrm (ws.getD n.toNat 0)) (rrl (ws.getD n.toNat 0)).toNat (ws.drop (rrP n (ws.getD n.toNat 0))) }) = (ws.drop (n.toNat + 1)).take (rrX (ws.getD n.toNat 0) + (if rrf (ws.getD n.toNat 0) = true then 1 else 0)) := by
     unfold xsOf rr4 rr2 rr1
     unfold rrN at hN
     unfold rrX rrf at hN ⊢
     rw [<- e1, <- e7] at hN ⊢
     cases hf : (rowW (ws.getD n.toNat 0 % 256)).c == 7 && ws.getD n.toNat 0 / 16777216 == 1 with
     | false =>
      have hf' : ((rowW (rdJ n (ws.getD n.toNat 0)).op).c == 7 && (rdJ n (ws.getD n.toNat 0)).c == 1) = false := hf
      simp only [hf', Bool.false_eq_true, if_false, List.append_nil, Nat.add_zero]
     | true =>
      have hf' : ((rowW (rdJ n (ws.getD n.toNat 0)).op).c == 7 && (rdJ n (ws.getD n.toNat 0)).c == 1) = true := hf
      rw [hf] at hN
      simp only [hf', if_true] at hN ⊢
      rw [List.take_add, List.drop_drop, getD_cons_drop (l := ws) (k := n.toNat + 1 + _) (by omega)]
      simp
    have hp : (rr4 (ws.getD n.toNat 0) { rr2 ws n (ws.getD n.toNat 0) with l := bytesL (rrm (ws.getD n.toNat 0)) (rrl (ws.getD n.toNat 0)).toNat (ws.drop (rrP n (ws.getD n.toNat 0))) }).op = ws.getD n.toNat 0 % 256 /\ (rr4 (ws.getD n.toNat 0) { rr2 ws n (ws.getD n.toNat 0) with l := bytesL (rrm (ws.getD n.toNat 0)) (rrl (ws.getD n.toNat 0)).toNat (ws.drop (rrP n (ws.getD n.toNat 0))) }).a = ws.getD n.toNat 0 / 256 % 256 /\ (rr4 (ws.getD n.toNat 0) { rr2 ws n (ws.getD n.toNat 0) with l := bytesL (rrm (ws.getD n.toNat 0)) (rrl (ws.getD n.toNat 0)).toNat (ws.drop (rrP n (ws.getD n.toNat 0))) }).b = ws.getD n.toNat 0 / 65536 % 256 /\ (rr4 (ws.getD n.toNat 0) { rr2 ws n (ws.getD n.toNat 0) with l := bytesL (rrm (ws.getD n.toNat 0)) (rrl (ws.getD n.toNat 0)).toNat (ws.drop (rrP n (ws.getD n.toNat 0))) }).c = ws.getD n.toNat 0 / 16777216 := by
     unfold rr4 rr2
     refine ⟨?_, ?_, ?_, ?_⟩ <;> simp only <;> split <;> rfl
    rw [hx, hp.1, hp.2.1, hp.2.2.1, hp.2.2.2, unp_pack hw, getD_cons_drop (l := ws) (k := n.toNat) (by omega), Nat.add_comm 1, List.take_succ_cons]
    have hNN : rrN (ws.getD n.toNat 0) = (rrX (ws.getD n.toNat 0) + (if rrf (ws.getD n.toNat 0) = true then 1 else 0)) + rrm (ws.getD n.toNat 0) := by unfold rrN; omega
    have hPP : n.toNat + 1 + (rrX (ws.getD n.toNat 0) + (if rrf (ws.getD n.toNat 0) = true then 1 else 0)) = rrP n (ws.getD n.toNat 0) := by unfold rrP; omega
    generalize (rrX (ws.getD n.toNat 0) + (if rrf (ws.getD n.toNat 0) = true then 1 else 0)) = XF at hNN hPP ⊢
    rw [hNN, List.take_add, List.cons.injEq, List.append_cancel_left_eq, List.drop_drop, hPP]
    simp only [true_and]
    rfl
   have en : (rr4 (ws.getD n.toNat 0) { rr2 ws n (ws.getD n.toNat 0) with l := bytesL (rrm (ws.getD n.toNat 0)) (rrl (ws.getD n.toNat 0)).toNat (ws.drop (rrP n (ws.getD n.toNat 0))) }).n.toNat = 1 + rrN (ws.getD n.toNat 0) := by
    unfold rr4; simp only; omega
   rw [en]
   cases hp : padOk (rrm (ws.getD n.toNat 0)) (rrl (ws.getD n.toNat 0)).toNat (ws.drop (rrP n (ws.getD n.toNat 0))) with
   | true =>
    rw [if_pos rfl]
    simp only
    by_cases h0 : (wordsM (rr4 (ws.getD n.toNat 0) { rr2 ws n (ws.getD n.toNat 0) with l := bytesL (rrm (ws.getD n.toNat 0)) (rrl (ws.getD n.toNat 0)).toNat (ws.drop (rrP n (ws.getD n.toNat 0))) })).1 = 0
    ·rw [if_pos h0, if_pos ⟨h0, (key h0).2 hp⟩]
    ·rw [if_neg h0, if_neg (fun h => h0 h.1)]
   | false =>
    rw [if_neg (by decide)]
    simp only
    rw [if_neg]
    intro h
    have := (key h.1).1 h.2
    rw [hp] at this
    cases this
  ·rw [if_neg hN]
   simp only [f2 hN, Bool.false_eq_true, if_false]
end Go.Proofs.YtfdipcpmfoidoaaDoor

/- The reference's All. -/
namespace Go.Proofs.YtfdipcpmfoidoaaDoor
open Go Go.Aw
set_option linter.unusedSimpArgs false
set_option linter.unusedVariables false
set_option maxRecDepth 100000
set_option maxHeartbeats 40000000
theorem rall_loop {ws : List Int} (hs : ws.length ≤ 90000) (hu : ∀ x ∈ ws, u32r x) : ∀ (f : Nat) (p : Nat) (l : List Ins), ws.length ≤ p + f -> l.length ≤ p -> p ≤ ws.length ->
  alR ws (allM (readM ws) ws.length f p l) (E.L 20 4 (alV ws l 0 0 p) (alH l)) := by
 intro f
 induction f with
 | zero =>
  intro p l h hl hp
  refine ⟨p, ?_⟩
  have q : ((p : Int) < ws.length) = False := eq_false (by omega)
  simp only [allM, alV, alH]
  rw [l20_4]
  simp (maxSteps := 100000000) only [ivc, rgb, anf, vlen, vbuiltin, nilR, eq_self, Nat.reduceEqDiff, Nat.reduceLT, Nat.reduceLeDiff, Nat.reduceAdd, Nat.reduceBEq, reduceCtorEq, ↓reduceIte, tyb, q]
 | succ f ih =>
  intro p l h hl hp
  unfold allM
  by_cases hlt : (p : Int) < ws.length
  ·have hlt' := eq_true hlt
   have R := rread_ev (ws := ws) (n := p) hs hu
   rw [read_eq hu] at R
   have N := readM_n (ws := ws) (n := p)
   simp only [readV] at R
   rw [if_pos hlt]
   generalize readM ws (p : Int) = r at *
   obtain ⟨i, e⟩ := r
   simp only at R N ⊢
   by_cases he : e = 0
   ·subst he
    rw [if_pos rfl]
    obtain ⟨n1, n2, n3, n4, n5, n6⟩ := N rfl
    have hw1 : IntKind.i64.wrap ((p : Int) + i.n) = p + i.n := wrap_id (by omega) (by omega)
    have ih' := ih (p + i.n.toNat) (l ++ [i]) (by omega) (by simp; omega) (by omega)
    have ec : ((p + i.n.toNat : Nat) : Int) = p + i.n := by omega
    rw [ec] at ih'
    have hV : insV i = .agg (insA i) := rfl
    simp only [insA] at R hV
    have e0 : ((0 : Int) != 0) = false := rfl
    generalize allM (readM ws) ws.length f (p + i.n) (l ++ [i]) = m at ih' ⊢
    obtain ⟨ml, mp, me⟩ := m
    unfold alR at ih' ⊢
    by_cases hm : me = 0
    ·rw [if_pos hm] at ih' ⊢
     obtain ⟨p2, ih'⟩ := ih'
     refine ⟨p2, ?_⟩
     simp only [alV, alH, hV, List.map_append, List.map_cons, List.map_nil, List.length_append, List.length_cons, List.length_nil, Nat.zero_add] at ih' ⊢
     rw [l20_4]
     simp (maxSteps := 100000000) only [ivc, rgb, anf, vop, vlen, vbuiltin, nilR, salloc, sappend, eq_self, Nat.reduceEqDiff, Nat.reduceLT, Nat.reduceLeDiff, Nat.reduceAdd, Nat.reduceMul, Nat.reduceBEq, reduceCtorEq, ↓reduceIte, tyb, hlt', R, hw1, ih']
     exact some_true (by omega)
    ·rw [if_neg hm] at ih' ⊢
     obtain ⟨p2, l2, ih'⟩ := ih'
     refine ⟨p2, l2, ?_⟩
     simp only [alV, alH, hV, List.map_append, List.map_cons, List.map_nil, List.length_append, List.length_cons, List.length_nil, Nat.zero_add] at ih' ⊢
     rw [l20_4]
     simp (maxSteps := 100000000) only [ivc, rgb, anf, vop, vlen, vbuiltin, nilR, salloc, sappend, eq_self, Nat.reduceEqDiff, Nat.reduceLT, Nat.reduceLeDiff, Nat.reduceAdd, Nat.reduceMul, Nat.reduceBEq, reduceCtorEq, ↓reduceIte, tyb, hlt', R, hw1, ih']
     exact some_true (by omega)
   ·have he' : (e != 0) = true := by simp [he]
    rw [if_neg he]
    unfold alR
    rw [if_neg he]
    refine ⟨p, l, ?_⟩
    clear ih N
    simp only [alV, alH, insA] at R ⊢
    rw [l20_4]
    simp (maxSteps := 100000000) only [ivc, rgb, anf, vop, vlen, vbuiltin, nilR, salloc, eq_self, Nat.reduceEqDiff, Nat.reduceLT, Nat.reduceLeDiff, Nat.reduceAdd, Nat.reduceBEq, reduceCtorEq, ↓reduceIte, tyb, hlt', R, he']
  ·rw [if_neg hlt]
   have q := eq_false hlt
   refine ⟨p, ?_⟩
   simp only [alV, alH]
   rw [l20_4]
   simp (maxSteps := 100000000) only [ivc, rgb, anf, vlen, vbuiltin, nilR, eq_self, Nat.reduceEqDiff, Nat.reduceLT, Nat.reduceLeDiff, Nat.reduceAdd, Nat.reduceBEq, reduceCtorEq, ↓reduceIte, tyb, q]
theorem rall_ev {ws : List Int} (hs : ws.length ≤ 90000) (hu : ∀ x ∈ ws, u32r x) : E.F 20 [.ro 1 (ws.map (.int .u32))] [] = some ((.tup [.ro 9 ((allM (readM ws) ws.length ws.length 0 []).1.map insV), .int .i64 (allM (readM ws) ws.length ws.length 0 []).2.1, .int .i64 (allM (readM ws) ws.length ws.length 0 []).2.2], []), True) := by
 have L := rall_loop hs hu ws.length 0 [] (by omega) (by simp) (by omega)
 simp only [Int.natCast_zero] at L
 have E := allM_err (readM ws) ws.length ws.length 0 []
 generalize allM (readM ws) ws.length ws.length 0 [] = m at L E ⊢
 obtain ⟨ml, mp, me⟩ := m
 simp only at E
 unfold alR at L
 by_cases hm : me = 0
 ·rw [if_pos hm] at L
  obtain ⟨p, L⟩ := L
  obtain rfl := hm
  obtain rfl := E.1 rfl
  simp only [alV, alH, List.length_nil, List.map_nil] at L
  rw [e20]
  simp (maxSteps := 100000000) only [ivc, rgb, anf, eq_self, Nat.reduceEqDiff, Nat.reduceLT, Nat.reduceLeDiff, Nat.reduceAdd, Nat.reduceBEq, reduceCtorEq, ↓reduceIte, L]
 ·rw [if_neg hm] at L
  obtain ⟨p, l2, L⟩ := L
  obtain rfl := E.2 hm
  simp only [alV, alH, List.length_nil, List.map_nil] at L
  rw [e20]
  simp (maxSteps := 100000000) only [ivc, rgb, anf, eq_self, Nat.reduceEqDiff, Nat.reduceLT, Nat.reduceLeDiff, Nat.reduceAdd, Nat.reduceBEq, reduceCtorEq, ↓reduceIte, L]
def smallI (i : Ins) : Prop := i.x.length ≤ 100 /\ i.l.length ≤ 255
theorem allM_small {ws : List Int} : ∀ (f : Nat) (p : Int) (l : List Ins), (∀ i ∈ l, smallI i) -> ∀ i ∈ (allM (readM ws) ws.length f p l).1, smallI i
 | 0, p, l, h => h
 | f + 1, p, l, h => by
  unfold allM
  split
  ·split
   ·rename_i h2
    obtain ⟨_, _, _, _, n5, n6⟩ := readM_n h2
    refine allM_small f _ _ fun i hi => ?_
    rcases List.mem_append.1 hi with hi | hi
    ·exact h i hi
    ·rw [List.mem_singleton.1 hi]; exact ⟨n5, n6⟩
   ·simp
  ·exact h
theorem allM_len {ws : List Int} : ∀ (f : Nat) (p : Nat) (l : List Ins), l.length ≤ p -> p ≤ ws.length -> (allM (readM ws) ws.length f p l).1.length ≤ ws.length
 | 0, p, l, h, h' => by simp only [allM]; omega
 | f + 1, p, l, h, h' => by
  unfold allM
  split
  ·split
   ·rename_i h2
    obtain ⟨n1, n2, _, _, _, _⟩ := readM_n h2
    have := allM_len (ws := ws) f (p + (readM ws p).1.n.toNat) (l ++ [(readM ws p).1]) (by simp; omega) (by omega)
    rw [show ((p + (readM ws p).1.n.toNat : Nat) : Int) = (p : Int) + (readM ws p).1.n by omega] at this
    exact this
   ·simp
  ·simp only; omega
theorem inssW_self {i : Ins} : inssW i i = true := by simp [inssW]
theorem eqf_loop {a : List Ins} (hs : a.length ≤ 1000000) (ha : ∀ i ∈ a, smallI i) : ∀ (r m : List Ins), a = m ++ r ->
  E.L 21 5 [.ro 9 (a.map insV), .fn (.func 19) [] [], .bool false, .ro 9 (a.map insV), .int .i64 a.length, .int .i64 m.length] [] = some ((.exit 0, [.ro 9 (a.map insV), .fn (.func 19) [] [], .bool false, .ro 9 (a.map insV), .int .i64 a.length, .int .i64 a.length], []), True) := by
 intro r
 induction r with
 | nil =>
  intro m h
  rw [List.append_nil] at h
  subst h
  have q : ((a.length : Int) < a.length) = False := eq_false (by omega)
  rw [l21_5]
  simp (maxSteps := 100000000) only [ivc, rgb, anf, nilR, eq_self, Nat.reduceEqDiff, Nat.reduceLT, Nat.reduceAdd, Nat.reduceBEq, reduceCtorEq, ↓reduceIte, tyb, q]
 | cons y r ih =>
  intro m h
  have hi' : ((m.length : Int) < a.length) = True := eq_true (by rw [h]; simp; omega)
  have hw1 : IntKind.i64.wrap ((m.length : Int) + 1) = m.length + 1 := wrap_id (by omega) (by rw [h] at hs; simp at hs; omega)
  have hg := getD_map (f := insV) (show a[m.length]? = some y by rw [h]; simp)
  have hy := ha y (by rw [h]; simp)
  have ev := inss_ev (i := y) (j := y) (by have := hy.1; omega) (by have := hy.2; omega)
  rw [inssW_self] at ev
  have ih' := ih (m ++ [y]) (by rw [h]; simp)
  simp only [List.length_append, List.length_cons, List.length_nil, Int.natCast_add, Int.cast_ofNat_Int, Nat.zero_add] at ih'
  simp only [insV] at hg
  simp only [insA] at hg ev
  rw [l21_5]
  simp (maxSteps := 100000000) only [ivc, rgb, anf, vop, nilR, salloc, eq_self, Nat.reduceEqDiff, Nat.reduceLT, Nat.reduceLeDiff, Nat.reduceAdd, Nat.reduceMul, Nat.reduceBEq, reduceCtorEq, ↓reduceIte, tyb, hi', hw1, hg, ev, ih']
  exact some_true (by omega)
theorem eqf_ev {a : List Ins} (hs : a.length ≤ 1000000) (ha : ∀ i ∈ a, smallI i) : E.F 21 [.ro 9 (a.map insV), .ro 9 (a.map insV), .fn (.func 19) [] []] [] = some ((.bool true, []), True) := by
 have L := eqf_loop hs ha a [] rfl
 simp only [List.length_nil, Int.natCast_zero] at L
 rw [e21]
 simp (maxSteps := 100000000) only [ivc, rgb, anf, vlen, vbuiltin, nilR, eq_self, Nat.reduceEqDiff, Nat.reduceLT, Nat.reduceLeDiff, Nat.reduceAdd, Nat.reduceBEq, reduceCtorEq, ↓reduceIte, tyb, L]
def awI : Ins := ⟨0, 12, 0, 2, 1, [7], 9, [1, 2], 0⟩
theorem aw_words : wordsM awI = (0, [16908300, 7, 9, 513]) := by kernel_rfl
theorem aw_read : readM [20] 0 = (⟨0, 20, 0, 0, 0, [], -1, [], 1⟩, 0) := by kernel_rfl
theorem aw_pack : packM 1 2 3 0 = .tup [.int .u32 197121, .int .i64 0] := by kernel_rfl
theorem awake_ev : E.F 7 [] [] = some ((.bool true, []), True) := by
 have p := pack_ev (a := 1) (b := 2) (c := 3) (d := 0)
 rw [aw_pack] at p
 have w := words_ev (i := awI) (by decide) (by decide)
 rw [aw_words] at w
 have r := read_ev (ws := [20]) (n := 0) (by decide) (by simp [u32r])
 rw [aw_read] at r
 have q := eq32_ev (a := [16908300, 7, 9, 513]) (b := [16908300, 7, 9, 513]) (by decide)
 simp only [awI, insA, wordsV, readV, List.map_cons, List.map_nil, decide_true] at w r q
 rw [e7]
 simp (maxSteps := 100000000) only [ivc, rgb, anf, vop, vlen, vbuiltin, nilR, salloc, eq_self, Nat.reduceEqDiff, Nat.reduceLT, Nat.reduceLeDiff, Nat.reduceAdd, Nat.reduceMul, Nat.reduceBEq, Int.reduceLT, Int.reduceLE, Int.reduceNeg, Int.reduceToNat, Int.reduceAdd, reduceCtorEq, ↓reduceIte, tyb, l11_5, e11, p, w, r]
theorem cw_big {a b c d n : Int} {ws : List Int} {i : Ins} (h : 200 < ws.length \/ 8 < i.x.length \/ 80 < i.l.length) : E.F 4 [.int .i64 a, .int .i64 b, .int .i64 c, .int .i64 d, .ro 1 (ws.map (.int .u32)), .int .i64 n, .agg (insA i)] [] = some ((.bool true, []), True) := by
 simp only [insA]
 have aw := awake_ev
 by_cases h1 : 200 < ws.length
 ·have q : ((200 : Int) < ws.length) = True := eq_true (by omega)
  rw [e4]
  simp (maxSteps := 100000000) only [ivc, rgb, anf, vop, vlen, vbuiltin, nilR, salloc, eq_self, Nat.reduceEqDiff, Nat.reduceLT, Nat.reduceLeDiff, Nat.reduceAdd, Nat.reduceBEq, reduceCtorEq, ↓reduceIte, tyb, q, aw]
 ·have q : ((200 : Int) < ws.length) = False := eq_false (by omega)
  by_cases h2 : 8 < i.x.length
  ·have q2 : ((8 : Int) < i.x.length) = True := eq_true (by omega)
   rw [e4]
   simp (maxSteps := 100000000) only [ivc, rgb, anf, vop, vlen, vbuiltin, nilR, salloc, eq_self, Nat.reduceEqDiff, Nat.reduceLT, Nat.reduceLeDiff, Nat.reduceAdd, Nat.reduceBEq, reduceCtorEq, ↓reduceIte, tyb, q, q2, aw]
  ·have q2 : ((8 : Int) < i.x.length) = False := eq_false (by omega)
   have q3 : ((80 : Int) < i.l.length) = True := eq_true (by omega)
   rw [e4]
   simp (maxSteps := 100000000) only [ivc, rgb, anf, vop, vlen, vbuiltin, nilR, salloc, eq_self, Nat.reduceEqDiff, Nat.reduceLT, Nat.reduceLeDiff, Nat.reduceAdd, Nat.reduceBEq, reduceCtorEq, ↓reduceIte, tyb, q, q2, q3, aw]
def c4H (i : Ins) : HL := [(60000, ⟨true, 9, [.agg (insA i)]⟩)]
def c4V (ws : List Int) (n : Int) (k : Nat) : List AV := [.ro 1 (ws.map (.int .u32)), .int .i64 n, .ptr 60000 0 0, .bool false, .ro 1 (ws.map (.int .u32)), .int .i64 ws.length, .int .i64 k]
theorem cw_loop {ws : List Int} {n : Int} {i : Ins} (hs : ws.length ≤ 200) (hu : ∀ x ∈ ws, u32r x) : ∀ (r m : List Int), ws = m ++ r -> E.L 4 9 (c4V ws n m.length) (c4H i) = some ((.exit 0, c4V ws n ws.length, c4H i), True) := by
 intro r
 induction r with
 | nil =>
  intro m h
  rw [List.append_nil] at h
  subst h
  have q : ((ws.length : Int) < ws.length) = False := eq_false (by omega)
  simp only [c4V, c4H, insA]
  rw [l4_9]
  simp (maxSteps := 100000000) only [ivc, rgb, anf, nilR, eq_self, Nat.reduceEqDiff, Nat.reduceLT, Nat.reduceLeDiff, Nat.reduceAdd, Nat.reduceBEq, reduceCtorEq, ↓reduceIte, tyb, q]
 | cons y r ih =>
  intro m h
  have hi' : ((m.length : Int) < ws.length) = True := eq_true (by rw [h]; simp; omega)
  have hw1 : IntKind.i64.wrap ((m.length : Int) + 1) = m.length + 1 := wrap_id (by omega) (by rw [h] at hs; simp at hs; omega)
  have hg := getD_map (f := AV.int .u32) (show ws[m.length]? = some y by rw [h]; simp)
  have hy := hu y (by rw [h]; simp)
  have up := unpack_ev hy.1 hy.2
  have rp := runpack_ev hy.1 hy.2
  have ih' := ih (m ++ [y]) (by rw [h]; simp)
  simp only [c4V, c4H, insA, List.length_append, List.length_cons, List.length_nil, Int.natCast_add, Int.cast_ofNat_Int, Nat.zero_add] at ih' ⊢
  rw [l4_9]
  simp (maxSteps := 100000000) only [ivc, rgb, anf, vop, nilR, eq_self, Nat.reduceEqDiff, Nat.reduceLT, Nat.reduceLeDiff, Nat.reduceAdd, Nat.reduceBEq, reduceCtorEq, ↓reduceIte, tyb, hi', hw1, hg, up, rp, ih']
  exact some_true (by omega)
theorem readM_small {ws : List Int} {n : Int} : smallI (readM ws n).1 := by
 by_cases h : (readM ws n).2 = 0
 ·obtain ⟨_, _, _, _, n5, n6⟩ := readM_n h
  exact ⟨n5, n6⟩
 ·have e : (readM ws n).1 = insZ := by
   unfold readM at h ⊢
   split
   ·rfl
   ·rename_i h0
    rw [if_neg h0] at h
    split
    ·rename_i h1
     rw [if_pos h1] at h
     split
     ·rename_i h2
      rw [if_pos h2] at h
      split
      ·rename_i h3
       rw [if_pos h3] at h
       exact absurd rfl h
      ·rfl
     ·rfl
    ·rfl
  rw [e]
  exact ⟨by decide, by decide⟩
theorem cw_all {a b c d n : Int} {ws : List Int} {i : Ins} (h1 : ws.length ≤ 200) (h2 : i.x.length ≤ 8) (h3 : i.l.length ≤ 80) (hu : ∀ x ∈ ws, u32r x) : E.F 4 [.int .i64 a, .int .i64 b, .int .i64 c, .int .i64 d, .ro 1 (ws.map (.int .u32)), .int .i64 n, .agg (insA i)] [] = some ((.bool true, []), True) := by
 have aw := awake_ev
 have q : ((200 : Int) < ws.length) = False := eq_false (by omega)
 have q2 : ((8 : Int) < i.x.length) = False := eq_false (by omega)
 have q3 : ((80 : Int) < i.l.length) = False := eq_false (by omega)
 have p1 := pack_ev (a := a) (b := b) (c := c) (d := d)
 have p2 := rpack_ev (a := a) (b := b) (c := c) (d := d)
 obtain ⟨X, e0, hp⟩ : ∃ X e0, packM a b c d = .tup [.int .u32 X, .int .i64 e0] := by
  unfold packM
  split
  ·exact ⟨_, _, rfl⟩
  ·exact ⟨_, _, rfl⟩
 rw [hp] at p1 p2
 have L := cw_loop (n := n) (i := i) h1 hu ws [] rfl
 have w1 := words_ev (i := i) (by omega) (by omega)
 have w2 := rwords_ev (i := i) (by omega) (by omega)
 rw [words_eq] at w2
 have wl := words_len (i := i) (by omega) (by omega)
 generalize wordsM i = w at w1 w2 wl
 obtain ⟨er1, w⟩ := w
 have q11 := eq32_ev (a := w) (b := w) (by simp only at wl; omega)
 have r1 := read_ev (n := n) (show ws.length ≤ 90000 by omega) hu
 have r2 := rread_ev (n := n) (show ws.length ≤ 90000 by omega) hu
 rw [read_eq hu] at r2
 have rs := readM_small (ws := ws) (n := n)
 generalize readM ws n = r at r1 r2 rs
 obtain ⟨j, er2⟩ := r
 have q19 := inss_ev (i := j) (j := j) (by have := rs.1; simp only at this; omega) (by have := rs.2; simp only at this; omega)
 rw [inssW_self] at q19
 have a1 := all_ev (show ws.length ≤ 90000 by omega) hu
 have a2 := rall_ev (show ws.length ≤ 90000 by omega) hu
 have asm := allM_small (ws := ws) ws.length 0 [] (by simp)
 have al := allM_len (ws := ws) ws.length 0 [] (by simp) (by omega)
 simp only [Int.natCast_zero] at al
 generalize allM (readM ws) ws.length ws.length 0 [] = m at a1 a2 asm al
 obtain ⟨m, p3, er3⟩ := m
 have q21 := eqf_ev (a := m) (by simp only at al; omega) asm
 simp only [c4V, c4H, insA, wordsV, readV, decide_true, List.length_nil, Int.natCast_zero] at L w1 w2 q11 r1 r2 q19 a1 a2 q21 ⊢
 rw [e4]
 simp (maxSteps := 100000000) only [ivc, rgb, anf, vop, vlen, vbuiltin, nilR, salloc, eq_self, Nat.reduceEqDiff, Nat.reduceLT, Nat.reduceLeDiff, Nat.reduceAdd, Nat.reduceMul, Nat.reduceBEq, reduceCtorEq, ↓reduceIte, tyb, q, q2, q3, aw, p1, p2, L, w1, w2, q11, r1, r2, q19, a1, a2, q21]
theorem codeWords_ev {a b c d n : Int} {ws : List Int} {i : Ins} (hu : ∀ x ∈ ws, u32r x) : E.F 4 [.int .i64 a, .int .i64 b, .int .i64 c, .int .i64 d, .ro 1 (ws.map (.int .u32)), .int .i64 n, .agg (insA i)] [] = some ((.bool true, []), True) := by
 by_cases h : 200 < ws.length \/ 8 < i.x.length \/ 80 < i.l.length
 ·exact cw_big h
 ·exact cw_all (by omega) (by omega) (by omega) hu
end Go.Proofs.YtfdipcpmfoidoaaDoor

namespace Go.Proofs.YtfdipcpmfoidoaaDoor
open Go Go.Aw
set_option linter.unusedSimpArgs false
set_option linter.unusedVariables false
set_option maxRecDepth 100000
theorem words_lifted (os : Os) (started : os.Started) (H : Type) (enc : TypeId × Value -> H) :
  ReturnsInHanded {} Tryd.checked os 4 .any (fun w args => (Rows.codeWordsSpec.pre enc Tryd.prog Tryd.f4 [] false w args /\ laidMetH Tryd.prog laidL w) /\ sizedMet enc Tryd.prog Tryd.f4 (OpenSpec.ofChange Rows.codeWordsSpec) false w args)
   (Rows.codeWordsSpec.post enc Tryd.prog Tryd.f4 false true false false) := by
 refine returnsInHanded_of_change_and (C := Tryd.checked) (X := fun w _ => laidMetH Tryd.prog laidL w) (fun _ _ _ hh h => h.of_heap hh) own started (by kernel_rfl) Tryd.func4
  (ChangeSpec.witness_shaped (enc := enc) (C := Tryd.checked) (os := os) (X := fun w _ => laidMetH Tryd.prog laidL w) false (World.doorLaid Tryd.prog 400 os) #[.int .i64 0, .int .i64 0, .int .i64 0, .int .i64 0, .slice none 0 0, .int .i64 0, .agg #[.int .i64 0, .int .i64 0, .int .i64 0, .int .i64 0, .int .i64 0, .slice none 0 0, .int .i64 0, .slice none 0 0, .int .i64 0]] 8 rfl (World.shaped_of_RefB (by kernel_rfl) (by kernel_rfl)) (by kernel_rfl) (by kernel_rfl) (by kernel_rfl) (door_met os _)) ?_
 intro W base args ds gs before hval hW _ hsz hL _
 refine law_contractG (G := G) (A := AN) evok laidOut (fn := Tryd.f4) (l := [3, 24, 35, 27, 25]) (by kernel_rfl) (ts := [3, 3, 3, 3, 24, 3, 27]) (by rw [Tryd.params4]) (by kernel_rfl) (by kernel_rfl) (tb := 4) (by kernel_rfl) Tryd.underlying4 rfl (tab_laid hL) hval hW hsz (fun ds h => ?_) fun nx hl ht => ?_
 ·match ds, h with
  | [a, b, c, d, e, f, g], _ => exact ⟨rfl, rfl, rfl⟩
 ·match nx, hl with
  | [a, b, c, d, e, f, g], _ =>
   obtain ⟨la, ra, ha⟩ := int_of (ht 0 3 a rfl rfl)
   obtain ⟨lb, rb, hb⟩ := int_of (ht 1 3 b rfl rfl)
   obtain ⟨lc, rc, hc⟩ := int_of (ht 2 3 c rfl rfl)
   obtain ⟨ld, rd, hd⟩ := int_of (ht 3 3 d rfl rfl)
   obtain ⟨le, re, he⟩ := words_of (ht 4 24 e rfl rfl)
   obtain ⟨lf, rf, hf⟩ := int_of (ht 5 3 f rfl rfl)
   obtain ⟨lg, rg, hg⟩ := ins_of (ht 6 27 g rfl rfl)
   refine ⟨[], ?_⟩
   have := codeWords_ev (a := la) (b := lb) (c := lc) (d := ld) (ws := le) (n := lf) (i := lg) re
   show E.F 4 [argA Tryd.prog 3 a.2, argA Tryd.prog 3 b.2, argA Tryd.prog 3 c.2, argA Tryd.prog 3 d.2, argA Tryd.prog 24 e.2, argA Tryd.prog 3 f.2, argA Tryd.prog 27 g.2] [] = _
   rw [ha, hb, hc, hd, he, hf, hg]
   simp only [argA, Tryd.underlying3, Tryd.underlying24, Tryd.underlying27, List.getD_cons_zero]
   exact this
theorem words_holds : Rows.CodeWordsSaid :=
 OpenClaim.holds_of_wide 4 Tryd.f4 rfl rfl rfl rfl rfl rfl rfl ⟨rfl, rfl, rfl, rfl, rfl⟩ rfl rfl rfl rfl rfl (by kernel_rfl) Tryd.func4 (by kernel_rfl)
  (of_decide_eq_true (by kernel_rfl)) (by unfold Func.isWrapper; first | (rw [if_pos (by decide +kernel)]; kernel_rfl) | (rw [if_neg (by decide +kernel)]; exact ⟨rfl, rfl⟩))
  (fun os started H enc _ => words_lifted os started H enc)
theorem words_card : Rows.CodeWordsCardSaid :=
 Claim7.holds_tied_plain_at .later [] [.widerDeep] true (true, "09bf8b756bc8d9dfa2faf4825854ee5bd48bd8245ec705a19d468fbba49fe3eb") false
  words_holds (fun _ h => by cases h) (by kernel_rfl) (fun _ h => by cases h) codeWords_row_tie rfl ⟨rfl, rfl⟩ (by kernel_rfl) rfl
  (fun f fn hf hfn => by
   obtain rfl : f = 4 := Option.some.inj ((show Tryd.prog.funcNamed "hackamore/hackamorelaw24.CodeWords" = some 4 by kernel_rfl).symm.trans hf) |>.symm
   obtain rfl : fn = Tryd.f4 := (Option.some.inj (Tryd.func4.symm.trans hfn)).symm
   exact ⟨by kernel_rfl, fun j t ht => by
    rw [Tryd.params4] at ht
    have hm : t ∈ [3, 3, 3, 3, 24, 3, 27] := by simpa using Array.mem_of_getElem? ht
    have hall : ([3, 3, 3, 3, 24, 3, 27].all fun u => !Tryd.prog.wantsStandIn u) = true := by kernel_rfl
    exact (show Tryd.prog.wantsStandIn t = false by simpa using List.all_eq_true.1 hall t hm)⟩)
  (by kernel_rfl)
end Go.Proofs.YtfdipcpmfoidoaaDoor

