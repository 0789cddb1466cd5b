/- A part of the proof of CodeFlowsCardSaid. -/
import Derived.Test.YtfdipcpmfoidoaaDoorTie
import Derived.Test.YtfdipcpmfoidoaaDoorCards
import Derived.LaidMore
import Derived.LaidLaws
import Derived.Lay
import Derived.ProofKit
import Derived.Test.YtfdipcpmfoidoaaDoorC2
/- Clone, Chunk; the index words. -/
namespace Go.Proofs.YtfdipcpmfoidoaaDoor
open Go Go.Aw
set_option linter.unusedSimpArgs false
set_option linter.unusedVariables false
set_option maxRecDepth 100000
set_option maxHeartbeats 40000000
def iR (l : List Int) : Ob := ⟨false, 1, l.map (AV.int .i64)⟩
def uR (l : List Int) : Ob := ⟨false, 1, l.map (AV.int .u32)⟩
theorem getD_map {α : Type} {f : α -> AV} {l : List α} {i : Nat} {x : α} (h : l[i]? = some x) : (l.map f).getD i .junk = f x := by
 simp [List.getD_eq_getElem?_getD, h]
theorem clone_ev {xs : List Int} (h : xs.length ≤ 1000000) : E.F 36 [.ro 1 (xs.map (.int .i64))] [] = some ((.sl 200000 0 xs.length, [(200000, iR xs)]), True) := by
 rw [e36]
 by_cases h0 : xs.length = 0
 ·obtain rfl := List.eq_nil_of_length_eq_zero h0
  simp (maxSteps := 100000000) only [ivc, rgb, mpb, anf, nilR, salloc, sappend, eq_self, Nat.reduceEqDiff, Nat.reduceLT, Nat.reduceLeDiff, Nat.reduceAdd, Nat.reduceBEq, reduceCtorEq, ↓reduceIte, tyb, iR]
 ·simp (maxSteps := 100000000) only [ivc, rgb, mpb, anf, nilR, salloc, sappend, eq_self, Nat.reduceEqDiff, Nat.reduceLT, Nat.reduceLeDiff, Nat.reduceAdd, Nat.reduceBEq, reduceCtorEq, ↓reduceIte, tyb, iR, h0]
  exact some_true (by omega)
theorem chunkf_ev {es : List AV} : E.F 37 [.ro 1 es, .int .i64 4] [] = some ((.fn (.func 61) [] [.ptr 200000 0 0, .ptr 200001 0 0], [(200000, ⟨true, 1, [.ro 1 es]⟩), (200001, ⟨true, 1, [.int .i64 4]⟩)]), True) := by
 rw [e37]
 simp (maxSteps := 100000000) only [ivc, rgb, anf, vop, nilR, salloc, eq_self, Nat.reduceEqDiff, Nat.reduceLT, Nat.reduceLeDiff, Nat.reduceAdd, Nat.reduceBEq, Int.reduceLT, reduceCtorEq, ↓reduceIte, tyb]
def wok (n : Int) : Bool := decide (0 ≤ n) && decide (n ≤ 2147483647)
theorem wok_true {n : Int} (h : wok n = true) : 0 ≤ n /\ n ≤ 2147483647 := by
 unfold wok at h
 rw [Bool.and_eq_true] at h
 exact ⟨of_decide_eq_true h.1, of_decide_eq_true h.2⟩
theorem wok_false {n : Int} (h : wok n = false) : n < 0 \/ 2147483647 < n := by
 by_cases h1 : n < 0
 ·exact .inl h1
 ·refine .inr ?_
  by_cases h2 : n ≤ 2147483647
  ·unfold wok at h
   rw [decide_eq_true (by omega), decide_eq_true h2] at h
   cases h
  ·omega
def w8H (ia : List AV) (r e : AV) (ws : List Int) : HL := [(60000, ⟨true, 9, [.agg ia]⟩), (60001, ⟨true, 1, [r]⟩), (60002, ⟨true, 1, [e]⟩), (60003, ⟨true, 1, [.sl 60004 0 ws.length]⟩), (60004, uR ws)]
def w8V (xs : List Int) (k : Int) : List AV := [.ptr 60000 0 0, .ptr 60001 0 0, .ptr 60002 0 0, .ptr 60003 0 0, .ro 1 (xs.map (.int .i64)), .int .i64 xs.length, .int .i64 k]
theorem idx_ok {i : Ins} {xs : List Int} (hx : xs.length ≤ 1000) : ∀ (r m ws : List Int), xs = m ++ r -> ws.length ≤ 1000 + m.length -> r.all wok = true ->
  E.L 8 13 (w8V xs m.length) (w8H (insA i) .nilsl (.int .i64 0) ws) = some ((.exit 0, w8V xs xs.length, w8H (insA i) .nilsl (.int .i64 0) (ws ++ r)), True) := by
 intro r
 induction r with
 | nil =>
  intro m ws h hw _
  rw [List.append_nil] at h
  subst h
  have q : ((xs.length : Int) < xs.length) = False := eq_false (by omega)
  simp only [w8V, w8H]
  rw [l8_13]
  simp (maxSteps := 100000000) only [ivc, rgb, anf, nilR, eq_self, Nat.reduceEqDiff, Nat.reduceLT, Nat.reduceLeDiff, Nat.reduceAdd, Nat.reduceBEq, reduceCtorEq, ↓reduceIte, tyb, insA, uR, q]
 | cons n r ih =>
  intro m ws h hw ha
  simp only [List.all_cons, Bool.and_eq_true] at ha
  obtain ⟨n1, n2⟩ := wok_true ha.1
  have hn : m.length + (r.length + 1) = xs.length := by rw [h]; simp
  have hi' : ((m.length : Int) < xs.length) = True := eq_true (by omega)
  have hg := getD_map (f := AV.int .i64) (show xs[m.length]? = some n by rw [h]; simp)
  have hw1 : IntKind.i64.wrap ((m.length : Int) + 1) = m.length + 1 := wrap_id (by omega) (by omega)
  have hc : (0 ≤ (m.length : Int) /\ (m.length : Int) < xs.length) = True := eq_true (by omega)
  have a1 : ¬ n < 0 := by omega
  have a2 : ¬ 2147483647 < n := by omega
  have a3 := u32id (y := n) (by omega) (by omega)
  have ih' := ih (m ++ [n]) (ws ++ [n]) (by simp [h]) (by simp; omega) ha.2
  simp only [w8V, w8H, List.append_assoc, List.length_append, List.length_cons, List.length_nil, Nat.zero_add, Int.natCast_add, Int.cast_ofNat_Int, uR, List.map_append, List.map_cons, List.map_nil, List.cons_append, List.nil_append, insA] at ih' ⊢
  rw [l8_13]
  simp (maxSteps := 100000000) only [ivc, rgb, mpb, anf, vop, nilR, salloc, sappend, eq_self, Nat.reduceEqDiff, Nat.reduceLT, Nat.reduceLeDiff, Nat.reduceAdd, Nat.reduceBEq, reduceCtorEq, ↓reduceIte, tyb, hi', hg, hw1, a1, a2, a3, ih']
  exact some_true (by omega)
theorem idx_bad {i : Ins} {xs : List Int} (hx : xs.length ≤ 1000) {n : Int} {q : List Int} (hb : wok n = false) : ∀ (p m ws : List Int), xs = m ++ (p ++ n :: q) -> ws.length ≤ 1000 + m.length -> p.all wok = true ->
  E.L 8 13 (w8V xs m.length) (w8H (insA i) .nilsl (.int .i64 0) ws) = some ((.ret, w8V xs (m.length + p.length), w8H (insA i) .nilsl (.int .i64 3) (ws ++ p)), True) := by
 intro p
 induction p with
 | nil =>
  intro m ws h hw _
  have hn : m.length + (q.length + 1) = xs.length := by rw [h]; simp
  have hi' : ((m.length : Int) < xs.length) = True := eq_true (by omega)
  have hg := getD_map (f := AV.int .i64) (show xs[m.length]? = some n by rw [h]; simp)
  have hc : (0 ≤ (m.length : Int) /\ (m.length : Int) < xs.length) = True := eq_true (by omega)
  simp only [w8V, w8H, List.length_nil, Int.natCast_zero, Int.add_zero, List.append_nil]
  rw [l8_13]
  rcases wok_false hb with h1 | h1
  ·simp (maxSteps := 100000000) only [ivc, rgb, mpb, anf, nilR, eq_self, Nat.reduceEqDiff, Nat.reduceLT, Nat.reduceLeDiff, Nat.reduceAdd, Nat.reduceBEq, reduceCtorEq, ↓reduceIte, tyb, insA, uR, hi', hg, h1]
   exact some_true (by omega)
  ·have h2 : ¬ n < 0 := by omega
   simp (maxSteps := 100000000) only [ivc, rgb, mpb, anf, nilR, eq_self, Nat.reduceEqDiff, Nat.reduceLT, Nat.reduceLeDiff, Nat.reduceAdd, Nat.reduceBEq, reduceCtorEq, ↓reduceIte, tyb, insA, uR, hi', hg, h1, h2]
   exact some_true (by omega)
 | cons a p ih =>
  intro m ws h hw ha
  simp only [List.all_cons, Bool.and_eq_true] at ha
  obtain ⟨n1, n2⟩ := wok_true ha.1
  have hn : m.length + (p.length + (q.length + 1) + 1) = xs.length := by rw [h]; simp
  have hi' : ((m.length : Int) < xs.length) = True := eq_true (by omega)
  have hg := getD_map (f := AV.int .i64) (show xs[m.length]? = some a by rw [h]; simp)
  have hw1 : IntKind.i64.wrap ((m.length : Int) + 1) = m.length + 1 := wrap_id (by omega) (by omega)
  have hc : (0 ≤ (m.length : Int) /\ (m.length : Int) < xs.length) = True := eq_true (by omega)
  have a1 : ¬ a < 0 := by omega
  have a2 : ¬ 2147483647 < a := by omega
  have a3 := u32id (y := a) (by omega) (by omega)
  have ih' := ih (m ++ [a]) (ws ++ [a]) (by simp [h]) (by simp; omega) ha.2
  have e4 : (m.length : Int) + 1 + (p.length : Int) = m.length + (p.length + 1) := by omega
  simp only [w8V, w8H, List.append_assoc, List.length_append, List.length_cons, List.length_nil, Nat.zero_add, Int.natCast_add, Int.cast_ofNat_Int, uR, List.map_append, List.map_cons, List.map_nil, List.cons_append, List.nil_append, insA, e4] at ih' ⊢
  rw [l8_13]
  simp (maxSteps := 100000000) only [ivc, rgb, mpb, anf, vop, nilR, salloc, sappend, eq_self, Nat.reduceEqDiff, Nat.reduceLT, Nat.reduceLeDiff, Nat.reduceAdd, Nat.reduceBEq, reduceCtorEq, ↓reduceIte, tyb, hi', hg, hw1, a1, a2, a3, ih']
  exact some_true (by omega)
def pad4 (c : List Int) : List Int := (c ++ [0, 0, 0]).take 4
def rgH (r e : AV) (ws : List Int) : HL := [(60000, ⟨true, 1, [r]⟩), (60001, ⟨true, 1, [e]⟩), (60002, ⟨true, 1, [.sl 60003 0 ws.length]⟩), (60003, uR ws)]
def rgV : List AV := [.ptr 60000 0 0, .ptr 60001 0 0, .ptr 60002 0 0]
def cV (c : List Int) : AV := .tup [.ro 1 (c.map (.int .i64))]
def cok (c : List Int) : Bool := byt ((pad4 c).getD 0 0) && byt ((pad4 c).getD 1 0) && byt ((pad4 c).getD 2 0) && byt ((pad4 c).getD 3 0)
def cw (c : List Int) : Int := packN ((pad4 c).getD 0 0) ((pad4 c).getD 1 0) ((pad4 c).getD 2 0) ((pad4 c).getD 3 0)
theorem rg_ok {c : List Int} {cs : List (List Int)} {ws : List Int} {r : Exit × List AV × HL} (h1 : 1 ≤ c.length) (h2 : c.length ≤ 4) (hw : ws.length ≤ 5000) (hc : cok c = true)
  (hL : E.L 8 200020 (.tup (cs.map cV) :: rgV) (rgH .nilsl (.int .i64 0) (ws ++ [cw c])) = some (r, True)) :
  E.L 8 200020 (.tup (cV c :: cs.map cV) :: rgV) (rgH .nilsl (.int .i64 0) ws) = some (r, True) := by
 obtain ⟨a, b, d, e, hp⟩ : ∃ a b d e, pad4 c = [a, b, d, e] := by
  match c, h1, h2 with
  | [x], _, _ => exact ⟨_, _, _, _, rfl⟩
  | [x, y], _, _ => exact ⟨_, _, _, _, rfl⟩
  | [x, y, z], _, _ => exact ⟨_, _, _, _, rfl⟩
  | [x, y, z, w], _, _ => exact ⟨_, _, _, _, rfl⟩
 have cl := clone_ev (xs := c) (by omega)
 have pk := pack_ev (a := a) (b := b) (c := d) (d := e)
 unfold packM at pk
 unfold cok at hc
 unfold cw at hL
 rw [hp] at hc hL
 have hc : (byt a && byt b && byt d && byt e) = true := hc
 have hL : E.L 8 200020 (.tup (cs.map cV) :: rgV) (rgH .nilsl (.int .i64 0) (ws ++ [packN a b d e])) = some (r, True) := hL
 rw [if_pos hc] at pk
 simp only [rgV, cV, rgH, uR, List.map_append, List.map_cons, List.map_nil, List.length_append, List.length_cons, List.length_nil, Nat.zero_add] at hL ⊢
 rw [l8_200020]
 match c, h1, h2 with
 | [x], _, _ =>
  cases hp
  simp only [iR, List.map_cons, List.map_nil, List.length_cons, List.length_nil, Nat.zero_add] at cl
  simp (maxSteps := 100000000) only [ivc, rgb, mpb, anf, vop, vslice, nilR, salloc, sappend, eq_self, Nat.reduceEqDiff, Nat.reduceLT, Nat.reduceLeDiff, Nat.reduceAdd, Nat.reduceMul, Nat.reduceBEq, Int.reduceLT, Int.reduceLE, Int.reduceToNat, reduceCtorEq, implies_true, ↓reduceIte, tyb, cl, pk, hL]
  exact some_true (by omega)
 | [x, y], _, _ =>
  cases hp
  simp only [iR, List.map_cons, List.map_nil, List.length_cons, List.length_nil, Nat.zero_add] at cl
  simp (maxSteps := 100000000) only [ivc, rgb, mpb, anf, vop, vslice, nilR, salloc, sappend, eq_self, Nat.reduceEqDiff, Nat.reduceLT, Nat.reduceLeDiff, Nat.reduceAdd, Nat.reduceMul, Nat.reduceBEq, Int.reduceLT, Int.reduceLE, Int.reduceToNat, reduceCtorEq, implies_true, ↓reduceIte, tyb, cl, pk, hL]
  exact some_true (by omega)
 | [x, y, z], _, _ =>
  cases hp
  simp only [iR, List.map_cons, List.map_nil, List.length_cons, List.length_nil, Nat.zero_add] at cl
  simp (maxSteps := 100000000) only [ivc, rgb, mpb, anf, vop, vslice, nilR, salloc, sappend, eq_self, Nat.reduceEqDiff, Nat.reduceLT, Nat.reduceLeDiff, Nat.reduceAdd, Nat.reduceMul, Nat.reduceBEq, Int.reduceLT, Int.reduceLE, Int.reduceToNat, reduceCtorEq, implies_true, ↓reduceIte, tyb, cl, pk, hL]
  exact some_true (by omega)
 | [x, y, z, w], _, _ =>
  cases hp
  simp only [iR, List.map_cons, List.map_nil, List.length_cons, List.length_nil, Nat.zero_add] at cl
  simp (maxSteps := 100000000) only [ivc, rgb, mpb, anf, vop, vslice, nilR, salloc, sappend, eq_self, Nat.reduceEqDiff, Nat.reduceLT, Nat.reduceLeDiff, Nat.reduceAdd, Nat.reduceMul, Nat.reduceBEq, Int.reduceLT, Int.reduceLE, Int.reduceToNat, reduceCtorEq, implies_true, ↓reduceIte, tyb, cl, pk, hL]
  exact some_true (by omega)
theorem rg_bad {c : List Int} {cs : List (List Int)} {ws : List Int} (h1 : 1 ≤ c.length) (h2 : c.length ≤ 4) (hc : cok c = false) :
  E.L 8 200020 (.tup (cV c :: cs.map cV) :: rgV) (rgH .nilsl (.int .i64 0) ws) = some ((.ret, rgV, rgH .nilsl (.int .i64 3) ws), True) := by
 obtain ⟨a, b, d, e, hp⟩ : ∃ a b d e, pad4 c = [a, b, d, e] := by
  match c, h1, h2 with
  | [x], _, _ => exact ⟨_, _, _, _, rfl⟩
  | [x, y], _, _ => exact ⟨_, _, _, _, rfl⟩
  | [x, y, z], _, _ => exact ⟨_, _, _, _, rfl⟩
  | [x, y, z, w], _, _ => exact ⟨_, _, _, _, rfl⟩
 have cl := clone_ev (xs := c) (by omega)
 have pk := pack_ev (a := a) (b := b) (c := d) (d := e)
 unfold packM at pk
 unfold cok at hc
 rw [hp] at hc
 have hc : (byt a && byt b && byt d && byt e) = false := hc
 rw [if_neg (by rw [hc]; simp)] at pk
 simp only [rgV, cV, rgH, uR]
 rw [l8_200020]
 match c, h1, h2 with
 | [x], _, _ =>
  cases hp
  simp only [iR, List.map_cons, List.map_nil, List.length_cons, List.length_nil, Nat.zero_add] at cl
  simp (maxSteps := 100000000) only [ivc, rgb, mpb, anf, vop, vslice, nilR, salloc, sappend, eq_self, Nat.reduceEqDiff, Nat.reduceLT, Nat.reduceLeDiff, Nat.reduceAdd, Nat.reduceMul, Nat.reduceBEq, Int.reduceLT, Int.reduceLE, Int.reduceToNat, Int.reduceBNe, reduceCtorEq, implies_true, ↓reduceIte, tyb, cl, pk]
 | [x, y], _, _ =>
  cases hp
  simp only [iR, List.map_cons, List.map_nil, List.length_cons, List.length_nil, Nat.zero_add] at cl
  simp (maxSteps := 100000000) only [ivc, rgb, mpb, anf, vop, vslice, nilR, salloc, sappend, eq_self, Nat.reduceEqDiff, Nat.reduceLT, Nat.reduceLeDiff, Nat.reduceAdd, Nat.reduceMul, Nat.reduceBEq, Int.reduceLT, Int.reduceLE, Int.reduceToNat, Int.reduceBNe, reduceCtorEq, implies_true, ↓reduceIte, tyb, cl, pk]
 | [x, y, z], _, _ =>
  cases hp
  simp only [iR, List.map_cons, List.map_nil, List.length_cons, List.length_nil, Nat.zero_add] at cl
  simp (maxSteps := 100000000) only [ivc, rgb, mpb, anf, vop, vslice, nilR, salloc, sappend, eq_self, Nat.reduceEqDiff, Nat.reduceLT, Nat.reduceLeDiff, Nat.reduceAdd, Nat.reduceMul, Nat.reduceBEq, Int.reduceLT, Int.reduceLE, Int.reduceToNat, Int.reduceBNe, reduceCtorEq, implies_true, ↓reduceIte, tyb, cl, pk]
 | [x, y, z, w], _, _ =>
  cases hp
  simp only [iR, List.map_cons, List.map_nil, List.length_cons, List.length_nil, Nat.zero_add] at cl
  simp (maxSteps := 100000000) only [ivc, rgb, mpb, anf, vop, vslice, nilR, salloc, sappend, eq_self, Nat.reduceEqDiff, Nat.reduceLT, Nat.reduceLeDiff, Nat.reduceAdd, Nat.reduceMul, Nat.reduceBEq, Int.reduceLT, Int.reduceLE, Int.reduceToNat, Int.reduceBNe, reduceCtorEq, implies_true, ↓reduceIte, tyb, cl, pk]
theorem rg_all : ∀ (cs : List (List Int)) (ws : List Int), (∀ c ∈ cs, 1 ≤ c.length /\ c.length ≤ 4 /\ cok c = true) -> ws.length + cs.length ≤ 5000 ->
  E.L 8 200020 (.tup (cs.map cV) :: rgV) (rgH .nilsl (.int .i64 0) ws) = some ((.normal, rgV, rgH .nilsl (.int .i64 0) (ws ++ cs.map cw)), True)
 | [], ws, _, _ => by
  simp only [List.map_nil, List.append_nil, rgV]
  rw [l8_1200020]
 | c :: cs, ws, h, hl => by
  obtain ⟨h1, h2, h3⟩ := h c (by simp)
  simp only [List.length_cons] at hl
  have ih := rg_all cs (ws ++ [cw c]) (fun x hx => h x (by simp [hx])) (by simp; omega)
  rw [List.append_assoc] at ih
  exact rg_ok h1 h2 (by omega) h3 ih
theorem rg_some {c : List Int} (hb : cok c = false) (h1 : 1 ≤ c.length) (h2 : c.length ≤ 4) (q : List (List Int)) : ∀ (p : List (List Int)) (ws : List Int), (∀ c ∈ p, 1 ≤ c.length /\ c.length ≤ 4 /\ cok c = true) -> ws.length + p.length ≤ 5000 ->
  E.L 8 200020 (.tup ((p ++ c :: q).map cV) :: rgV) (rgH .nilsl (.int .i64 0) ws) = some ((.ret, rgV, rgH .nilsl (.int .i64 3) (ws ++ p.map cw)), True)
 | [], ws, _, _ => by
  rw [List.nil_append, List.map_nil, List.append_nil]
  exact rg_bad h1 h2 hb
 | x :: p, ws, h, hl => by
  obtain ⟨g1, g2, g3⟩ := h x (by simp)
  simp only [List.length_cons] at hl
  have ih := rg_some hb h1 h2 q p (ws ++ [cw x]) (fun y hy => h y (by simp [hy])) (by simp; omega)
  rw [List.append_assoc] at ih
  exact rg_ok g1 g2 (by omega) g3 ih
def chL (l : List Int) : List (List Int) := (List.range ((l.length + 3) / 4)).map fun j => (l.drop (4 * j)).take 4
theorem chk_map {l : List Int} : chk (l.map (.int .i64)) = (chL l).map cV := by
 unfold chk chL
 rw [List.map_map, List.length_map]
 refine List.map_congr_left fun j _ => ?_
 simp only [chkE, cV, Function.comp, List.map_take, List.map_drop]
theorem chL_len {l : List Int} : (chL l).length = (l.length + 3) / 4 := by simp [chL]
theorem chL_mem {l c : List Int} (h : c ∈ chL l) : 1 ≤ c.length /\ c.length ≤ 4 := by
 obtain ⟨j, hj, rfl⟩ := List.mem_map.1 h
 have := List.mem_range.1 hj
 simp
 omega
theorem seq_ev {es : List AV} : AN.seq 61 [.rop (.ro 1 es) 0, .rop (.int .i64 4) 0] = some (chk es, es.length ≤ 1000000 /\ (4 : Int) = 4) := rfl
def xsOf (i : Ins) : List Int := i.x ++ (if ((rowW i.op).c == 7 && i.c == 1) = true then [i.ra] else [])
def wordsM (i : Ins) : Int × List Int :=
 if (opIn i.op && formedM i (rowW i.op)) = true then
  if (byt i.op && byt i.a && byt i.b && byt i.c) = true then
   if (xsOf i).all wok = true then
    if (chL i.l).all cok = true then (0, packN i.op i.a i.b i.c :: (xsOf i ++ (chL i.l).map cw))
    else (3, [])
   else (3, [])
  else (3, [])
 else (260, [])
def wordsV (m : Int × List Int) : AV := .tup [.ro 1 (m.2.map (.int .u32)), .int .i64 m.1]
theorem split_all {α : Type} {p : α -> Bool} : ∀ {l : List α}, l.all p = false -> ∃ a x b, l = a ++ x :: b /\ a.all p = true /\ p x = false
 | [], h => by cases h
 | y :: l, h => by
  cases hy : p y with
  | false => exact ⟨[], y, l, rfl, rfl, hy⟩
  | true =>
   rw [List.all_cons, hy, Bool.true_and] at h
   obtain ⟨a, x, b, h1, h2, h3⟩ := split_all h
   exact ⟨y :: a, x, b, by rw [h1]; rfl, by rw [List.all_cons, hy, h2]; rfl, h3⟩
theorem words_ev {i : Ins} (hx : i.x.length ≤ 100) (hl : i.l.length ≤ 1000) : E.F 8 [.agg (insA i)] [] = some ((wordsV (wordsM i), []), True) := by
 rw [e8]
 have ro := row_ev (n := i.op)
 have fo := formed_ev (i := i) (r := rowW i.op)
 have pk := pack_ev (a := i.op) (b := i.a) (c := i.b) (d := i.c)
 have ck := chunkf_ev (es := i.l.map (.int .i64))
 have cl := clone_ev (xs := i.x) (by omega)
 have sq := seq_ev (es := i.l.map (.int .i64))
 rw [chk_map] at sq
 have hxl : (xsOf i).length ≤ 1000 := by
  unfold xsOf
  split <;> simp <;> omega
 -- the loops
 have lx : (xsOf i).all wok = true -> _ := fun h => idx_ok (i := i) hxl (xsOf i) [] [packN i.op i.a i.b i.c] rfl (by simp) h
 unfold wordsM
 unfold packM at pk
 generalize hfm : formedM i (rowW i.op) = fm at fo ⊢
 cases hin : opIn i.op with
 | false =>
  rw [hin] at ro
  simp only [rowA, insA] at ro fo ⊢
  simp (maxSteps := 100000000) only [ivc, rgb, mpb, anf, vop, salloc, eq_self, Nat.reduceEqDiff, Nat.reduceLT, Nat.reduceLeDiff, Nat.reduceAdd, Nat.reduceBEq, ↓reduceIte, tyb, ro, wordsV]
 | true =>
 rw [hin] at ro
 cases fm with
 | false =>
  simp only [rowA, insA] at ro fo ⊢
  simp (maxSteps := 100000000) only [ivc, rgb, mpb, anf, vop, salloc, eq_self, Nat.reduceEqDiff, Nat.reduceLT, Nat.reduceLeDiff, Nat.reduceAdd, Nat.reduceBEq, ↓reduceIte, tyb, ro, fo, wordsV]
 | true =>
 cases hp : byt i.op && byt i.a && byt i.b && byt i.c with
 | false =>
  simp only [rowA, insA] at ro fo ⊢
  simp (maxSteps := 100000000) only [ivc, rgb, mpb, anf, vop, nilR, salloc, eq_self, Nat.reduceEqDiff, Nat.reduceLT, Nat.reduceLeDiff, Nat.reduceAdd, Nat.reduceBEq, Int.reduceBNe, ↓reduceIte, tyb, ro, fo, pk, hp, wordsV]
 | true =>
 rw [hp, if_pos rfl] at pk
 cases hax : (xsOf i).all wok with
 | false =>
  clear lx
  obtain ⟨p, n, q, hpe, hpa, hpb⟩ := split_all hax
  have l1 := idx_bad (i := i) hxl hpb p [] [packN i.op i.a i.b i.c] hpe (by simp) hpa
  clear hpe
  unfold xsOf at l1
  cases hcc : ((rowW i.op).c == 7 && i.c == 1) with
  | false =>
   simp only [hcc, Bool.false_eq_true, if_false, List.append_nil, List.length_nil, Int.natCast_zero, Int.zero_add, List.cons_append, List.nil_append, List.length_cons, Nat.zero_add, List.map_cons, List.map_nil, w8V, w8H, uR, rowA, insA] at l1 ro fo ⊢
   simp (maxSteps := 100000000) only [ivc, rgb, mpb, anf, vop, vlen, vbuiltin, nilR, salloc, eq_self, Nat.reduceEqDiff, Nat.reduceLT, Nat.reduceLeDiff, Nat.reduceAdd, Nat.reduceBEq, reduceCtorEq, ↓reduceIte, tyb, ro, fo, pk, hcc, l1, wordsV]
  | true =>
   simp only [hcc, if_true, Int.natCast_add, Int.cast_ofNat_Int, List.length_nil, Int.zero_add, List.cons_append, List.nil_append, List.length_append, List.length_cons, Nat.zero_add, List.map_append, List.map_cons, List.map_nil, w8V, w8H, uR, rowA, insA] at l1 ro fo ⊢
   simp (maxSteps := 100000000) only [ivc, rgb, mpb, anf, vop, vlen, vbuiltin, nilR, salloc, sappend, eq_self, Nat.reduceEqDiff, Nat.reduceLT, Nat.reduceLeDiff, Nat.reduceAdd, Nat.reduceMul, Nat.reduceSub, Nat.reduceBEq, reduceCtorEq, ↓reduceIte, tyb, ro, fo, pk, cl, hcc, l1, iR, wordsV]
   exact some_true (by omega)
 | true =>
  have l1 := lx hax
  clear lx
  cases hac : (chL i.l).all cok with
  | false =>
   obtain ⟨p, c, q, hpe, hpa, hpb⟩ := split_all hac
   have hcm := chL_mem (show c ∈ chL i.l by rw [hpe]; simp)
   have hpl : p.length ≤ 1000 := by
    have : (chL i.l).length = p.length + (q.length + 1) := by rw [hpe]; simp
    rw [chL_len] at this
    omega
   have l2 := rg_some hpb hcm.1 hcm.2 q p ([packN i.op i.a i.b i.c] ++ xsOf i) (fun c hc => ⟨(chL_mem (show c ∈ chL i.l by rw [hpe]; simp [hc])).1, (chL_mem (show c ∈ chL i.l by rw [hpe]; simp [hc])).2, List.all_eq_true.1 hpa c hc⟩) (by simp; omega)
   rw [<- hpe] at l2
   unfold xsOf at l1 l2
   cases hcc : ((rowW i.op).c == 7 && i.c == 1) with
   | false =>
    simp only [hcc, Bool.false_eq_true, if_false, List.append_nil, List.length_nil, Int.natCast_zero, List.cons_append, List.nil_append, List.length_append, List.length_cons, Nat.zero_add, List.map_append, List.map_cons, List.map_nil, w8V, w8H, rgV, rgH, uR, rowA, insA] at l1 l2 ro fo ⊢
    simp (maxSteps := 100000000) only [ivc, rgb, mpb, anf, vop, vlen, vbuiltin, nilR, salloc, eq_self, Nat.reduceEqDiff, Nat.reduceLT, Nat.reduceLeDiff, Nat.reduceAdd, Nat.reduceMul, Nat.reduceBEq, reduceCtorEq, ↓reduceIte, tyb, ro, fo, pk, ck, sq, hcc, l1, l2, wordsV]
    exact some_true (by omega)
   | true =>
    simp only [hcc, if_true, Int.natCast_add, Int.cast_ofNat_Int, List.length_nil, List.cons_append, List.nil_append, List.append_assoc, List.length_append, List.length_cons, Nat.zero_add, List.map_append, List.map_cons, List.map_nil, w8V, w8H, rgV, rgH, uR, rowA, insA] at l1 l2 ro fo ⊢
    simp (maxSteps := 100000000) only [ivc, rgb, mpb, anf, vop, vlen, vbuiltin, nilR, salloc, sappend, eq_self, Nat.reduceEqDiff, Nat.reduceLT, Nat.reduceLeDiff, Nat.reduceAdd, Nat.reduceMul, Nat.reduceSub, Nat.reduceBEq, reduceCtorEq, ↓reduceIte, tyb, ro, fo, pk, ck, cl, sq, hcc, l1, l2, iR, wordsV]
    exact some_true (by omega)
  | true =>
   have l2 := rg_all (chL i.l) ([packN i.op i.a i.b i.c] ++ xsOf i) (fun c hc => ⟨(chL_mem hc).1, (chL_mem hc).2, List.all_eq_true.1 hac c hc⟩) (by rw [chL_len]; simp; omega)
   unfold xsOf at l1 l2 ⊢
   cases hcc : ((rowW i.op).c == 7 && i.c == 1) with
   | false =>
    simp only [hcc, Bool.false_eq_true, if_false, List.append_nil, List.length_nil, Int.natCast_zero, List.cons_append, List.nil_append, List.length_append, List.length_cons, Nat.zero_add, List.map_append, List.map_cons, List.map_nil, w8V, w8H, rgV, rgH, uR, rowA, insA] at l1 l2 ro fo ⊢
    simp (maxSteps := 100000000) only [ivc, rgb, mpb, anf, vop, vlen, vbuiltin, nilR, salloc, eq_self, Nat.reduceEqDiff, Nat.reduceLT, Nat.reduceLeDiff, Nat.reduceAdd, Nat.reduceMul, Nat.reduceBEq, reduceCtorEq, ↓reduceIte, tyb, ro, fo, pk, ck, sq, hcc, l1, l2, wordsV]
    rw [List.take_of_length_le (by simp)]
    exact some_true (by omega)
   | true =>
    simp only [hcc, if_true, Int.natCast_add, Int.cast_ofNat_Int, List.length_nil, List.cons_append, List.nil_append, List.append_assoc, List.length_append, List.length_cons, Nat.zero_add, List.map_append, List.map_cons, List.map_nil, w8V, w8H, rgV, rgH, uR, rowA, insA] at l1 l2 ro fo ⊢
    simp (maxSteps := 100000000) only [ivc, rgb, mpb, anf, vop, vlen, vbuiltin, nilR, salloc, sappend, eq_self, Nat.reduceEqDiff, Nat.reduceLT, Nat.reduceLeDiff, Nat.reduceAdd, Nat.reduceMul, Nat.reduceSub, Nat.reduceBEq, reduceCtorEq, ↓reduceIte, tyb, ro, fo, pk, ck, cl, sq, hcc, l1, l2, iR, wordsV]
    rw [List.take_of_length_le (by simp)]
    exact some_true (by omega)
def rcW : List Int -> List Int
 | [] => []
 | [a] => [a]
 | [a, b] => [a + 256 * b]
 | [a, b, c] => [a + 256 * b + 65536 * c]
 | a :: b :: c :: d :: r => (a + 256 * b + 65536 * c + 16777216 * d) :: rcW r
end Go.Proofs.YtfdipcpmfoidoaaDoor

/- The words are the reference's. -/
namespace Go.Proofs.YtfdipcpmfoidoaaDoor
open Go Go.Aw
set_option linter.unusedSimpArgs false
set_option linter.unusedVariables false
set_option maxRecDepth 100000
set_option maxHeartbeats 4000000
def alike (r : OpRow) (s : Shp) : Bool :=
 (r.x.length == s.x.length) && (r.li == (s.b == 5)) && (!r.li || r.le == s.le) && ((r.a == 0) == (s.a == 0)) && (((r.w == 0) && (r.b == 0)) == (s.b == 0)) && (((r.w == 0) && (r.c == 0)) == ((s.c == 0) && !s.w)) && ((r.c == 7) == (s.c == 7))
theorem chL_short {l : List Int} (h : 1 ≤ l.length) (h4 : l.length ≤ 4) : chL l = [l] := by
 unfold chL
 have : (l.length + 3) / 4 = 1 := by omega
 rw [this]
 show [(l.drop 0).take 4] = [l]
 rw [List.drop_zero, List.take_of_length_le h4]
theorem chL_cons {a b c d : Int} {r : List Int} : chL (a :: b :: c :: d :: r) = [a, b, c, d] :: chL r := by
 unfold chL
 have : ((a :: b :: c :: d :: r).length + 3) / 4 = (r.length + 3) / 4 + 1 := by simp; omega
 rw [this, List.range_succ_eq_map, List.map_cons, List.map_map]
 refine congr (congrArg List.cons (by simp)) (List.map_congr_left fun j _ => ?_)
 simp only [Function.comp]
 rw [show 4 * (j + 1) = 4 * j + 1 + 1 + 1 + 1 by omega]
 rfl
theorem ch_eq : ∀ (n : Nat) (l : List Int), l.length ≤ n -> (chL l).all cok = l.all byt /\ (chL l).map cw = rcW l := by
 intro n
 induction n with
 | zero =>
  intro l h
  obtain rfl := List.eq_nil_of_length_eq_zero (Nat.le_zero.1 h)
  exact ⟨rfl, rfl⟩
 | succ n ih =>
  intro l h
  have z : byt 0 = true := rfl
  match l, h with
  | [], _ => exact ⟨rfl, rfl⟩
  | [a], _ =>
   rw [chL_short (by simp) (by simp)]
   refine ⟨by simp [cok, pad4, z], ?_⟩
   simp [cw, pad4, packN, rcW]
  | [a, b], _ =>
   rw [chL_short (by simp) (by simp)]
   refine ⟨by simp [cok, pad4, z], ?_⟩
   simp [cw, pad4, packN, rcW]
  | [a, b, c], _ =>
   rw [chL_short (by simp) (by simp)]
   refine ⟨by simp [cok, pad4, z, Bool.and_assoc], ?_⟩
   simp [cw, pad4, packN, rcW]
   omega
  | a :: b :: c :: d :: r, h =>
   obtain ⟨h1, h2⟩ := ih r (by simp at h; omega)
   rw [chL_cons, List.all_cons, List.map_cons, h1, h2]
   refine ⟨by simp [cok, pad4, Bool.and_assoc], ?_⟩
   simp [cw, pad4, packN, rcW]
   omega
end Go.Proofs.YtfdipcpmfoidoaaDoor

/- take. -/
namespace Go.Proofs.YtfdipcpmfoidoaaDoor
open Go Go.Aw
set_option linter.unusedSimpArgs false
set_option linter.unusedVariables false
set_option maxRecDepth 100000
set_option maxHeartbeats 40000000
def insL (o1 o2 : Nat) (i : Ins) : List AV := [.int .i64 i.at_, .int .i64 i.op, .int .i64 i.a, .int .i64 i.b, .int .i64 i.c, .sl o1 0 i.x.length, .int .i64 i.ra, .sl o2 0 i.l.length, .int .i64 i.n]
def tkH (b : Nat) (ok : Bool) (rest : List Int) (i : Ins) : HL := [(b, ⟨true, 1, [.ro 1 (rest.map (.int .u32))]⟩), (b + 1, ⟨true, 1, [.bool ok]⟩), (b + 2, ⟨true, 9, [.agg (insL (b + 3) (b + 4) i)]⟩), (b + 3, iR i.x), (b + 4, iR i.l)]
theorem take_none {ok : Bool} {i : Ins} : E.F 38 [.ptr 100000 0 0, .ptr 100001 0 0, .ptr 100002 0 0] (tkH 100000 ok [] i) = some ((.int .u32 0, tkH 100000 false [] i), True) := by
 simp only [tkH, insL, iR]
 rw [e38]
 simp (maxSteps := 100000000) only [ivc, rgb, mpb, anf, vlen, vbuiltin, nilR, eq_self, Nat.reduceEqDiff, Nat.reduceLT, Nat.reduceLeDiff, Nat.reduceAdd, Nat.reduceBEq, reduceCtorEq, ↓reduceIte, tyb]
theorem take_some {ok : Bool} {i : Ins} {u : Int} {us : List Int} (hn : 0 ≤ i.n /\ i.n ≤ 100000) (hl : us.length ≤ 100000) : E.F 38 [.ptr 100000 0 0, .ptr 100001 0 0, .ptr 100002 0 0] (tkH 100000 ok (u :: us) i) = some ((.int .u32 u, tkH 100000 ok us { i with n := i.n + 1 }), True) := by
 have hw : IntKind.i64.wrap (i.n + 1) = i.n + 1 := wrap_id (by omega) (by omega)
 have hq : ((us.length : Int) + 1 == 0) = false := beq_eq_false_iff_ne.2 (by omega)
 simp only [tkH, insL, iR]
 rw [e38]
 simp (maxSteps := 100000000) only [ivc, rgb, mpb, anf, vop, vslice, vlen, vbuiltin, nilR, eq_self, Nat.reduceEqDiff, Nat.reduceLT, Nat.reduceLeDiff, Nat.reduceAdd, Nat.reduceBEq, Int.reduceLE, Int.reduceToNat, reduceCtorEq, implies_true, ↓reduceIte, tyb, hw, hq]
 rw [List.take_of_length_le (by simp)]
 exact some_true (by omega)
def tkI (i : Ins) (rest : List Int) : Ins := { i with n := i.n + (if rest.isEmpty = true then 0 else 1) }
theorem take_ev {ok : Bool} {rest : List Int} {i : Ins} (hn : 0 ≤ i.n /\ i.n ≤ 100000) (hl : rest.length ≤ 100000) : E.F 38 [.ptr 100000 0 0, .ptr 100001 0 0, .ptr 100002 0 0] (tkH 100000 ok rest i) = some ((.int .u32 (rest.headD 0), tkH 100000 (ok && !rest.isEmpty) rest.tail (tkI i rest)), True) := by
 cases rest with
 | nil =>
  rw [take_none]
  simp [tkI]
 | cons u us =>
  simp only [List.length_cons] at hl
  rw [take_some hn (by omega)]
  simp [tkI]
def rdH (r : OpRow) (ok : Bool) (rest : List Int) (i : Ins) : HL := [(60000, ⟨true, 9, [.agg [.int .i64 0, .int .i64 0, .int .i64 0, .int .i64 0, .int .i64 0, .nilsl, .int .i64 0, .nilsl, .int .i64 0]]⟩), (60001, ⟨true, 9, [.agg (insL 60005 60006 i)]⟩), (60002, ⟨true, 9, [.agg (rowA r)]⟩), (60003, ⟨true, 1, [.bool ok]⟩), (60004, ⟨true, 1, [.ro 1 (rest.map (.int .u32))]⟩), (60005, iR i.x), (60006, iR i.l)]
def rdV (ws : List Int) (n : Int) (t : List AV) : List AV := [.ro 1 (ws.map (.int .u32)), .int .i64 n, .ptr 60000 0 0, .ptr 60001 0 0, .ptr 60002 0 0, .ptr 60003 0 0, .fn (.func 38) [] [.ptr 60004 0 0, .ptr 60003 0 0, .ptr 60001 0 0]] ++ t
def idxS : Nat -> Bool -> List Int -> Ins -> Bool × List Int × Ins
 | 0, ok, rest, i => (ok, rest, i)
 | k + 1, ok, rest, i => idxS k (ok && !rest.isEmpty) rest.tail { tkI i rest with x := i.x ++ [rest.headD 0] }
def u32r (n : Int) : Prop := 0 ≤ n /\ n < 4294967296
theorem u32r_head {l : List Int} (h : ∀ x ∈ l, u32r x) : u32r (l.headD 0) := by
 cases l with
 | nil => exact ⟨by simp, by simp⟩
 | cons a l => exact h a (by simp)
theorem u32r_tail {l : List Int} (h : ∀ x ∈ l, u32r x) : ∀ x ∈ l.tail, u32r x := fun x hx => h x (List.mem_of_mem_tail hx)
theorem rd_idx {ws : List Int} {n : Int} {r : OpRow} (X : Nat) (hX : X ≤ 1000) : ∀ (k j : Nat) (ok : Bool) (rest : List Int) (i : Ins), j + k = X -> (∀ x ∈ rest, u32r x) -> rest.length ≤ 100000 -> 0 ≤ i.n -> i.n ≤ 1000 + j -> i.x.length ≤ 1000 + j ->
  E.L 9 12 (rdV ws n [.int .i64 X, .int .i64 j]) (rdH r ok rest i) = some ((.exit 0, rdV ws n [.int .i64 X, .int .i64 X], rdH r (idxS k ok rest i).1 (idxS k ok rest i).2.1 (idxS k ok rest i).2.2), True) := by
 intro k
 induction k with
 | zero =>
  intro j ok rest i hj hr hrl hn0 hn hx
  obtain rfl : j = X := by omega
  have q : ((j : Int) < j) = False := eq_false (by omega)
  simp only [rdV, rdH, idxS, insL, rowA]
  rw [l9_12]
  simp (maxSteps := 100000000) only [ivc, rgb, anf, nilR, eq_self, Nat.reduceEqDiff, Nat.reduceLT, Nat.reduceLeDiff, Nat.reduceAdd, Nat.reduceBEq, reduceCtorEq, ↓reduceIte, tyb, iR, q]
 | succ k ih =>
  intro j ok rest i hj hr hrl hn0 hn hx
  have hi' : ((j : Int) < X) = True := eq_true (by omega)
  have hw1 : IntKind.i64.wrap ((j : Int) + 1) = j + 1 := wrap_id (by omega) (by omega)
  have hu := u32r_head hr
  have hw2 : IntKind.i64.wrap (rest.headD 0) = rest.headD 0 := wrap_id (by have := hu.1; omega) (by have := hu.2; omega)
  have tk := take_ev (ok := ok) (rest := rest) (i := i) ⟨hn0, by omega⟩ hrl
  have ih' := ih (j + 1) (ok && !rest.isEmpty) rest.tail { tkI i rest with x := i.x ++ [rest.headD 0] } (by omega) (u32r_tail hr) (by simp; omega) (by simp [tkI]; split <;> omega) (by simp [tkI]; split <;> omega) (by simp; omega)
  simp only [idxS]
  simp only [tkH, insL, iR, Nat.reduceAdd, tkI] at tk
  simp only [tkI, rdV, rdH, insL, rowA, iR, List.cons_append, List.nil_append, Int.natCast_add, Int.cast_ofNat_Int, List.length_append, List.length_cons, List.length_nil, Nat.zero_add, List.map_append, List.map_cons, List.map_nil] at ih' ⊢
  rw [l9_12]
  simp (maxSteps := 100000000) only [ivc, rgb, mpb, anf, vop, nilR, salloc, sappend, eq_self, Nat.reduceEqDiff, Nat.reduceLT, Nat.reduceLeDiff, Nat.reduceAdd, Nat.reduceMul, Nat.reduceSub, Nat.reduceBEq, reduceCtorEq, ↓reduceIte, tyb, hi', hw1, hw2, tk, ih']
  exact some_true (by omega)
def unp (w : Int) : List Int := [w % 256, w / 256 % 256, w / 65536 % 256, w / 16777216]
def lstS : Nat -> Nat -> Bool -> List Int -> Ins -> Bool × List Int × Ins
 | 0, _, ok, rest, i => (ok, rest, i)
 | f + 1, c, ok, rest, i => lstS f (c - 4) (ok && !rest.isEmpty) rest.tail { tkI i rest with l := i.l ++ (unp (rest.headD 0)).take c }
theorem rd_no {ws : List Int} {n k : Int} {r : OpRow} (hli : r.li = false) {ok : Bool} {rest : List Int} {i : Ins} : E.L 9 18 (rdV ws n [.int .i64 k]) (rdH r ok rest i) = some ((.exit 2, rdV ws n [.int .i64 k], rdH r ok rest i), True) := by
 simp only [rdV, rdH, insL, rowA, hli]
 rw [l9_18]
 simp (maxSteps := 100000000) only [ivc, rgb, anf, vop, nilR, eq_self, Nat.reduceEqDiff, Nat.reduceLT, Nat.reduceLeDiff, Nat.reduceAdd, Nat.reduceBEq, reduceCtorEq, ↓reduceIte, tyb, iR]
theorem rd_lst {ws : List Int} {n : Int} {r : OpRow} (hli : r.li = true) : ∀ (m c : Nat) (k : Int) (ok : Bool) (rest : List Int) (i : Ins), (c + 3) / 4 = m -> (0 < c -> k + c = i.b) -> (c = 0 -> i.b ≤ k) -> 0 ≤ k -> k ≤ 4000 -> i.b ≤ 1000 -> (∀ x ∈ rest, u32r x) -> rest.length ≤ 100000 -> 0 ≤ i.n -> i.n ≤ 5000 + k -> i.l.length + c ≤ 5000 -> i.x.length ≤ 5000 ->
  E.L 9 18 (rdV ws n [.int .i64 k]) (rdH r ok rest i) = some ((.exit 2, rdV ws n [.int .i64 (k + 4 * m)], rdH r (lstS m c ok rest i).1 (lstS m c ok rest i).2.1 (lstS m c ok rest i).2.2), True) := by
 intro m
 induction m with
 | zero =>
  intro c k ok rest i hm hc h0 hk0 hk hb hr hrl hn0 hn hl hx
  have hc0 : c = 0 := by omega
  have h1 := h0 hc0
  have q : (k < i.b) = False := eq_false (by omega)
  simp only [rdV, rdH, lstS, insL, rowA, hli, Int.natCast_zero, Int.mul_zero, Int.add_zero]
  rw [l9_18]
  simp (maxSteps := 100000000) only [ivc, rgb, anf, vop, nilR, eq_self, Nat.reduceEqDiff, Nat.reduceLT, Nat.reduceLeDiff, Nat.reduceAdd, Nat.reduceBEq, reduceCtorEq, ↓reduceIte, tyb, iR, q]
 | succ m ih =>
  intro c k ok rest i hm hc h0 hk0 hk hb hr hrl hn0 hn hl hx
  have hcp : 0 < c := by omega
  have hkc := hc hcp
  have hi' : (k < i.b) = True := eq_true (by omega)
  have hw1 : IntKind.i64.wrap (k + 4) = k + 4 := wrap_id (by omega) (by omega)
  have hw2 : IntKind.i64.wrap (i.b - k) = c := by rw [wrap_id (by omega) (by omega)]; omega
  have hu := u32r_head hr
  have tk := take_ev (ok := ok) (rest := rest) (i := i) ⟨hn0, by omega⟩ hrl
  have up := unpack_ev hu.1 hu.2
  have ih' := ih (c - 4) (k + 4) (ok && !rest.isEmpty) rest.tail { tkI i rest with l := i.l ++ (unp (rest.headD 0)).take c } (by omega) (by simp only [tkI]; omega) (by simp only [tkI]; omega) (by omega) (by omega) (by simp only [tkI]; omega) (u32r_tail hr) (by simp; omega) (by simp only [tkI]; split <;> omega) (by simp only [tkI]; split <;> omega) (by simp [unp]; omega) (by simp only [tkI]; omega)
  have e1 : k + 4 * ((m + 1 : Nat) : Int) = k + 4 + 4 * (m : Int) := by omega
  rw [e1]
  simp only [lstS]
  simp only [tkH, insL, iR, Nat.reduceAdd, tkI] at tk
  generalize hz : rest.headD 0 = z at *
  clear hr hc h0 ih
  match c, hcp, hw2, ih' with
  | 1, _, hw2, ih' =>
   have hw2 : IntKind.i64.wrap (i.b - k) = 1 := hw2
   simp only [tkI, unp, rdV, rdH, insL, rowA, iR, hli, List.cons_append, List.nil_append, List.take_succ_cons, List.take_zero, List.length_append, List.length_cons, List.length_nil, Nat.zero_add, List.map_append, List.map_cons, List.map_nil] at ih' ⊢
   rw [l9_18]
   simp (maxSteps := 100000000) only [ivc, rgb, mpb, anf, vop, vslice, vbuiltin, nilR, salloc, sappend, eq_self, Nat.reduceEqDiff, Nat.reduceLT, Nat.reduceLeDiff, Nat.reduceAdd, Nat.reduceMul, Nat.reduceSub, Nat.reduceBEq, Int.reduceLT, Int.reduceLE, Int.reduceToNat, reduceCtorEq, ↓reduceIte, tyb, hi', hw1, hw2, tk, up, ih']
   exact some_true (by omega)
  | 2, _, hw2, ih' =>
   have hw2 : IntKind.i64.wrap (i.b - k) = 2 := hw2
   simp only [tkI, unp, rdV, rdH, insL, rowA, iR, hli, List.cons_append, List.nil_append, List.take_succ_cons, List.take_zero, List.length_append, List.length_cons, List.length_nil, Nat.zero_add, Nat.reduceAdd, List.map_append, List.map_cons, List.map_nil] at ih' ⊢
   rw [l9_18]
   simp (maxSteps := 100000000) only [ivc, rgb, mpb, anf, vop, vslice, vbuiltin, nilR, salloc, sappend, eq_self, Nat.reduceEqDiff, Nat.reduceLT, Nat.reduceLeDiff, Nat.reduceAdd, Nat.reduceMul, Nat.reduceSub, Nat.reduceBEq, Int.reduceLT, Int.reduceLE, Int.reduceToNat, reduceCtorEq, ↓reduceIte, tyb, hi', hw1, hw2, tk, up, ih']
   exact some_true (by omega)
  | 3, _, hw2, ih' =>
   have hw2 : IntKind.i64.wrap (i.b - k) = 3 := hw2
   simp only [tkI, unp, rdV, rdH, insL, rowA, iR, hli, List.cons_append, List.nil_append, List.take_succ_cons, List.take_zero, List.length_append, List.length_cons, List.length_nil, Nat.zero_add, Nat.reduceAdd, List.map_append, List.map_cons, List.map_nil] at ih' ⊢
   rw [l9_18]
   simp (maxSteps := 100000000) only [ivc, rgb, mpb, anf, vop, vslice, vbuiltin, nilR, salloc, sappend, eq_self, Nat.reduceEqDiff, Nat.reduceLT, Nat.reduceLeDiff, Nat.reduceAdd, Nat.reduceMul, Nat.reduceSub, Nat.reduceBEq, Int.reduceLT, Int.reduceLE, Int.reduceToNat, reduceCtorEq, ↓reduceIte, tyb, hi', hw1, hw2, tk, up, ih']
   exact some_true (by omega)
  | c + 4, _, hw2, ih' =>
   have h4 : ((c : Int) + 4 < 4) = False := eq_false (by omega)
   simp only [Int.natCast_add, Int.cast_ofNat_Int] at hw2
   have ec : c + 4 - 4 = c := by omega
   rw [ec] at ih' ⊢
   have et : List.take (c + 4) (unp z) = unp z := List.take_of_length_le (by simp [unp])
   rw [et] at ih' ⊢
   simp only [tkI, unp, rdV, rdH, insL, rowA, iR, hli, List.cons_append, List.nil_append, List.length_append, List.length_cons, List.length_nil, Nat.zero_add, Nat.reduceAdd, List.map_append, List.map_cons, List.map_nil] at ih' ⊢
   rw [l9_18]
   simp (maxSteps := 100000000) only [ivc, rgb, mpb, anf, vop, vslice, vbuiltin, nilR, salloc, sappend, eq_self, Nat.reduceEqDiff, Nat.reduceLT, Nat.reduceLeDiff, Nat.reduceAdd, Nat.reduceMul, Nat.reduceSub, Nat.reduceBEq, Int.reduceLE, Int.reduceToNat, reduceCtorEq, ↓reduceIte, tyb, hi', hw1, hw2, tk, up, h4, ih']
   exact some_true (by omega)
theorem eq32_loop {a b : List Int} (hl : a.length = b.length) (hs : a.length ≤ 1000000) : ∀ (r r' m m' : List Int), a = m ++ r -> b = m' ++ r' -> m.length = m'.length ->
  ∃ k, E.L 11 5 [.ro 1 (a.map (.int .u32)), .ro 1 (b.map (.int .u32)), .bool false, .int .i64 a.length, .int .i64 m.length] [] = some ((if r = r' then .exit 0 else .ret, [.ro 1 (a.map (.int .u32)), .ro 1 (b.map (.int .u32)), .bool false, .int .i64 a.length, .int .i64 k], []), True) := by
 intro r
 induction r with
 | nil =>
  intro r' m m' h h' hm
  have q : ((m.length : Int) < a.length) = False := eq_false (by rw [h]; simp)
  have : r' = [] := by
   have := congrArg List.length h'; rw [h] at hl; simp at hl this; exact List.eq_nil_of_length_eq_zero (by omega)
  subst this
  refine ⟨m.length, ?_⟩
  rw [l11_5]
  simp (maxSteps := 100000000) only [ivc, rgb, anf, nilR, eq_self, Nat.reduceEqDiff, Nat.reduceLT, Nat.reduceAdd, Nat.reduceBEq, reduceCtorEq, ↓reduceIte, tyb, q]
 | cons y r ih => 
  intro r' m m' h h' hm
  have hp : 0 < r'.length := by
   have := congrArg List.length h'; rw [h] at hl; simp at hl this; omega
  obtain ⟨z, r', rfl⟩ := List.exists_cons_of_length_pos hp
  have hi' : ((m.length : Int) < a.length) = True := eq_true (by rw [h]; simp; omega)
  have hib : ((m.length : Int) < b.length) = True := eq_true (by rw [<- hl]; exact of_eq_true hi')
  have hw1 : IntKind.i64.wrap ((m.length : Int) + 1) = m.length + 1 := wrap_id (by omega) (by rw [h] at hs; simp at hs; omega)
  have hg := getD_map (f := AV.int .u32) (show a[m.length]? = some y by rw [h]; simp)
  have hg' := getD_map (f := AV.int .u32) (show b[m.length]? = some z by rw [h', hm]; simp)
  by_cases e : y = z
  ·subst e
   obtain ⟨k, ih⟩ := ih r' (m ++ [y]) (m' ++ [y]) (by rw [h]; simp) (by rw [h']; simp) (by simp [hm])
   refine ⟨k, ?_⟩
   simp only [List.length_append, List.length_cons, List.length_nil, Int.natCast_add, Int.cast_ofNat_Int, Nat.zero_add] at ih
   rw [l11_5]
   simp (maxSteps := 100000000) only [ivc, rgb, anf, nilR, eq_self, Nat.reduceEqDiff, Nat.reduceLT, Nat.reduceAdd, Nat.reduceBEq, reduceCtorEq, ↓reduceIte, tyb, hi', hib, hw1, hg, hg', ih]
   simp
  ·refine ⟨m.length, ?_⟩
   have hb : (y != z) = true := by simp [e]
   rw [l11_5]
   simp (maxSteps := 100000000) only [ivc, rgb, anf, nilR, eq_self, Nat.reduceEqDiff, Nat.reduceLT, Nat.reduceAdd, Nat.reduceBEq, reduceCtorEq, ↓reduceIte, tyb, hi', hib, hg, hg', hb]
   simp [e]
theorem eq32_ev {a b : List Int} (hs : a.length ≤ 1000000) : E.F 11 [.ro 1 (a.map (.int .u32)), .ro 1 (b.map (.int .u32))] [] = some ((.bool (decide (a = b)), []), True) := by
 by_cases hl : a.length = b.length
 ·obtain ⟨k, L⟩ := eq32_loop hl hs a b [] [] rfl rfl rfl
  have hl' : ((a.length : Int) != b.length) = false := by simp [hl]
  simp only [List.length_nil, Int.natCast_zero] at L
  rw [e11]
  by_cases e : a = b
  ·simp only [e, if_true] at L
   simp (maxSteps := 100000000) only [ivc, rgb, anf, vlen, vbuiltin, nilR, eq_self, Nat.reduceEqDiff, Nat.reduceLT, Nat.reduceLeDiff, Nat.reduceAdd, Nat.reduceBEq, reduceCtorEq, ↓reduceIte, tyb, L, e]
  ·simp only [e, if_false] at L
   simp (maxSteps := 100000000) only [ivc, rgb, anf, vlen, vbuiltin, nilR, eq_self, Nat.reduceEqDiff, Nat.reduceLT, Nat.reduceLeDiff, Nat.reduceAdd, Nat.reduceBEq, reduceCtorEq, ↓reduceIte, tyb, L, hl', e]
 ·have hl' : ((a.length : Int) != b.length) = true := by simp; omega
  have e : a ≠ b := fun h => hl (by rw [h])
  rw [e11]
  simp (maxSteps := 100000000) only [ivc, rgb, anf, vlen, vbuiltin, nilR, eq_self, Nat.reduceEqDiff, Nat.reduceLT, Nat.reduceLeDiff, Nat.reduceAdd, Nat.reduceBEq, reduceCtorEq, ↓reduceIte, tyb, hl', e]
abbrev RS := Bool × List Int × Ins
structure Kept (k : Nat) (s t : RS) : Prop where
 rest : t.2.1 = s.2.1.drop k
 sum : t.2.2.n + t.2.1.length = s.2.2.n + s.2.1.length
 lo : s.2.2.n ≤ t.2.2.n
 hi : t.2.2.n ≤ s.2.2.n + k
 a : t.2.2.a = s.2.2.a
 b : t.2.2.b = s.2.2.b
 c : t.2.2.c = s.2.2.c
 op : t.2.2.op = s.2.2.op
 at_ : t.2.2.at_ = s.2.2.at_
theorem Kept.refl (s : RS) : Kept 0 s s := ⟨by simp, rfl, by omega, by omega, rfl, rfl, rfl, rfl, rfl⟩
theorem Kept.trans {j k : Nat} {s t u : RS} (h : Kept j s t) (g : Kept k t u) : Kept (j + k) s u :=
 ⟨by rw [g.rest, h.rest, List.drop_drop], by rw [g.sum, h.sum], by have := h.lo; have := g.lo; omega, by have := h.hi; have := g.hi; omega, by rw [g.a, h.a], by rw [g.b, h.b], by rw [g.c, h.c], by rw [g.op, h.op], by rw [g.at_, h.at_]⟩
theorem kept_tk (ok ok' : Bool) (rest : List Int) (i j : Ins) (h : j.n = (tkI i rest).n) (ha : j.a = i.a) (hb : j.b = i.b) (hc : j.c = i.c) (ho : j.op = i.op) (ht : j.at_ = i.at_) : Kept 1 (ok, rest, i) (ok', rest.tail, j) := by
 refine ⟨by simp, ?_, ?_, ?_, ha, hb, hc, ho, ht⟩ <;> simp only [h, tkI] <;> cases rest <;> simp <;> omega
theorem idxS_kept : ∀ (k : Nat) (ok : Bool) (rest : List Int) (i : Ins), Kept k (ok, rest, i) (idxS k ok rest i) /\ (idxS k ok rest i).2.2.x.length = i.x.length + k /\ (idxS k ok rest i).2.2.l = i.l /\ (idxS k ok rest i).2.2.ra = i.ra
 | 0, ok, rest, i => ⟨Kept.refl _, rfl, rfl, rfl⟩
 | k + 1, ok, rest, i => by
  obtain ⟨h, hx, hl, hr⟩ := idxS_kept k (ok && !rest.isEmpty) rest.tail { tkI i rest with x := i.x ++ [rest.headD 0] }
  refine ⟨?_, ?_, hl, hr⟩
  ·have := (kept_tk ok (ok && !rest.isEmpty) rest i { tkI i rest with x := i.x ++ [rest.headD 0] } rfl rfl rfl rfl rfl rfl).trans h
   rw [Nat.add_comm 1 k] at this
   exact this
  ·simp only [idxS]; rw [hx]; simp; omega
theorem lstS_kept : ∀ (m c : Nat) (ok : Bool) (rest : List Int) (i : Ins), (c + 3) / 4 = m -> Kept m (ok, rest, i) (lstS m c ok rest i) /\ (lstS m c ok rest i).2.2.l.length = i.l.length + c /\ (lstS m c ok rest i).2.2.x = i.x /\ (lstS m c ok rest i).2.2.ra = i.ra
 | 0, c, ok, rest, i, h => ⟨Kept.refl _, by simp only [lstS]; omega, rfl, rfl⟩
 | m + 1, c, ok, rest, i, h0 => by
  obtain ⟨h, hx, hl, hr⟩ := lstS_kept m (c - 4) (ok && !rest.isEmpty) rest.tail { tkI i rest with l := i.l ++ (unp (rest.headD 0)).take c } (by omega)
  refine ⟨?_, ?_, hl, hr⟩
  ·have := (kept_tk ok (ok && !rest.isEmpty) rest i { tkI i rest with l := i.l ++ (unp (rest.headD 0)).take c } rfl rfl rfl rfl rfl rfl).trans h
   rw [Nat.add_comm 1 m] at this
   exact this
  ·simp only [lstS]; rw [hx]; simp [unp]; omega
def insZ : Ins := ⟨0, 0, 0, 0, 0, [], 0, [], 0⟩
def rdI (n w : Int) : Ins := ⟨n, w % 256, w / 256 % 256, w / 65536 % 256, w / 16777216, [], -1, [], 1⟩
def rd1 (ws : List Int) (n : Int) : RS := idxS (rowW (ws.getD n.toNat 0 % 256)).x.length true (ws.drop (n.toNat + 1)) (rdI n (ws.getD n.toNat 0))
def rd2 (r : OpRow) (s : RS) : RS := if (r.c == 7 && s.2.2.c == 1) = true then (s.1 && !s.2.1.isEmpty, s.2.1.tail, { tkI s.2.2 s.2.1 with ra := s.2.1.headD 0 }) else s
def rd3 (r : OpRow) (s : RS) : RS := if r.li = true then lstS ((s.2.2.b.toNat + 3) / 4) s.2.2.b.toNat s.1 s.2.1 s.2.2 else s
def rdS (ws : List Int) (n : Int) : RS := rd3 (rowW (ws.getD n.toNat 0 % 256)) (rd2 (rowW (ws.getD n.toNat 0 % 256)) (rd1 ws n))
def readM (ws : List Int) (n : Int) : Ins × Int :=
 if n < 0 \/ (ws.length : Int) ≤ n then (insZ, 3)
 else if opIn (ws.getD n.toNat 0 % 256) = true then
  if (rdS ws n).1 = true then
   if (wordsM (rdS ws n).2.2).1 = 0 /\ (wordsM (rdS ws n).2.2).2 = (ws.drop n.toNat).take (rdS ws n).2.2.n.toNat then ((rdS ws n).2.2, 0)
   else (insZ, 260)
  else (insZ, 260)
 else (insZ, 260)
def readV (m : Ins × Int) : AV := .tup [.agg (insA m.1), .int .i64 m.2]
theorem read_bad {ws : List Int} {n : Int} (h : n < 0 \/ (ws.length : Int) ≤ n) : E.F 9 [.ro 1 (ws.map (.int .u32)), .int .i64 n] [] = some ((readV (readM ws n), []), True) := by
 rw [e9]
 unfold readM readV
 rw [if_pos h]
 rcases h with h | h
 ·have q : (n < 0) = True := eq_true h
  simp (maxSteps := 100000000) only [ivc, rgb, mpb, anf, vop, vlen, vbuiltin, nilR, salloc, eq_self, Nat.reduceEqDiff, Nat.reduceLT, Nat.reduceLeDiff, Nat.reduceAdd, Nat.reduceBEq, Int.reduceNeg, reduceCtorEq, ↓reduceIte, tyb, q, insA, insZ]
 ·by_cases q : n < 0
  ·simp (maxSteps := 100000000) only [ivc, rgb, mpb, anf, vop, vlen, vbuiltin, nilR, salloc, eq_self, Nat.reduceEqDiff, Nat.reduceLT, Nat.reduceLeDiff, Nat.reduceAdd, Nat.reduceBEq, Int.reduceNeg, reduceCtorEq, ↓reduceIte, tyb, q, insA, insZ]
  ·have q' : ((ws.length : Int) ≤ n) = True := eq_true h
   simp (maxSteps := 100000000) only [ivc, rgb, mpb, anf, vop, vlen, vbuiltin, nilR, salloc, eq_self, Nat.reduceEqDiff, Nat.reduceLT, Nat.reduceLeDiff, Nat.reduceAdd, Nat.reduceBEq, Int.reduceNeg, reduceCtorEq, ↓reduceIte, tyb, q, q', insA, insZ]
theorem rowW_x (n : Int) : (rowW n).x.length ≤ 2 := by
 unfold rowW
 split
 ·rename_i h
  obtain ⟨h1, h2⟩ := opIn_true h
  have : ∀ k, k < 24 -> (rowsT.getD k opZ).x.length ≤ 2 := by decide
  exact this _ (by omega)
 ·simp [opZ]
theorem read_noop {ws : List Int} {n : Int} (h0 : 0 ≤ n) (h1 : n < ws.length) (hs : ws.length ≤ 100000) (hu : ∀ x ∈ ws, u32r x) (hop : opIn (ws.getD n.toNat 0 % 256) = false) : E.F 9 [.ro 1 (ws.map (.int .u32)), .int .i64 n] [] = some ((readV (readM ws n), []), True) := by
 have hg := getD_map (f := AV.int .u32) (show ws[n.toNat]? = some (ws.getD n.toNat 0) by rw [List.getD_eq_getElem?_getD, List.getElem?_eq_getElem (by omega)]; simp)
 have hw : u32r (ws.getD n.toNat 0) := by
  rw [List.getD_eq_getElem?_getD, List.getElem?_eq_getElem (by omega)]
  exact hu _ (List.getElem_mem (by omega))
 have q : (n < 0) = False := eq_false (by omega)
 have q' : ((ws.length : Int) ≤ n) = False := eq_false (by omega)
 have q2 : (n < (ws.length : Int)) = True := eq_true h1
 have q3 : (0 ≤ n) = True := eq_true h0
 have up := unpack_ev hw.1 hw.2
 have ro := row_ev (n := ws.getD n.toNat 0 % 256)
 unfold readM readV
 rw [if_neg (by omega), hop] 
 rw [hop] at ro
 rw [if_neg (by decide)]
 generalize ws.getD n.toNat 0 = w at *
 simp only [rowA] at ro
 rw [e9]
 simp (maxSteps := 100000000) only [ivc, rgb, mpb, anf, vop, vlen, vbuiltin, nilR, salloc, eq_self, Nat.reduceEqDiff, Nat.reduceLT, Nat.reduceLeDiff, Nat.reduceAdd, Nat.reduceBEq, Int.reduceNeg, reduceCtorEq, ↓reduceIte, tyb, q, q', q2, q3, hg, up, ro, insA, insZ]
theorem words_len {i : Ins} (hx : i.x.length ≤ 100) (hl : i.l.length ≤ 1000) : (wordsM i).2.length ≤ 1000 := by
 unfold wordsM
 split
 ·split
  ·split
   ·split
    ·simp only [List.length_cons, List.length_append, List.length_map, chL_len, xsOf]
     split <;> simp <;> omega
    ·simp
   ·simp
  ·simp
 ·simp
theorem rd2_kept (r : OpRow) (s : RS) : ∃ k, k ≤ 1 /\ Kept k s (rd2 r s) /\ (rd2 r s).2.2.x = s.2.2.x /\ (rd2 r s).2.2.l = s.2.2.l := by
 obtain ⟨ok, rest, i⟩ := s
 unfold rd2
 split
 ·exact ⟨1, by omega, kept_tk ok _ rest i _ rfl rfl rfl rfl rfl rfl, rfl, rfl⟩
 ·exact ⟨0, by omega, Kept.refl _, rfl, rfl⟩
theorem rd3_kept (r : OpRow) (s : RS) (hl : s.2.2.l = []) (hb : 0 ≤ s.2.2.b /\ s.2.2.b ≤ 255) : ∃ k, k ≤ 100 /\ Kept k s (rd3 r s) /\ (rd3 r s).2.2.x = s.2.2.x /\ (rd3 r s).2.2.l.length ≤ 255 := by
 obtain ⟨ok, rest, i⟩ := s
 unfold rd3
 simp only at hl hb
 split
 ·obtain ⟨h1, h2, h3, h4⟩ := lstS_kept ((i.b.toNat + 3) / 4) i.b.toNat ok rest i rfl
  refine ⟨_, ?_, h1, h3, ?_⟩
  ·omega
  ·simp only; rw [h2, hl]; simp; omega
 ·exact ⟨0, by omega, Kept.refl _, rfl, by simp [hl]⟩
theorem rd3_ev {ws : List Int} {n : Int} {r : OpRow} {s : RS} (hl : s.2.2.l = []) (hb : 0 ≤ s.2.2.b /\ s.2.2.b ≤ 255) (hr : ∀ x ∈ s.2.1, u32r x) (hrl : s.2.1.length ≤ 100000) (hn : 0 ≤ s.2.2.n /\ s.2.2.n ≤ 5000) (hx : s.2.2.x.length ≤ 5000) :
  ∃ k, E.L 9 18 (rdV ws n [.int .i64 0]) (rdH r s.1 s.2.1 s.2.2) = some ((.exit 2, rdV ws n [.int .i64 k], rdH r (rd3 r s).1 (rd3 r s).2.1 (rd3 r s).2.2), True) := by
 unfold rd3
 cases hli : r.li with
 | false => exact ⟨0, rd_no hli⟩
 | true => exact ⟨_, rd_lst hli ((s.2.2.b.toNat + 3) / 4) s.2.2.b.toNat 0 s.1 s.2.1 s.2.2 rfl (by omega) (by omega) (by omega) (by omega) (by omega) hr hrl hn.1 (by omega) (by rw [hl]; simp; omega) hx⟩
theorem read_all {ws : List Int} {n : Int} (h0 : 0 ≤ n) (h1 : n < ws.length) (hs : ws.length ≤ 90000) (hu : ∀ x ∈ ws, u32r x) (hop : opIn (ws.getD n.toNat 0 % 256) = true) : E.F 9 [.ro 1 (ws.map (.int .u32)), .int .i64 n] [] = some ((readV (readM ws n), []), True) := by
 have hg := getD_map (f := AV.int .u32) (show ws[n.toNat]? = some (ws.getD n.toNat 0) by rw [List.getD_eq_getElem?_getD, List.getElem?_eq_getElem (by omega)]; simp)
 have hw : u32r (ws.getD n.toNat 0) := by
  rw [List.getD_eq_getElem?_getD, List.getElem?_eq_getElem (by omega)]
  exact hu _ (List.getElem_mem (by omega))
 have q : (n < 0) = False := eq_false (by omega)
 have q' : ((ws.length : Int) ≤ n) = False := eq_false (by omega)
 have q2 : (n < (ws.length : Int)) = True := eq_true h1
 have q3 : (0 ≤ n) = True := eq_true h0
 have q4 : (0 ≤ n + 1) = True := eq_true (by omega)
 have q5 : (n + 1 ≤ (ws.length : Int)) = True := eq_true (by omega)
 have hw1 : IntKind.i64.wrap (n + 1) = n + 1 := wrap_id (by omega) (by omega)
 have et : (n + 1).toNat = n.toNat + 1 := by omega
 have up := unpack_ev hw.1 hw.2
 have ro := row_ev (n := ws.getD n.toNat 0 % 256)
 have hrx := rowW_x (ws.getD n.toNat 0 % 256)
 have hr0 : ∀ x ∈ ws.drop (n.toNat + 1), u32r x := fun x hx => hu x (List.mem_of_mem_drop hx)
 have hl0 : (ws.drop (n.toNat + 1)).length = ws.length - (n.toNat + 1) := List.length_drop
 have L1 := rd_idx (ws := ws) (n := n) (r := rowW (ws.getD n.toNat 0 % 256)) (rowW (ws.getD n.toNat 0 % 256)).x.length (by omega) (rowW (ws.getD n.toNat 0 % 256)).x.length 0 true (ws.drop (n.toNat + 1)) (rdI n (ws.getD n.toNat 0)) (by omega) hr0 (by omega) (by simp [rdI]) (by simp [rdI]) (by simp [rdI])
 have K1 := idxS_kept (rowW (ws.getD n.toNat 0 % 256)).x.length true (ws.drop (n.toNat + 1)) (rdI n (ws.getD n.toNat 0))
 unfold readM readV
 rw [if_neg (by omega), hop] 
 rw [hop] at ro
 rw [if_pos rfl]
 unfold rdS
 change E.L 9 12 _ _ = some ((_, _, rdH (rowW (ws.getD n.toNat 0 % 256)) (rd1 ws n).1 (rd1 ws n).2.1 (rd1 ws n).2.2), True) at L1
 change Kept _ _ (rd1 ws n) /\ (rd1 ws n).2.2.x.length = _ /\ (rd1 ws n).2.2.l = _ /\ (rd1 ws n).2.2.ra = _ at K1
 generalize rd1 ws n = s1 at *
 generalize rowW (ws.getD n.toNat 0 % 256) = r at *
 generalize ws.getD n.toNat 0 = w at *
 obtain ⟨K1, x1, l1, a1⟩ := K1
 obtain ⟨k2, hk2, K2, x2, l2⟩ := rd2_kept r s1
 have b1 : s1.2.2.b = w / 65536 % 256 := K1.b
 have b2 : (rd2 r s1).2.2.b = w / 65536 % 256 := by rw [K2.b, b1]
 have hl2 : (rd2 r s1).2.2.l = [] := by rw [l2, l1]; rfl
 obtain ⟨k3, hk3, K3, x3, l3⟩ := rd3_kept r (rd2 r s1) hl2 (by rw [b2]; omega)
 have K12 := K1.trans K2
 have K13 := K12.trans K3
 have lo1 := K1.lo
 have hi1 := K1.hi
 have lo2 := K12.lo
 have hi2 := K12.hi
 have lo3 := K13.lo
 have sm := K13.sum
 have hd0 : (rdI n w).n = 1 := rfl
 simp only [hd0, hl0] at lo1 hi1 lo2 hi2 lo3 sm
 have hr1 : ∀ x ∈ s1.2.1, u32r x := by rw [K1.rest]; exact fun x hx => hr0 x (List.mem_of_mem_drop hx)
 have hr2 : ∀ x ∈ (rd2 r s1).2.1, u32r x := by rw [K12.rest]; exact fun x hx => hr0 x (List.mem_of_mem_drop hx)
 have hln1 : s1.2.1.length ≤ 90000 := by rw [K1.rest]; simp; omega
 have hln2 : (rd2 r s1).2.1.length ≤ 90000 := by rw [K12.rest]; simp; omega
 have x0 : (rdI n w).x.length = 0 := rfl
 obtain ⟨k4, L2⟩ := rd3_ev (ws := ws) (n := n) (r := r) (s := rd2 r s1) hl2 (by rw [b2]; omega) hr2 (by omega) (by omega) (by rw [x2]; omega)
 have W := words_ev (i := (rd3 r (rd2 r s1)).2.2) (by rw [x3, x2]; omega) (by omega)
 have Wl := words_len (i := (rd3 r (rd2 r s1)).2.2) (by rw [x3, x2]; omega) (by omega)
 have tk := take_ev (ok := s1.1) (rest := s1.2.1) (i := s1.2.2) (by omega) (by omega)
 have hu2 := u32r_head hr1
 have hw2 : IntKind.i64.wrap (s1.2.1.headD 0) = s1.2.1.headD 0 := wrap_id (by have := hu2.1; omega) (by have := hu2.2; omega)
 have z3 : 1 ≤ (rd3 r (rd2 r s1)).2.2.n /\ n + (rd3 r (rd2 r s1)).2.2.n ≤ ws.length := by
  refine ⟨lo3, ?_⟩
  omega
 clear K1 K2 K3 K12 K13 sm lo1 hi1 lo2 hi2 lo3 hr1 hr2 hr0 hu
 have e0 : List.take (ws.length - (n.toNat + 1)) (List.drop (n.toNat + 1) (List.map (AV.int .u32) ws)) = List.map (AV.int .u32) (ws.drop (n.toNat + 1)) := by
  rw [List.take_of_length_le (by simp), List.map_drop]
 cases hcc : (r.c == 7 && s1.2.2.c == 1) with
 | false =>
  have r2 : rd2 r s1 = s1 := by unfold rd2; rw [hcc]; rfl
  rw [r2] at L2 W Wl z3 ⊢
  generalize rd3 r s1 = s3 at *
  obtain ⟨ok1, rest1, i1⟩ := s1
  obtain ⟨ok3, rest3, i3⟩ := s3
  simp only [rowA] at ro
  simp only [rdV, rdH, insL, iR, rowA, rdI, Int.natCast_zero, List.length_nil, List.map_nil, List.cons_append, List.nil_append] at L1 L2 hcc
  rw [e9]
  cases ok3 with
  | false =>
   simp (maxSteps := 100000000) only [ivc, rgb, mpb, anf, vop, vslice, vlen, vbuiltin, nilR, salloc, eq_self, Nat.reduceEqDiff, Nat.reduceLT, Nat.reduceLeDiff, Nat.reduceAdd, Nat.reduceBEq, Int.reduceNeg, reduceCtorEq, implies_true, ↓reduceIte, tyb, q, q', q2, q3, q4, q5, hw1, et, hg, up, ro, e0, L1, hcc, L2, insZ, insA]
   exact some_true (by omega)
  | true =>
   generalize wordsM i3 = m at W Wl ⊢
   obtain ⟨e, wl⟩ := m
   simp only [wordsV, insA] at W
   simp only at Wl z3
   by_cases he : e = 0
   ·subst he
    have hwn : IntKind.i64.wrap (n + i3.n) = n + i3.n := wrap_id (by omega) (by omega)
    have z4 : n ≤ n + i3.n := by omega
    have e6 : List.take ((n + i3.n).toNat - n.toNat) (List.drop n.toNat (List.map (AV.int .u32) ws)) = List.map (AV.int .u32) ((ws.drop n.toNat).take i3.n.toNat) := by
     rw [List.map_take, List.map_drop, show (n + i3.n).toNat - n.toNat = i3.n.toNat by omega]
    have EQ := eq32_ev (a := wl) (b := (ws.drop n.toNat).take i3.n.toNat) (by omega)
    by_cases hq : wl = (ws.drop n.toNat).take i3.n.toNat
    ·rw [decide_eq_true hq] at EQ
     have hq' := eq_true hq
     simp (maxSteps := 100000000) only [ivc, rgb, mpb, anf, vop, vslice, vlen, vbuiltin, nilR, salloc, eq_self, Nat.reduceEqDiff, Nat.reduceLT, Nat.reduceLeDiff, Nat.reduceAdd, Nat.reduceMul, Nat.reduceBEq, Int.reduceNeg, reduceCtorEq, implies_true, ↓reduceIte, tyb, q, q', q2, q3, q4, q5, hw1, et, hg, up, ro, e0, L1, hcc, L2, insA, W, hwn, z4, z3, e6, EQ, hq']
     exact some_true (by omega)
    ·rw [decide_eq_false hq] at EQ
     simp (maxSteps := 100000000) only [ivc, rgb, mpb, anf, vop, vslice, vlen, vbuiltin, nilR, salloc, eq_self, Nat.reduceEqDiff, Nat.reduceLT, Nat.reduceLeDiff, Nat.reduceAdd, Nat.reduceMul, Nat.reduceBEq, Int.reduceNeg, reduceCtorEq, implies_true, ↓reduceIte, tyb, q, q', q2, q3, q4, q5, hw1, et, hg, up, ro, e0, L1, hcc, L2, insZ, insA, W, hwn, z4, z3, e6, EQ, hq, and_false]
     exact some_true (by omega)
   ·have he' : (e != 0) = true := by simp [he]
    simp (maxSteps := 100000000) only [ivc, rgb, mpb, anf, vop, vslice, vlen, vbuiltin, nilR, salloc, eq_self, Nat.reduceEqDiff, Nat.reduceLT, Nat.reduceLeDiff, Nat.reduceAdd, Nat.reduceBEq, Int.reduceNeg, reduceCtorEq, implies_true, ↓reduceIte, tyb, q, q', q2, q3, q4, q5, hw1, et, hg, up, ro, e0, L1, hcc, L2, insZ, insA, W, he, he']
    exact some_true (by omega)
 | true =>
  have r2 : rd2 r s1 = (s1.1 && !s1.2.1.isEmpty, s1.2.1.tail, { tkI s1.2.2 s1.2.1 with ra := s1.2.1.headD 0 }) := by unfold rd2; rw [hcc]; rfl
  rw [r2] at L2 W Wl z3 ⊢
  generalize rd3 r (s1.1 && !s1.2.1.isEmpty, s1.2.1.tail, { tkI s1.2.2 s1.2.1 with ra := s1.2.1.headD 0 }) = s3 at *
  obtain ⟨ok1, rest1, i1⟩ := s1
  obtain ⟨ok3, rest3, i3⟩ := s3
  simp only [rowA] at ro
  simp only [rdV, rdH, insL, iR, rowA, rdI, Int.natCast_zero, List.length_nil, List.map_nil, List.cons_append, List.nil_append] at L1 L2 hcc
  simp only [tkH, insL, iR, Nat.reduceAdd] at tk
  rw [e9]
  cases ok3 with
  | false =>
   simp (maxSteps := 100000000) only [ivc, rgb, mpb, anf, vop, vslice, vlen, vbuiltin, nilR, salloc, eq_self, Nat.reduceEqDiff, Nat.reduceLT, Nat.reduceLeDiff, Nat.reduceAdd, Nat.reduceMul, Nat.reduceBEq, Int.reduceNeg, reduceCtorEq, implies_true, ↓reduceIte, tyb, q, q', q2, q3, q4, q5, hw1, et, hg, up, ro, e0, L1, hcc, L2, tk, hw2, insZ, insA]
   exact some_true (by omega)
  | true =>
   generalize wordsM i3 = m at W Wl ⊢
   obtain ⟨e, wl⟩ := m
   simp only [wordsV, insA] at W
   simp only at Wl z3
   by_cases he : e = 0
   ·subst he
    have hwn : IntKind.i64.wrap (n + i3.n) = n + i3.n := wrap_id (by omega) (by omega)
    have z4 : n ≤ n + i3.n := by omega
    have e6 : List.take ((n + i3.n).toNat - n.toNat) (List.drop n.toNat (List.map (AV.int .u32) ws)) = List.map (AV.int .u32) ((ws.drop n.toNat).take i3.n.toNat) := by
     rw [List.map_take, List.map_drop, show (n + i3.n).toNat - n.toNat = i3.n.toNat by omega]
    have EQ := eq32_ev (a := wl) (b := (ws.drop n.toNat).take i3.n.toNat) (by omega)
    by_cases hq : wl = (ws.drop n.toNat).take i3.n.toNat
    ·rw [decide_eq_true hq] at EQ
     have hq' := eq_true hq
     simp (maxSteps := 100000000) only [ivc, rgb, mpb, anf, vop, vslice, vlen, vbuiltin, nilR, salloc, eq_self, Nat.reduceEqDiff, Nat.reduceLT, Nat.reduceLeDiff, Nat.reduceAdd, Nat.reduceMul, Nat.reduceBEq, Int.reduceNeg, reduceCtorEq, implies_true, ↓reduceIte, tyb, q, q', q2, q3, q4, q5, hw1, et, hg, up, ro, e0, L1, hcc, L2, tk, hw2, insA, W, hwn, z4, z3, e6, EQ, hq']
     exact some_true (by omega)
    ·rw [decide_eq_false hq] at EQ
     simp (maxSteps := 100000000) only [ivc, rgb, mpb, anf, vop, vslice, vlen, vbuiltin, nilR, salloc, eq_self, Nat.reduceEqDiff, Nat.reduceLT, Nat.reduceLeDiff, Nat.reduceAdd, Nat.reduceMul, Nat.reduceBEq, Int.reduceNeg, reduceCtorEq, implies_true, ↓reduceIte, tyb, q, q', q2, q3, q4, q5, hw1, et, hg, up, ro, e0, L1, hcc, L2, tk, hw2, insZ, insA, W, hwn, z4, z3, e6, EQ, hq, and_false]
     exact some_true (by omega)
   ·have he' : (e != 0) = true := by simp [he]
    simp (maxSteps := 100000000) only [ivc, rgb, mpb, anf, vop, vslice, vlen, vbuiltin, nilR, salloc, eq_self, Nat.reduceEqDiff, Nat.reduceLT, Nat.reduceLeDiff, Nat.reduceAdd, Nat.reduceMul, Nat.reduceBEq, Int.reduceNeg, reduceCtorEq, implies_true, ↓reduceIte, tyb, q, q', q2, q3, q4, q5, hw1, et, hg, up, ro, e0, L1, hcc, L2, tk, hw2, insZ, insA, W, he, he']
    exact some_true (by omega)
theorem read_ev {ws : List Int} {n : Int} (hs : ws.length ≤ 90000) (hu : ∀ x ∈ ws, u32r x) : E.F 9 [.ro 1 (ws.map (.int .u32)), .int .i64 n] [] = some ((readV (readM ws n), []), True) := by
 by_cases h : n < 0 \/ (ws.length : Int) ≤ n
 ·exact read_bad h
 ·cases hop : opIn (ws.getD n.toNat 0 % 256) with
  | false => exact read_noop (by omega) (by omega) (by omega) hu hop
  | true => exact read_all (by omega) (by omega) hs hu hop
theorem readM_n {ws : List Int} {n : Int} (h : (readM ws n).2 = 0) : 1 ≤ (readM ws n).1.n /\ n + (readM ws n).1.n ≤ ws.length /\ 0 ≤ n /\ n < ws.length /\ (readM ws n).1.x.length ≤ 100 /\ (readM ws n).1.l.length ≤ 255 := by
 unfold readM at h ⊢
 split at h
 ·cases h
 ·rename_i h0
  rw [if_neg h0]
  split at h
  ·rename_i h1
   rw [if_pos h1]
   split at h
   ·rename_i h2
    rw [if_pos h2]
    split at h
    ·rename_i h3
     rw [if_pos h3]
     simp only
     unfold rdS
     have hrx := rowW_x (ws.getD n.toNat 0 % 256)
     have K1 := idxS_kept (rowW (ws.getD n.toNat 0 % 256)).x.length true (ws.drop (n.toNat + 1)) (rdI n (ws.getD n.toNat 0))
     change Kept _ _ (rd1 ws n) /\ (rd1 ws n).2.2.x.length = _ /\ (rd1 ws n).2.2.l = _ /\ (rd1 ws n).2.2.ra = _ at K1
     generalize rd1 ws n = s1 at *
     generalize rowW (ws.getD n.toNat 0 % 256) = r at *
     generalize ws.getD n.toNat 0 = w at *
     obtain ⟨K1, x1, l1, a1⟩ := K1
     obtain ⟨k2, hk2, K2, x2, l2⟩ := rd2_kept r s1
     have b1 : s1.2.2.b = w / 65536 % 256 := K1.b
     have b2 : (rd2 r s1).2.2.b = w / 65536 % 256 := by rw [K2.b, b1]
     have hl2 : (rd2 r s1).2.2.l = [] := by rw [l2, l1]; rfl
     obtain ⟨k3, hk3, K3, x3, l3⟩ := rd3_kept r (rd2 r s1) hl2 (by rw [b2]; omega)
     have K13 := (K1.trans K2).trans K3
     have lo3 := K13.lo
     have sm := K13.sum
     have hd0 : (rdI n w).n = 1 := rfl
     have hl0 : (ws.drop (n.toNat + 1)).length = ws.length - (n.toNat + 1) := List.length_drop
     have hx0 : (rdI n w).x.length = 0 := rfl
     simp only [hd0, hl0] at lo3 sm
     refine ⟨lo3, by omega, by omega, by omega, ?_, l3⟩
     rw [x3, x2]; omega
    ·cases h
   ·cases h
  ·cases h
def allM (rd : Int -> Ins × Int) (len : Nat) : Nat -> Int -> List Ins -> List Ins × Int × Int
 | 0, _, acc => (acc, 0, 0)
 | f + 1, p, acc => if p < len then if (rd p).2 = 0 then allM rd len f (p + (rd p).1.n) (acc ++ [(rd p).1]) else ([], p, (rd p).2) else (acc, 0, 0)
def insV (i : Ins) : AV := .agg (insA i)
instance rf_ins : RowF insV := ⟨fun i => by simp [insV, insA, AV.pure, AV.pure.pures], fun i => by rfl⟩
def alV (ws : List Int) (l : List Ins) (a b p : Int) : List AV := [.ro 1 (ws.map (.int .u32)), .sl 60000 0 0, .int .i64 a, .int .i64 b, .sl 60001 0 l.length, .int .i64 p]
def alH (l : List Ins) : HL := [(60000, ⟨false, 9, []⟩), (60001, ⟨false, 9, l.map insV⟩)]
def alR (ws : List Int) (m : List Ins × Int × Int) (x : Option ((Exit × List AV × HL) × Prop)) : Prop :=
 if m.2.2 = 0 then ∃ p, x = some ((.exit 0, alV ws m.1 0 0 p, alH m.1), True) else ∃ p l, x = some ((.ret, alV ws l m.2.1 m.2.2 p, alH l), True)
theorem all_loop {ws : List Int} (hs : ws.length ≤ 90000) (hu : ∀ x ∈ ws, u32r x) : ∀ (f : Nat) (p : Nat) (l : List Ins), ws.length ≤ p + f -> l.length ≤ p -> p ≤ ws.length ->
  alR ws (allM (readM ws) ws.length f p l) (E.L 12 4 (alV ws l 0 0 p) (alH l)) := by
 intro f
 induction f with
 | zero =>
  intro p l h hl hp
  refine ⟨p, ?_⟩
  have q : ((p : Int) < ws.length) = False := eq_false (by omega)
  simp only [allM, alV, alH]
  rw [l12_4]
  simp (maxSteps := 100000000) only [ivc, rgb, anf, vlen, vbuiltin, nilR, eq_self, Nat.reduceEqDiff, Nat.reduceLT, Nat.reduceLeDiff, Nat.reduceAdd, Nat.reduceBEq, reduceCtorEq, ↓reduceIte, tyb, q]
 | succ f ih =>
  intro p l h hl hp
  unfold allM
  by_cases hlt : (p : Int) < ws.length
  ·have hlt' := eq_true hlt
   have R := read_ev (ws := ws) (n := p) hs hu
   have N := readM_n (ws := ws) (n := p)
   simp only [readV] at R
   rw [if_pos hlt]
   generalize readM ws (p : Int) = r at *
   obtain ⟨i, e⟩ := r
   simp only at R N ⊢
   by_cases he : e = 0
   ·subst he
    rw [if_pos rfl]
    obtain ⟨n1, n2, n3, n4, n5, n6⟩ := N rfl
    have hw1 : IntKind.i64.wrap ((p : Int) + i.n) = p + i.n := wrap_id (by omega) (by omega)
    have ih' := ih (p + i.n.toNat) (l ++ [i]) (by omega) (by simp; omega) (by omega)
    have ec : ((p + i.n.toNat : Nat) : Int) = p + i.n := by omega
    rw [ec] at ih'
    have hV : insV i = .agg (insA i) := rfl
    simp only [insA] at R hV
    have e0 : ((0 : Int) != 0) = false := rfl
    generalize allM (readM ws) ws.length f (p + i.n) (l ++ [i]) = m at ih' ⊢
    obtain ⟨ml, mp, me⟩ := m
    unfold alR at ih' ⊢
    by_cases hm : me = 0
    ·rw [if_pos hm] at ih' ⊢
     obtain ⟨p2, ih'⟩ := ih'
     refine ⟨p2, ?_⟩
     simp only [alV, alH, hV, List.map_append, List.map_cons, List.map_nil, List.length_append, List.length_cons, List.length_nil, Nat.zero_add] at ih' ⊢
     rw [l12_4]
     simp (maxSteps := 100000000) only [ivc, rgb, mpb, anf, vop, vlen, vbuiltin, nilR, salloc, sappend, eq_self, Nat.reduceEqDiff, Nat.reduceLT, Nat.reduceLeDiff, Nat.reduceAdd, Nat.reduceMul, Nat.reduceBEq, reduceCtorEq, ↓reduceIte, tyb, hlt', R, hw1, ih']
     exact some_true (by omega)
    ·rw [if_neg hm] at ih' ⊢
     obtain ⟨p2, l2, ih'⟩ := ih'
     refine ⟨p2, l2, ?_⟩
     simp only [alV, alH, hV, List.map_append, List.map_cons, List.map_nil, List.length_append, List.length_cons, List.length_nil, Nat.zero_add] at ih' ⊢
     rw [l12_4]
     simp (maxSteps := 100000000) only [ivc, rgb, mpb, anf, vop, vlen, vbuiltin, nilR, salloc, sappend, eq_self, Nat.reduceEqDiff, Nat.reduceLT, Nat.reduceLeDiff, Nat.reduceAdd, Nat.reduceMul, Nat.reduceBEq, reduceCtorEq, ↓reduceIte, tyb, hlt', R, hw1, ih']
     exact some_true (by omega)
   ·have he' : (e != 0) = true := by simp [he]
    rw [if_neg he]
    unfold alR
    rw [if_neg he]
    refine ⟨p, l, ?_⟩
    clear ih N
    simp only [alV, alH, insA] at R ⊢
    rw [l12_4]
    simp (maxSteps := 100000000) only [ivc, rgb, mpb, anf, vop, vlen, vbuiltin, nilR, salloc, eq_self, Nat.reduceEqDiff, Nat.reduceLT, Nat.reduceLeDiff, Nat.reduceAdd, Nat.reduceBEq, reduceCtorEq, ↓reduceIte, tyb, hlt', R, he']
  ·rw [if_neg hlt]
   have q := eq_false hlt
   refine ⟨p, ?_⟩
   simp only [alV, alH]
   rw [l12_4]
   simp (maxSteps := 100000000) only [ivc, rgb, anf, vlen, vbuiltin, nilR, eq_self, Nat.reduceEqDiff, Nat.reduceLT, Nat.reduceLeDiff, Nat.reduceAdd, Nat.reduceBEq, reduceCtorEq, ↓reduceIte, tyb, q]
theorem allM_err (rd : Int -> Ins × Int) (len : Nat) : ∀ (f : Nat) (p : Int) (l : List Ins), ((allM rd len f p l).2.2 = 0 -> (allM rd len f p l).2.1 = 0) /\ ((allM rd len f p l).2.2 ≠ 0 -> (allM rd len f p l).1 = [])
 | 0, p, l => ⟨fun _ => rfl, fun h => absurd rfl h⟩
 | f + 1, p, l => by
  unfold allM
  split
  ·split
   ·exact allM_err rd len f _ _
   ·rename_i h
    exact ⟨fun h' => absurd h' h, fun _ => rfl⟩
  ·exact ⟨fun _ => rfl, fun h => absurd rfl h⟩
theorem all_ev {ws : List Int} (hs : ws.length ≤ 90000) (hu : ∀ x ∈ ws, u32r x) : E.F 12 [.ro 1 (ws.map (.int .u32))] [] = some ((.tup [.ro 9 ((allM (readM ws) ws.length ws.length 0 []).1.map insV), .int .i64 (allM (readM ws) ws.length ws.length 0 []).2.1, .int .i64 (allM (readM ws) ws.length ws.length 0 []).2.2], []), True) := by
 have L := all_loop hs hu ws.length 0 [] (by omega) (by simp) (by omega)
 simp only [Int.natCast_zero] at L
 have E := allM_err (readM ws) ws.length ws.length 0 []
 generalize allM (readM ws) ws.length ws.length 0 [] = m at L E ⊢
 obtain ⟨ml, mp, me⟩ := m
 simp only at E
 unfold alR at L
 by_cases hm : me = 0
 ·rw [if_pos hm] at L
  obtain ⟨p, L⟩ := L
  obtain rfl := hm
  obtain rfl := E.1 rfl
  simp only [alV, alH, List.length_nil, List.map_nil] at L
  rw [e12]
  simp (maxSteps := 100000000) only [ivc, rgb, anf, eq_self, Nat.reduceEqDiff, Nat.reduceLT, Nat.reduceLeDiff, Nat.reduceAdd, Nat.reduceBEq, reduceCtorEq, ↓reduceIte, L]
 ·rw [if_neg hm] at L
  obtain ⟨p, l2, L⟩ := L
  obtain rfl := E.2 hm
  simp only [alV, alH, List.length_nil, List.map_nil] at L
  rw [e12]
  simp (maxSteps := 100000000) only [ivc, rgb, anf, eq_self, Nat.reduceEqDiff, Nat.reduceLT, Nat.reduceLeDiff, Nat.reduceAdd, Nat.reduceBEq, reduceCtorEq, ↓reduceIte, L]
end Go.Proofs.YtfdipcpmfoidoaaDoor

/- What the row of the flows needs: the tables, types of what comes in. -/
namespace Go.Proofs.YtfdipcpmfoidoaaDoor
open Go Go.Aw
set_option maxRecDepth 100000
theorem own : ownKnob Tryd.prog.godebug = none := by kernel_rfl
theorem laidOut : laidOutB Tryd.prog = true := by kernel_rfl
def laidL : List (String × DataW Unit) := [("unicode/utf8.acceptRanges", Rows.laid_unicode_utf8_acceptRanges), ("hackamore/code.table", Rows.laid_hackamore_code_table), ("unicode/utf8.first", Rows.laid_unicode_utf8_first)]
theorem gT0 : Tryd.prog.globalNamed "hackamore/code.table" = some 0 := by kernel_rfl
theorem gT1 : Tryd.prog.globalNamed "unicode/utf8.first" = some 1 := by kernel_rfl
theorem gT2 : Tryd.prog.globalNamed "unicode/utf8.acceptRanges" = some 2 := by kernel_rfl
theorem tab_dat0 : datA (H := Unit) Tryd.prog 10 124 Rows.laid_hackamore_code_table = some tabA := by kernel_rfl
theorem tab_dat1 : datA (H := Unit) Tryd.prog 10 140 Rows.laid_unicode_utf8_first = some firstA := by kernel_rfl
theorem tab_dat2 : datA (H := Unit) Tryd.prog 10 143 Rows.laid_unicode_utf8_acceptRanges = some accA := by kernel_rfl
theorem laidMet_tail {P : Program} {x : String × DataW Unit} {r : List (String × DataW Unit)} {W : World} (h : laidMet P (x :: r) W) : laidMet P r W := by
 obtain ⟨ps, ⟨g, t, cs, fuel, p, q, h1, h2, h3, h4, h5, rfl⟩, nd, hc⟩ := h
 exact ⟨q, h5, (List.nodup_append.1 nd).2.1, fun b off hb => hc b off (List.mem_append_right _ hb)⟩
theorem tab_laid {W : World} (h : laidMetH Tryd.prog laidL W) : ∀ g, RV ⟨noμ, oldB W⟩ noH W (G g) (.pointer (some ⟨g, 0, none⟩)) := by
 have h2 : laidMet Tryd.prog (("unicode/utf8.acceptRanges", Rows.laid_unicode_utf8_acceptRanges) :: [("hackamore/code.table", Rows.laid_hackamore_code_table), ("unicode/utf8.first", Rows.laid_unicode_utf8_first)]) W := by
  rw [MakeChecks.laidMetH_plain _ _ _ (by kernel_rfl)] at h
  exact h
 have h0 := laidMet_tail h2
 have h1 := laidMet_tail h0
 intro g
 by_cases hg : g = 0
 ·subst hg
  exact rop_laid (l := [124, 85, 83, 82, 80, 81, 3, 4]) (by kernel_rfl) (t := 124) gT0 (by kernel_rfl) (by kernel_rfl) tab_dat0 (by decide) h0
 ·by_cases hg1 : g = 1
  ·subst hg1
   exact rop_laid (l := [140, 5]) (by kernel_rfl) (t := 140) gT1 (by kernel_rfl) (by kernel_rfl) tab_dat1 (by decide) h1
  ·by_cases hg2 : g = 2
   ·subst hg2
    exact rop_laid (l := [143, 142, 5]) (by kernel_rfl) (t := 143) gT2 (by kernel_rfl) (by kernel_rfl) tab_dat2 (by decide) h2
   ·rw [show G g = .junk by unfold G; rw [if_neg hg, if_neg hg1, if_neg hg2]]
    exact .junk _
theorem door_met (os : Os) (args : Array Value) : laidMetH Tryd.prog laidL ((World.laidAll Tryd.prog os laidL).forCall (fun _ _ => 0) ⟨#[], args, []⟩).memory := by
 rw [MakeChecks.laidMetH_plain _ _ _ (by kernel_rfl)]
 exact laidMet_laidAll _ (by kernel_rfl) (by kernel_rfl)
theorem wf32 {x : Int} (h : (Lit.int .u32 x).wf = true) : u32r x := by
 simp only [Lit.wf, Bool.and_eq_true, decide_eq_true_eq] at h
 have h1 : 0 ≤ x := h.1
 have h2 : x ≤ 4294967295 := h.2
 exact ⟨h1, by omega⟩
theorem sl_of {α : Type} {f : α -> AV} {t e : TypeId} {c : Nat} {Q : α -> Prop} {n : Nat} {xs : List AV} (hu : Tryd.prog.underlying t = some (.slice e)) (hc : Tryd.prog.cellsOf e = c) (hb : 0 < Tryd.prog.bytesOf e)
  (he : ∀ (k : Nat) (y : AV), k < n -> typed Tryd.prog k e y.cells -> isE Tryd.prog e y -> ∃ a, Q a /\ y = f a) (h : typed Tryd.prog n t xs) : ∃ l : List α, lenB l /\ (∀ a ∈ l, Q a) /\ xs = [.ro c (l.map f)] := by
 cases n with
 | zero => exact h.elim
 | succ n =>
  simp only [typed, hu] at h
  obtain ⟨es, ⟨h1, h2⟩, h3, rfl⟩ := h
  obtain ⟨l, hl, rfl⟩ := list_map_of (f := f) (Q := Q) (es := es) fun y hy => he n y (Nat.lt_succ_self n) (h3 y hy).1 (h3 y hy).2
  refine ⟨l, ?_, hl, by rw [hc]⟩
  have h4 : l.length * 1 ≤ l.length * Tryd.prog.bytesOf e := Nat.mul_le_mul (Nat.le_refl _) hb
  rw [List.length_map] at h2
  unfold reachBytes at h2
  unfold lenB
  omega
theorem st_of {n : Nat} {t : TypeId} {fs : Array Field} {xs : List AV} (hu : Tryd.prog.underlying t = some (.struct fs)) (h : typed Tryd.prog n t xs) {ts : List TypeId} (hts : fs.toList.map (·.type) = ts) : ∃ m, m < n /\ typedL Tryd.prog m ts xs := by
 cases n with
 | zero => exact h.elim
 | succ n =>
  simp only [typed, hu] at h
  obtain ⟨xss, rfl, h1, h2⟩ := h
  exact ⟨n, Nat.lt_succ_self n, hts ▸ typedL_of h1 h2⟩
theorem cells_agg {cs : List AV} : (AV.agg cs).cells = cs := rfl
theorem num_of {n : Nat} {xs : List AV} (h : typed Tryd.prog n 3 xs) : ∃ x, xs = [.int .i64 x] := by
 obtain ⟨k, hk, e⟩ := typed_int Tryd.underlying3 h
 exact ⟨k, e⟩
theorem u64_of {n : Nat} {xs : List AV} (h : typed Tryd.prog n 110 xs) : ∃ x, xs = [.int .u64 x] := by
 obtain ⟨k, hk, e⟩ := typed_int Tryd.underlying110 h
 exact ⟨k, e⟩
theorem str_of {n : Nat} {xs : List AV} (h : typed Tryd.prog n 9 xs) : ∃ s, xs = [.str s] := by
 obtain ⟨s, _, _, e⟩ := typed_string Tryd.underlying9 h
 exact ⟨s, e⟩
theorem nums_of {n : Nat} {xs : List AV} (h : typed Tryd.prog n 25 xs) : ∃ l : List Int, lenB l /\ xs = [.ro 1 (l.map (AV.int .i64))] := by
 obtain ⟨l, h1, _, h2⟩ := sl_of (f := AV.int .i64) (Q := fun _ => True) (c := 1) Tryd.underlying25 (by kernel_rfl) (by decide +kernel) (fun k y _ hy hi => by
  obtain ⟨x, e⟩ := num_of hy
  simp only [isE, Tryd.underlying3] at hi
  rw [hi] at e
  exact ⟨x, trivial, by simpa using e⟩) h
 exact ⟨l, h1, h2⟩
theorem words_of {n : Nat} {xs : List AV} (h : typed Tryd.prog n 24 xs) : ∃ l : List Int, lenB l /\ (∀ x ∈ l, u32r x) /\ xs = [.ro 1 (l.map (AV.int .u32))] :=
 sl_of (f := AV.int .u32) (Q := fun x => u32r x) (c := 1) Tryd.underlying24 (by kernel_rfl) (by decide +kernel) (fun k y _ hy hi => by
  obtain ⟨x, hx, e⟩ := typed_int Tryd.underlying35 hy
  simp only [isE, Tryd.underlying35] at hi
  rw [hi] at e
  exact ⟨x, wf32 hx, by simpa using e⟩) h
theorem texts_of {n : Nat} {xs : List AV} (h : typed Tryd.prog n 62 xs) : ∃ l : List ByteArray, lenB l /\ xs = [.ro 1 (l.map AV.str)] := by
 obtain ⟨l, h1, _, h2⟩ := sl_of (f := AV.str) (Q := fun _ => True) (c := 1) Tryd.underlying62 (by kernel_rfl) (by decide +kernel) (fun k y _ hy hi => by
  obtain ⟨x, e⟩ := str_of hy
  simp only [isE, Tryd.underlying9] at hi
  rw [hi] at e
  exact ⟨x, trivial, by simpa using e⟩) h
 exact ⟨l, h1, h2⟩
theorem map_of {n : Nat} {y : AV} (h : typed Tryd.prog n 115 y.cells) (hi : isE Tryd.prog 115 y) : ∃ m : Mq, lenB m.live /\ y = mqA m := by
 obtain ⟨cs, rfl⟩ := isE_struct Tryd.underlying115 hi
 rw [cells_agg] at h
 obtain ⟨m, _, y0, r0, rfl, h0, y1, r1, rfl, h1, rfl⟩ := st_of Tryd.underlying115 h rfl
 obtain ⟨a0, rfl⟩ := num_of h0
 obtain ⟨a1, w1, rfl⟩ := nums_of h1
 exact ⟨⟨a0, a1⟩, w1, rfl⟩
theorem slot_of {n : Nat} {y : AV} (h : typed Tryd.prog n 159 y.cells) (hi : isE Tryd.prog 159 y) : ∃ m : Int × Int, True /\ y = slA m := by
 obtain ⟨cs, rfl⟩ := isE_struct Tryd.underlying159 hi
 rw [cells_agg] at h
 obtain ⟨m, _, y0, r0, rfl, h0, y1, r1, rfl, h1, rfl⟩ := st_of Tryd.underlying159 h rfl
 obtain ⟨a0, rfl⟩ := num_of h0
 obtain ⟨a1, rfl⟩ := num_of h1
 exact ⟨(a0, a1), trivial, rfl⟩
theorem fun_of {n : Nat} {y : AV} (h : typed Tryd.prog n 75 y.cells) (hi : isE Tryd.prog 75 y) : ∃ f : Fq, (bF f /\ ∀ x ∈ f.ws, u32r x) /\ y = fqA f := by
 obtain ⟨cs, rfl⟩ := isE_struct Tryd.underlying75 hi
 rw [cells_agg] at h
 obtain ⟨m, _, y0, r0, rfl, h0, y1, r1, rfl, h1, y2, r2, rfl, h2, y3, r3, rfl, h3, y4, r4, rfl, h4, rfl⟩ := st_of Tryd.underlying75 h rfl
 obtain ⟨a0, rfl⟩ := str_of h0
 obtain ⟨a1, rfl⟩ := num_of h1
 obtain ⟨a2, w2, rfl⟩ := nums_of h2
 obtain ⟨a3, w3, u3, rfl⟩ := words_of h3
 obtain ⟨a4, w4, u4, rfl⟩ := sl_of (f := mqA) (Q := fun m => lenB m.live) (c := 2) Tryd.underlying73 (by kernel_rfl) (by decide +kernel) (fun k y _ hy hi => map_of hy hi) h4
 exact ⟨⟨a0, a1, a2, a3, a4⟩, ⟨⟨w2, w3, w4, u4⟩, u3⟩, rfl⟩
theorem tp_of (n : Nat) : ∀ {y : AV}, typed Tryd.prog n 106 y.cells -> isE Tryd.prog 106 y -> ∃ t : Tp, bT t /\ y = tpA t := by
 induction n using Nat.strongRecOn with
 | ind n ih =>
  intro y h hi
  obtain ⟨cs, rfl⟩ := isE_struct Tryd.underlying106 hi
  rw [cells_agg] at h
  obtain ⟨m, hm, y0, r0, rfl, h0, y1, r1, rfl, h1, y2, r2, rfl, h2, y3, r3, rfl, h3, y4, r4, rfl, h4, rfl⟩ := st_of Tryd.underlying106 h rfl
  obtain ⟨a0, rfl⟩ := num_of h0
  obtain ⟨a1, rfl⟩ := str_of h1
  obtain ⟨a2, rfl⟩ := num_of h2
  obtain ⟨a3, rfl⟩ := num_of h3
  obtain ⟨a4, w4, u4, rfl⟩ := sl_of (f := tpA) (Q := bT) (c := 5) Tryd.underlying63 (by kernel_rfl) (by decide +kernel) (fun k y hk hy hi => ih k (Nat.lt_trans hk hm) hy hi) h4
  exact ⟨.mk a0 a1 a2 a3 a4, .mk _ _ _ _ _ w4 u4, by rw [tpA_eq]; rfl⟩
theorem vl_of (n : Nat) : ∀ {y : AV}, typed Tryd.prog n 112 y.cells -> isE Tryd.prog 112 y -> ∃ v : Vl, True /\ y = vlA v := by
 induction n using Nat.strongRecOn with
 | ind n ih =>
  intro y h hi
  obtain ⟨cs, rfl⟩ := isE_struct Tryd.underlying112 hi
  rw [cells_agg] at h
  obtain ⟨m, hm, y0, r0, rfl, h0, y1, r1, rfl, h1, y2, r2, rfl, h2, y3, r3, rfl, h3, y4, r4, rfl, h4, rfl⟩ := st_of Tryd.underlying112 h rfl
  obtain ⟨a0, rfl⟩ := num_of h0
  obtain ⟨a1, rfl⟩ := u64_of h1
  obtain ⟨a2, rfl⟩ := u64_of h2
  obtain ⟨a3, rfl⟩ := str_of h3
  obtain ⟨a4, _, _, rfl⟩ := sl_of (f := vlA) (Q := fun _ => True) (c := 5) Tryd.underlying64 (by kernel_rfl) (by decide +kernel) (fun k y hk hy hi => ih k (Nat.lt_trans hk hm) hy hi) h4
  exact ⟨.mk a0 a1 a2 a3 a4, trivial, by rw [vlA_eq]; rfl⟩
theorem prog_of {n : Nat} {xs : List AV} (h : typed Tryd.prog n 67 xs) : ∃ p : Pq, (bP p /\ ∀ f ∈ p.fn, ∀ x ∈ f.ws, u32r x) /\ xs = pqC p := by
 obtain ⟨m, hm, y0, r0, rfl, h0, y1, r1, rfl, h1, y2, r2, rfl, h2, y3, r3, rfl, h3, y4, r4, rfl, h4, y5, r5, rfl, h5, y6, r6, rfl, h6, y7, r7, rfl, h7, y8, r8, rfl, h8, rfl⟩ := st_of Tryd.underlying67 h rfl
 obtain ⟨a0, w0, u0, rfl⟩ := sl_of (f := fqA) (Q := fun f => bF f /\ ∀ x ∈ f.ws, u32r x) (c := 5) Tryd.underlying61 (by kernel_rfl) (by decide +kernel) (fun k y _ hy hi => fun_of hy hi) h0
 obtain ⟨a1, w1, rfl⟩ := texts_of h1
 obtain ⟨a2, w2, u2, rfl⟩ := sl_of (f := tpA) (Q := bT) (c := 5) Tryd.underlying63 (by kernel_rfl) (by decide +kernel) (fun k y _ hy hi => tp_of k hy hi) h2
 obtain ⟨a3, w3, _, rfl⟩ := sl_of (f := vlA) (Q := fun _ => True) (c := 5) Tryd.underlying64 (by kernel_rfl) (by decide +kernel) (fun k y _ hy hi => vl_of k hy hi) h3
 obtain ⟨a4, w4, rfl⟩ := texts_of h4
 obtain ⟨a5, w5, rfl⟩ := texts_of h5
 obtain ⟨a6, w6, _, rfl⟩ := sl_of (f := slA) (Q := fun _ => True) (c := 2) Tryd.underlying65 (by kernel_rfl) (by decide +kernel) (fun k y _ hy hi => slot_of hy hi) h6
 obtain ⟨a7, w7, rfl⟩ := nums_of h7
 obtain ⟨a8, w8, rfl⟩ := nums_of h8
 exact ⟨⟨a0, a1, a2, a3, a4, a5, a6, a7, a8⟩, ⟨⟨w0, w1, w2, w3, w4, w5, w6, w7, w8, fun f hf => (u0 f hf).1, u2⟩, fun f hf => (u0 f hf).2⟩, rfl⟩
end Go.Proofs.YtfdipcpmfoidoaaDoor

/- Few: the law's bounds. -/
namespace Go.Proofs.YtfdipcpmfoidoaaDoor
open Go Go.Aw
set_option linter.unusedSimpArgs false
set_option linter.unusedVariables false
set_option maxRecDepth 100000
set_option maxHeartbeats 40000000
def fwM (m : Mq) : Bool := decide ((260 : Int) < m.live.length)
def fwF (n : Int) (f : Fq) : Bool := (lgAW f.nm || decide (n < f.ws.length) || decide ((260 : Int) < f.cl.length) || decide (n < f.mp.length)) || f.mp.any fwM
theorem fwM_loop {l : List Mq} {n : Int} (hs : lenB l) {F : List Fq} {a b : Int} : ∀ (r m : List Mq), l = m ++ r ->
  ∃ j : Int, E.L 29 15 [.int .i64 n, .bool false, .ptr 60000 0 0, .ro 5 (F.map fqA), .int .i64 a, .int .i64 b, .ro 2 (l.map mqA), .int .i64 l.length, .int .i64 m.length] [(60000, ⟨true, 1, [.fn (.func 49) [] []]⟩)] =
   some ((if r.any fwM then .ret else .exit 2, [.int .i64 n, .bool false, .ptr 60000 0 0, .ro 5 (F.map fqA), .int .i64 a, .int .i64 b, .ro 2 (l.map mqA), .int .i64 l.length, .int .i64 j], [(60000, ⟨true, 1, [.fn (.func 49) [] []]⟩)]), True) := by
 intro r
 induction r with
 | nil =>
  intro m h
  rw [List.append_nil] at h
  have q : ((m.length : Int) < l.length) = False := eq_false (by rw [h]; omega)
  refine ⟨m.length, ?_⟩
  rw [l29_15]
  simp (maxSteps := 100000000) only [ivc, rgb, anf, nilR, eq_self, Nat.reduceEqDiff, Nat.reduceLT, Nat.reduceLeDiff, Nat.reduceAdd, Nat.reduceBEq, reduceCtorEq, ↓reduceIte, tyb, q, List.any_nil]
 | cons y r ih =>
  intro m h
  have hi' : ((m.length : Int) < l.length) = True := eq_true (by rw [h]; simp; omega)
  have hs' : l.length ≤ 1000000000000000 := hs
  have hw1 : IntKind.i64.wrap ((m.length : Int) + 1) = m.length + 1 := wrap_id (by omega) (by rw [h] at hs'; simp at hs'; omega)
  have hg := getD_map (f := mqA) (show l[m.length]? = some y by rw [h]; simp)
  simp only [mqA] at hg
  by_cases hp : (260 : Int) < y.live.length
  ·have hy : fwM y = true := decide_eq_true hp
   refine ⟨m.length, ?_⟩
   rw [l29_15]
   simp (maxSteps := 100000000) only [ivc, rgb, mpb, anf, vop, vlen, vbuiltin, nilR, salloc, eq_self, Nat.reduceEqDiff, Nat.reduceLT, Nat.reduceLeDiff, Nat.reduceAdd, Nat.reduceBEq, reduceCtorEq, ↓reduceIte, tyb, hi', hg, List.any_cons, hy, hp]
   exact some_true (by omega)
  ·have hy : fwM y = false := decide_eq_false hp
   obtain ⟨j, ih'⟩ := ih (m ++ [y]) (by rw [h]; simp)
   simp only [List.length_append, List.length_cons, List.length_nil, Int.natCast_add, Int.cast_ofNat_Int, Nat.zero_add] at ih'
   refine ⟨j, ?_⟩
   rw [l29_15]
   simp (maxSteps := 100000000) only [ivc, rgb, mpb, anf, vop, vlen, vbuiltin, nilR, salloc, eq_self, Nat.reduceEqDiff, Nat.reduceLT, Nat.reduceLeDiff, Nat.reduceAdd, Nat.reduceBEq, reduceCtorEq, ↓reduceIte, tyb, hi', hw1, hg, ih', List.any_cons, hy, hp]
   exact some_true (by omega)
theorem fwF_loop {l : List Fq} {n : Int} (hs : lenB l) (hb : ∀ f ∈ l, bF f) : ∀ (r m : List Fq), l = m ++ r ->
  ∃ j : Int, E.L 29 10 [.int .i64 n, .bool false, .ptr 60000 0 0, .ro 5 (l.map fqA), .int .i64 l.length, .int .i64 m.length] [(60000, ⟨true, 1, [.fn (.func 49) [] []]⟩)] =
   some ((if r.any (fwF n) then .ret else .exit 0, [.int .i64 n, .bool false, .ptr 60000 0 0, .ro 5 (l.map fqA), .int .i64 l.length, .int .i64 j], [(60000, ⟨true, 1, [.fn (.func 49) [] []]⟩)]), True) := by
 intro r
 induction r with
 | nil =>
  intro m h
  rw [List.append_nil] at h
  have q : ((m.length : Int) < l.length) = False := eq_false (by rw [h]; omega)
  refine ⟨m.length, ?_⟩
  rw [l29_10]
  simp (maxSteps := 100000000) only [ivc, rgb, anf, nilR, eq_self, Nat.reduceEqDiff, Nat.reduceLT, Nat.reduceLeDiff, Nat.reduceAdd, Nat.reduceBEq, reduceCtorEq, ↓reduceIte, tyb, q, List.any_nil]
 | cons y r ih =>
  intro m h
  have hi' : ((m.length : Int) < l.length) = True := eq_true (by rw [h]; simp; omega)
  have hs' : l.length ≤ 1000000000000000 := hs
  have hw1 : IntKind.i64.wrap ((m.length : Int) + 1) = m.length + 1 := wrap_id (by omega) (by rw [h] at hs'; simp at hs'; omega)
  have hg := getD_map (f := fqA) (show l[m.length]? = some y by rw [h]; simp)
  simp only [fqA, fqC] at hg
  have hl := lgA_ev (s := y.nm)
  obtain ⟨k, hm⟩ := fwM_loop (n := n) (F := l) (a := l.length) (b := m.length) (hb y (by rw [h]; simp)).mp y.mp [] rfl
  simp only [List.length_nil, Int.natCast_zero] at hm
  cases hc : (lgAW y.nm || decide (n < y.ws.length) || decide ((260 : Int) < y.cl.length) || decide (n < y.mp.length)) with
  | true =>
   have hy : fwF n y = true := by unfold fwF; rw [hc, Bool.true_or]
   refine ⟨m.length, ?_⟩
   rw [l29_10]
   simp (maxSteps := 100000000) only [ivc, rgb, mpb, anf, vop, vlen, vbuiltin, nilR, salloc, eq_self, Nat.reduceEqDiff, Nat.reduceLT, Nat.reduceLeDiff, Nat.reduceAdd, Nat.reduceMul, Nat.reduceBEq, reduceCtorEq, ↓reduceIte, tyb, hi', hg, hl, hc, List.any_cons, hy]
   exact some_true (by omega)
  | false =>
   cases hm2 : y.mp.any fwM with
   | true =>
    have hy : fwF n y = true := by unfold fwF; rw [hm2, Bool.or_true]
    rw [hm2] at hm
    simp only [if_true] at hm
    refine ⟨m.length, ?_⟩
    rw [l29_10]
    simp (maxSteps := 100000000) only [ivc, rgb, mpb, anf, vop, vlen, vbuiltin, nilR, salloc, eq_self, Nat.reduceEqDiff, Nat.reduceLT, Nat.reduceLeDiff, Nat.reduceAdd, Nat.reduceMul, Nat.reduceBEq, reduceCtorEq, ↓reduceIte, tyb, hi', hg, hl, hc, hm, List.any_cons, hy]
    exact some_true (by omega)
   | false =>
    have hy : fwF n y = false := by unfold fwF; rw [hm2, hc]; rfl
    rw [hm2] at hm
    simp only [Bool.false_eq_true, if_false] at hm
    obtain ⟨j, ih'⟩ := ih (m ++ [y]) (by rw [h]; simp)
    simp only [List.length_append, List.length_cons, List.length_nil, Int.natCast_add, Int.cast_ofNat_Int, Nat.zero_add] at ih'
    refine ⟨j, ?_⟩
    rw [l29_10]
    simp (maxSteps := 100000000) only [ivc, rgb, mpb, anf, vop, vlen, vbuiltin, nilR, salloc, eq_self, Nat.reduceEqDiff, Nat.reduceLT, Nat.reduceLeDiff, Nat.reduceAdd, Nat.reduceMul, Nat.reduceBEq, reduceCtorEq, ↓reduceIte, tyb, hi', hw1, hg, hl, hc, hm, ih', List.any_cons, hy]
    exact some_true (by omega)
def fwA (n : Int) (p : Pq) : Bool := decide ((12 : Int) < p.fn.length) || decide (n < p.tx.length) || decide ((12 : Int) < p.ty.length) || decide (n < p.vl.length) || decide (n < p.en.length) || decide (n < p.se.length) || decide (n < p.ve.length) || decide (n < p.ofs.length) || decide (n < p.co.length)
def fwB (p : Pq) : Bool := p.tx.any lgAW || p.en.any lgAW || p.se.any lgAW
def fwC (p : Pq) : Bool := (p.ty.any fun t => !fewT t) || p.vl.any vbA
def fewW (n : Int) (p : Pq) : Bool := !fwA n p && !fwB p && !fwC p && !p.fn.any (fwF n)
theorem few_ev {p : Pq} (h : bP p) {n : Int} : E.F 29 [pqA p, .int .i64 n] [] = some ((.bool (fewW n p), []), True) := by
 have L1 := lgAs_ev h.tx
 have L2 := lgAs_ev h.en
 have L3 := lgAs_ev h.se
 have L4 := fwTs_ev h.ty h.ts
 have L5 := fwV_any (l := p.vl) h.vl fun v _ => vbA_ev
 obtain ⟨j, L6⟩ := fwF_loop (n := n) h.fn h.fs p.fn [] rfl
 simp only [List.length_nil, Int.natCast_zero] at L6
 rw [e29, show pqA p = .agg (pqC p) from rfl]
 unfold fewW
 cases ha : fwA n p with
 | true =>
  unfold fwA at ha
  simp (maxSteps := 100000000) only [ivc, rgb, mpb, anf, vop, vlen, vbuiltin, nilR, salloc, eq_self, Nat.reduceEqDiff, Nat.reduceLT, Nat.reduceLeDiff, Nat.reduceAdd, Nat.reduceBEq, reduceCtorEq, ↓reduceIte, tyb, pqC, ha]
 | false =>
  unfold fwA at ha
  cases h1 : p.tx.any lgAW with
  | true =>
   have hb : fwB p = true := by unfold fwB; rw [h1]; rfl
   simp (maxSteps := 100000000) only [ivc, rgb, mpb, anf, vop, vlen, vbuiltin, nilR, salloc, eq_self, Nat.reduceEqDiff, Nat.reduceLT, Nat.reduceLeDiff, Nat.reduceAdd, Nat.reduceBEq, reduceCtorEq, ↓reduceIte, tyb, pqC, ha, L1, h1, hb]
  | false =>
   cases h2 : p.en.any lgAW with
   | true =>
    have hb : fwB p = true := by unfold fwB; rw [h1, h2]; rfl
    simp (maxSteps := 100000000) only [ivc, rgb, mpb, anf, vop, vlen, vbuiltin, nilR, salloc, eq_self, Nat.reduceEqDiff, Nat.reduceLT, Nat.reduceLeDiff, Nat.reduceAdd, Nat.reduceBEq, reduceCtorEq, ↓reduceIte, tyb, pqC, ha, L1, L2, h1, h2, hb]
   | false =>
    cases h3 : p.se.any lgAW with
    | true =>
     have hb : fwB p = true := by unfold fwB; rw [h1, h2, h3]; rfl
     simp (maxSteps := 100000000) only [ivc, rgb, mpb, anf, vop, vlen, vbuiltin, nilR, salloc, eq_self, Nat.reduceEqDiff, Nat.reduceLT, Nat.reduceLeDiff, Nat.reduceAdd, Nat.reduceBEq, reduceCtorEq, ↓reduceIte, tyb, pqC, ha, L1, L2, L3, h1, h2, h3, hb]
    | false =>
     have hb : fwB p = false := by unfold fwB; rw [h1, h2, h3]; rfl
     cases h4 : p.ty.any fun t => !fewT t with
     | true =>
      have hc : fwC p = true := by unfold fwC; rw [h4]; rfl
      simp (maxSteps := 100000000) only [ivc, rgb, mpb, anf, vop, vlen, vbuiltin, nilR, salloc, eq_self, Nat.reduceEqDiff, Nat.reduceLT, Nat.reduceLeDiff, Nat.reduceAdd, Nat.reduceMul, Nat.reduceBEq, reduceCtorEq, ↓reduceIte, tyb, pqC, ha, L1, L2, L3, L4, h1, h2, h3, h4, hb, hc]
     | false =>
      cases h5 : p.vl.any vbA with
      | true =>
       have hc : fwC p = true := by unfold fwC; rw [h4, h5]; rfl
       simp (maxSteps := 100000000) only [ivc, rgb, mpb, anf, vop, vlen, vbuiltin, nilR, salloc, eq_self, Nat.reduceEqDiff, Nat.reduceLT, Nat.reduceLeDiff, Nat.reduceAdd, Nat.reduceMul, Nat.reduceBEq, reduceCtorEq, ↓reduceIte, tyb, pqC, ha, L1, L2, L3, L4, L5, h1, h2, h3, h4, h5, hb, hc]
      | false =>
       have hc : fwC p = false := by unfold fwC; rw [h4, h5]; rfl
       cases h6 : p.fn.any (fwF n) with
       | true =>
        rw [h6] at L6
        simp only [if_true] at L6
        simp (maxSteps := 100000000) only [ivc, rgb, mpb, anf, vop, vlen, vbuiltin, nilR, salloc, eq_self, Nat.reduceEqDiff, Nat.reduceLT, Nat.reduceLeDiff, Nat.reduceAdd, Nat.reduceMul, Nat.reduceBEq, reduceCtorEq, ↓reduceIte, tyb, pqC, ha, L1, L2, L3, L4, L5, L6, h1, h2, h3, h4, h5, hb, hc]
       | false =>
        rw [h6] at L6
        simp only [Bool.false_eq_true, if_false] at L6
        simp (maxSteps := 100000000) only [ivc, rgb, mpb, anf, vop, vlen, vbuiltin, nilR, salloc, eq_self, Nat.reduceEqDiff, Nat.reduceLT, Nat.reduceLeDiff, Nat.reduceAdd, Nat.reduceMul, Nat.reduceBEq, reduceCtorEq, ↓reduceIte, tyb, pqC, ha, L1, L2, L3, L4, L5, L6, h1, h2, h3, h4, h5, hb, hc]
noncomputable def tyCk (t : Tp) : Int := if (300 : Int) < (szM t).1 \/ (20 : Int) < (szM t).2 then 4 else if evM nodeW t = true then 0 else 2
theorem tyCk_ev {t : Tp} (ht : bT t) : E.F 58 [tpA t] [] = some ((.int .i64 (tyCk t), []), True) := by
 have L1 := sz_ev ht
 have L2 := every_ev (k := 69) (p := nodeW) (fun u => node_ev) rfl t ht
 rw [tpA_eq] at L1 L2
 simp only [tpC] at L1 L2
 rw [e58, tpA_eq]
 unfold tyCk
 by_cases h1 : (300 : Int) < (szM t).1
 ·simp (maxSteps := 100000000) only [ivc, rgb, mpb, anf, vop, nilR, salloc, eq_self, Nat.reduceEqDiff, Nat.reduceLT, Nat.reduceLeDiff, Nat.reduceAdd, Nat.reduceBEq, reduceCtorEq, ↓reduceIte, tyb, tpC, L1, h1]
 ·by_cases h2 : (20 : Int) < (szM t).2
  ·simp (maxSteps := 100000000) only [ivc, rgb, mpb, anf, vop, nilR, salloc, eq_self, Nat.reduceEqDiff, Nat.reduceLT, Nat.reduceLeDiff, Nat.reduceAdd, Nat.reduceBEq, reduceCtorEq, ↓reduceIte, tyb, tpC, L1, h1, h2]
  ·cases h3 : evM nodeW t with
   | true => simp (maxSteps := 100000000) only [ivc, rgb, mpb, anf, vop, nilR, salloc, eq_self, Nat.reduceEqDiff, Nat.reduceLT, Nat.reduceLeDiff, Nat.reduceAdd, Nat.reduceBEq, reduceCtorEq, ↓reduceIte, tyb, tpC, L1, L2, h1, h2, h3, or_self]
   | false => simp (maxSteps := 100000000) only [ivc, rgb, mpb, anf, vop, nilR, salloc, eq_self, Nat.reduceEqDiff, Nat.reduceLT, Nat.reduceLeDiff, Nat.reduceAdd, Nat.reduceBEq, reduceCtorEq, ↓reduceIte, tyb, tpC, L1, L2, h1, h2, h3, or_self]
def kndW (n : Int) : Bool := (n == 1) || (decide (10 ≤ n) && decide (n ≤ 30))
theorem knd_ev {n : Int} : E.F 79 [.int .i64 n] [] = some ((.bool (kndW n), []), True) := by
 unfold kndW
 cases h : (n == 1) <;> by_cases h1 : 10 ≤ n
 all_goals
  rw [e79]
  simp (maxSteps := 100000000) only [ivc, rgb, anf, nilR, eq_self, Nat.reduceEqDiff, Nat.reduceLT, Nat.reduceLeDiff, Nat.reduceBEq, reduceCtorEq, ↓reduceIte, tyb, h, h1]
def mpOb (m : List (Int × Bool)) : Ob := ⟨true, 0, m.map (prI .i64 AV.bool)⟩
theorem mpOb_eq (m : List (Int × Bool)) : mpOb m = ⟨true, 0, m.map (prI .i64 AV.bool)⟩ := rfl
def ckC (p : Pq) (f : Fq) (o : Nat) : List AV := pqC p ++ (fqC f ++ [.mp o 5])
def clsW (f : Fq) (n k : Int) : Bool := decide (n < f.cl.length) && ((k == 0) || (f.cl.getD n.toNat 0 == k))
theorem cls_ev {p : Pq} {f : Fq} {n k : Int} {m : List (Int × Bool)} (hn : 0 ≤ n) :
  E.F 81 [.int .i64 k, .ptr 100000 0 0, .ptr 100001 0 0] [(100000, ⟨true, 1, [.int .i64 n]⟩), (100001, ⟨true, 15, [.agg (ckC p f 100002)]⟩), (100002, mpOb m)] =
   some ((.bool (clsW f n k), [(100000, ⟨true, 1, [.int .i64 n]⟩), (100001, ⟨true, 15, [.agg (ckC p f 100002)]⟩), (100002, mpOb m)]), True) := by
 unfold clsW
 by_cases h : n < f.cl.length
 ·have hg : (f.cl.map (AV.int .i64)).getD n.toNat .junk = .int .i64 (f.cl.getD n.toNat 0) := row_get 0 (by omega)
  cases hk : (k == 0)
  all_goals
   rw [e81]
   simp (maxSteps := 100000000) only [ivc, rgb, mpb, anf, vop, vlen, vbuiltin, nilR, eq_self, Nat.reduceEqDiff, Nat.reduceLT, Nat.reduceLeDiff, Nat.reduceAdd, Nat.reduceBEq, reduceCtorEq, ↓reduceIte, tyb, ckC, pqC, fqC, mpOb_eq, h, hg, hk, hn]
   done
 ·have hg : (f.cl.map (AV.int .i64)).getD n.toNat .junk = .junk := by
   rw [List.getD_eq_getElem?_getD, List.getElem?_eq_none (by simp; omega)]; rfl
  cases hk : (k == 0)
  all_goals
   rw [e81]
   simp (maxSteps := 100000000) only [ivc, rgb, mpb, anf, vop, vlen, vbuiltin, nilR, eq_self, Nat.reduceEqDiff, Nat.reduceLT, Nat.reduceLeDiff, Nat.reduceAdd, Nat.reduceBEq, reduceCtorEq, ↓reduceIte, tyb, ckC, pqC, fqC, mpOb_eq, h, hg, hk, hn]
   done
theorem mlk_IB {m : List (Int × Bool)} {n : Int} : (mfind (m.map (prI .i64 AV.bool)) (.int .i64 n)).getD (.bool false) = .bool ((lkI m n).getD false) := by
 rw [mfind_I]; exact mlk_I
def partW (p : Pq) (f : Fq) (m : List (Int × Bool)) (c n : Int) : Bool :=
 if c = 2 then clsW f n 1 else if c = 3 then clsW f n 2 else if c = 4 then clsW f n 0 else if c = 5 then kndW n else if c = 8 then decide (n < p.vl.length) else if c = 9 then decide (n < p.tx.length) else if c = 10 then decide (n < p.en.length) else if c = 11 then decide (n < p.se.length) else if c = 12 then decide (n < p.fn.length) else if c = 13 then decide (n < p.ty.length) else if c = 14 then (lkI m n).getD false else true
theorem part_ev {p : Pq} {f : Fq} {c n : Int} {m : List (Int × Bool)} (hn : 0 ≤ n) :
  E.F 78 [.agg (ckC p f 100000), .int .i64 c, .int .i64 n] [(100000, mpOb m)] = some ((.bool (partW p f m c n), [(100000, mpOb m)]), True) := by
 unfold partW
 by_cases h2 : c = 2
 ·subst h2
  have L := cls_ev (p := p) (f := f) (k := 1) (m := m) hn
  simp only [ckC, pqC, fqC, mpOb_eq, List.cons_append, List.nil_append] at L
  rw [e78]
  simp (maxSteps := 100000000) only [ivc, rgb, mpb, anf, vop, nilR, salloc, eq_self, Nat.reduceEqDiff, Nat.reduceLT, Nat.reduceLeDiff, Nat.reduceAdd, Nat.reduceMul, Nat.reduceBEq, reduceCtorEq, ↓reduceIte, tyb, ckC, pqC, fqC, mpOb_eq, L]
  try done
 have q2 : (c == 2) = false := by rw [beq_eq_false_iff_ne]; exact h2
 by_cases h3 : c = 3
 ·subst h3
  have L := cls_ev (p := p) (f := f) (k := 2) (m := m) hn
  simp only [ckC, pqC, fqC, mpOb_eq, List.cons_append, List.nil_append] at L
  rw [e78]
  simp (maxSteps := 100000000) only [ivc, rgb, mpb, anf, vop, nilR, salloc, eq_self, Nat.reduceEqDiff, Nat.reduceLT, Nat.reduceLeDiff, Nat.reduceAdd, Nat.reduceMul, Nat.reduceBEq, Int.reduceEq, Int.reduceBEq, reduceCtorEq, ↓reduceIte, tyb, ckC, pqC, fqC, mpOb_eq, L]
  try done
 have q3 : (c == 3) = false := by rw [beq_eq_false_iff_ne]; exact h3
 by_cases h4 : c = 4
 ·subst h4
  have L := cls_ev (p := p) (f := f) (k := 0) (m := m) hn
  simp only [ckC, pqC, fqC, mpOb_eq, List.cons_append, List.nil_append] at L
  rw [e78]
  simp (maxSteps := 100000000) only [ivc, rgb, mpb, anf, vop, nilR, salloc, eq_self, Nat.reduceEqDiff, Nat.reduceLT, Nat.reduceLeDiff, Nat.reduceAdd, Nat.reduceMul, Nat.reduceBEq, Int.reduceEq, Int.reduceBEq, reduceCtorEq, ↓reduceIte, tyb, ckC, pqC, fqC, mpOb_eq, L]
  try done
 have q4 : (c == 4) = false := by rw [beq_eq_false_iff_ne]; exact h4
 by_cases h5 : c = 5
 ·subst h5
  have L := knd_ev (n := n)
  rw [e78]
  simp (maxSteps := 100000000) only [ivc, rgb, mpb, anf, vop, nilR, salloc, eq_self, Nat.reduceEqDiff, Nat.reduceLT, Nat.reduceLeDiff, Nat.reduceAdd, Nat.reduceBEq, Int.reduceEq, Int.reduceBEq, reduceCtorEq, ↓reduceIte, tyb, ckC, pqC, fqC, mpOb_eq, L]
  try done
 have q5 : (c == 5) = false := by rw [beq_eq_false_iff_ne]; exact h5
 by_cases h8 : c = 8
 ·subst h8
  rw [e78]
  simp (maxSteps := 100000000) only [ivc, rgb, mpb, anf, vop, vlen, vbuiltin, nilR, salloc, eq_self, Nat.reduceEqDiff, Nat.reduceLT, Nat.reduceLeDiff, Nat.reduceAdd, Nat.reduceBEq, Int.reduceEq, Int.reduceBEq, reduceCtorEq, ↓reduceIte, tyb, ckC, pqC, fqC, mpOb_eq]
  try done
 have q8 : (c == 8) = false := by rw [beq_eq_false_iff_ne]; exact h8
 by_cases h9 : c = 9
 ·subst h9
  rw [e78]
  simp (maxSteps := 100000000) only [ivc, rgb, mpb, anf, vop, vlen, vbuiltin, nilR, salloc, eq_self, Nat.reduceEqDiff, Nat.reduceLT, Nat.reduceLeDiff, Nat.reduceAdd, Nat.reduceBEq, Int.reduceEq, Int.reduceBEq, reduceCtorEq, ↓reduceIte, tyb, ckC, pqC, fqC, mpOb_eq]
  try done
 have q9 : (c == 9) = false := by rw [beq_eq_false_iff_ne]; exact h9
 by_cases h10 : c = 10
 ·subst h10
  rw [e78]
  simp (maxSteps := 100000000) only [ivc, rgb, mpb, anf, vop, vlen, vbuiltin, nilR, salloc, eq_self, Nat.reduceEqDiff, Nat.reduceLT, Nat.reduceLeDiff, Nat.reduceAdd, Nat.reduceBEq, Int.reduceEq, Int.reduceBEq, reduceCtorEq, ↓reduceIte, tyb, ckC, pqC, fqC, mpOb_eq]
  try done
 have q10 : (c == 10) = false := by rw [beq_eq_false_iff_ne]; exact h10
 by_cases h11 : c = 11
 ·subst h11
  rw [e78]
  simp (maxSteps := 100000000) only [ivc, rgb, mpb, anf, vop, vlen, vbuiltin, nilR, salloc, eq_self, Nat.reduceEqDiff, Nat.reduceLT, Nat.reduceLeDiff, Nat.reduceAdd, Nat.reduceBEq, Int.reduceEq, Int.reduceBEq, reduceCtorEq, ↓reduceIte, tyb, ckC, pqC, fqC, mpOb_eq]
  try done
 have q11 : (c == 11) = false := by rw [beq_eq_false_iff_ne]; exact h11
 by_cases h12 : c = 12
 ·subst h12
  rw [e78]
  simp (maxSteps := 100000000) only [ivc, rgb, mpb, anf, vop, vlen, vbuiltin, nilR, salloc, eq_self, Nat.reduceEqDiff, Nat.reduceLT, Nat.reduceLeDiff, Nat.reduceAdd, Nat.reduceBEq, Int.reduceEq, Int.reduceBEq, reduceCtorEq, ↓reduceIte, tyb, ckC, pqC, fqC, mpOb_eq]
  try done
 have q12 : (c == 12) = false := by rw [beq_eq_false_iff_ne]; exact h12
 by_cases h13 : c = 13
 ·subst h13
  rw [e78]
  simp (maxSteps := 100000000) only [ivc, rgb, mpb, anf, vop, vlen, vbuiltin, nilR, salloc, eq_self, Nat.reduceEqDiff, Nat.reduceLT, Nat.reduceLeDiff, Nat.reduceAdd, Nat.reduceBEq, Int.reduceEq, Int.reduceBEq, reduceCtorEq, ↓reduceIte, tyb, ckC, pqC, fqC, mpOb_eq]
  try done
 have q13 : (c == 13) = false := by rw [beq_eq_false_iff_ne]; exact h13
 by_cases h14 : c = 14
 ·subst h14
  rw [e78]
  simp (maxSteps := 100000000) only [ivc, rgb, mpb, anf, vop, nilR, salloc, eq_self, Nat.reduceEqDiff, Nat.reduceLT, Nat.reduceLeDiff, Nat.reduceAdd, Nat.reduceBEq, Int.reduceEq, Int.reduceBEq, reduceCtorEq, ↓reduceIte, tyb, ckC, pqC, fqC, mpOb_eq, mlk_IB]
  try done
 have q14 : (c == 14) = false := by rw [beq_eq_false_iff_ne]; exact h14
 rw [e78]
 simp (maxSteps := 100000000) only [ivc, rgb, mpb, anf, vop, nilR, salloc, eq_self, Nat.reduceEqDiff, Nat.reduceLT, Nat.reduceLeDiff, Nat.reduceAdd, Nat.reduceBEq, reduceCtorEq, ↓reduceIte, tyb, ckC, pqC, fqC, mpOb_eq, q2, h2, q3, h3, q4, h4, q5, h5, q8, h8, q9, h9, q10, h10, q11, h11, q12, h12, q13, h13, q14, h14]
end Go.Proofs.YtfdipcpmfoidoaaDoor

/- Read is the reference's. -/
namespace Go.Proofs.YtfdipcpmfoidoaaDoor
open Go Go.Aw
set_option linter.unusedSimpArgs false
set_option linter.unusedVariables false
set_option maxRecDepth 100000
set_option maxHeartbeats 4000000
end Go.Proofs.YtfdipcpmfoidoaaDoor

/- The reference's All. -/
namespace Go.Proofs.YtfdipcpmfoidoaaDoor
open Go Go.Aw
set_option linter.unusedSimpArgs false
set_option linter.unusedVariables false
set_option maxRecDepth 100000
set_option maxHeartbeats 40000000
theorem allM_len {ws : List Int} : ∀ (f : Nat) (p : Nat) (l : List Ins), l.length ≤ p -> p ≤ ws.length -> (allM (readM ws) ws.length f p l).1.length ≤ ws.length
 | 0, p, l, h, h' => by simp only [allM]; omega
 | f + 1, p, l, h, h' => by
  unfold allM
  split
  ·split
   ·rename_i h2
    obtain ⟨n1, n2, _, _, _, _⟩ := readM_n h2
    have := allM_len (ws := ws) f (p + (readM ws p).1.n.toNat) (l ++ [(readM ws p).1]) (by simp; omega) (by omega)
    rw [show ((p + (readM ws p).1.n.toNat : Nat) : Int) = (p : Int) + (readM ws p).1.n by omega] at this
    exact this
   ·simp
  ·simp only; omega
def awI : Ins := ⟨0, 12, 0, 2, 1, [7], 9, [1, 2], 0⟩
theorem aw_words : wordsM awI = (0, [16908300, 7, 9, 513]) := by kernel_rfl
theorem aw_read : readM [20] 0 = (⟨0, 20, 0, 0, 0, [], -1, [], 1⟩, 0) := by kernel_rfl
theorem aw_pack : packM 1 2 3 0 = .tup [.int .u32 197121, .int .i64 0] := by kernel_rfl
theorem awake_ev : E.F 7 [] [] = some ((.bool true, []), True) := by
 have p := pack_ev (a := 1) (b := 2) (c := 3) (d := 0)
 rw [aw_pack] at p
 have w := words_ev (i := awI) (by decide) (by decide)
 rw [aw_words] at w
 have r := read_ev (ws := [20]) (n := 0) (by decide) (by simp [u32r])
 rw [aw_read] at r
 have q := eq32_ev (a := [16908300, 7, 9, 513]) (b := [16908300, 7, 9, 513]) (by decide)
 simp only [awI, insA, wordsV, readV, List.map_cons, List.map_nil, decide_true] at w r q
 rw [e7]
 simp (maxSteps := 100000000) only [ivc, rgb, mpb, anf, vop, vlen, vbuiltin, nilR, salloc, eq_self, Nat.reduceEqDiff, Nat.reduceLT, Nat.reduceLeDiff, Nat.reduceAdd, Nat.reduceMul, Nat.reduceBEq, Int.reduceLT, Int.reduceLE, Int.reduceNeg, Int.reduceToNat, Int.reduceAdd, reduceCtorEq, ↓reduceIte, tyb, l11_5, e11, p, w, r]
theorem cmp1 {a : Int} : E.F 47 [.sl 100000 0 1] [(100000, ⟨false, 1, [.int .i64 a]⟩)] = some ((.sl 100000 0 1, [(100000, ⟨false, 1, [.int .i64 a]⟩)]), True) := by
 rw [e47]
 simp (maxSteps := 100000000) only [ivc, rgb, mpb, anf, vlen, vbuiltin, nilR, eq_self, Nat.reduceLT, Nat.reduceLeDiff, Nat.reduceBEq, Int.reduceLT, reduceCtorEq, ↓reduceIte, tyb]
theorem cmp2 {a b : Int} (h : a ≠ b) : E.F 47 [.sl 100000 0 2] [(100000, ⟨false, 1, [.int .i64 a, .int .i64 b]⟩)] = some ((.sl 100000 0 2, [(100000, ⟨false, 1, [.int .i64 a, .int .i64 b]⟩)]), True) := by
 have e : (b == a) = false := by simp [Ne.symm h]
 rw [e47]
 simp (maxSteps := 100000000) only [ivc, rgb, mpb, anf, vlen, vbuiltin, nilR, eq_self, Nat.reduceEqDiff, Nat.reduceLT, Nat.reduceLeDiff, Nat.reduceAdd, Nat.reduceBEq, Int.reduceLT, Int.reduceLE, Int.reduceNeg, Int.reduceToNat, Int.reduceAdd, Int.reduceSub, reduceCtorEq, ↓reduceIte, tyb, l47_5, e]
theorem cmpS {a : Int} : E.F 47 [.sl 100000 0 2] [(100000, ⟨false, 1, [.int .i64 a, .int .i64 a]⟩)] = some ((.sl 100000 0 1, [(100000, ⟨false, 1, [.int .i64 a, .int .i64 0]⟩)]), True) := by
 have e : (a == a) = true := by simp
 rw [e47]
 simp (maxSteps := 100000000) only [ivc, rgb, mpb, anf, vop, vslice, vlen, vbuiltin, nilR, eq_self, Nat.reduceEqDiff, Nat.reduceLT, Nat.reduceLeDiff, Nat.reduceAdd, Nat.reduceSub, Nat.reduceBEq, Int.reduceLT, Int.reduceLE, Int.reduceNeg, Int.reduceToNat, Int.reduceSub, reduceCtorEq, implies_true, ↓reduceIte, tyb, l47_5, l47_10]
end Go.Proofs.YtfdipcpmfoidoaaDoor

