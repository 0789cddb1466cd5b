/- A part of the proof of CodeWordsCardSaid. -/
import Derived.Test.YtfdipcpmfoidoaaDoorC1
/- The words of an instruction. -/
namespace Go.Proofs.YtfdipcpmfoidoaaDoor
open Go Go.Aw
set_option linter.unusedSimpArgs false
set_option linter.unusedVariables false
set_option maxRecDepth 100000
set_option maxHeartbeats 40000000
def chL (l : List Int) : List (List Int) := (List.range ((l.length + 3) / 4)).map fun j => (l.drop (4 * j)).take 4
theorem chk_map {l : List Int} : chk (l.map (.int .i64)) = (chL l).map cV := by
 unfold chk chL
 rw [List.map_map, List.length_map]
 refine List.map_congr_left fun j _ => ?_
 simp only [chkE, cV, Function.comp, List.map_take, List.map_drop]
theorem chL_len {l : List Int} : (chL l).length = (l.length + 3) / 4 := by simp [chL]
theorem chL_mem {l c : List Int} (h : c ∈ chL l) : 1 ≤ c.length /\ c.length ≤ 4 := by
 obtain ⟨j, hj, rfl⟩ := List.mem_map.1 h
 have := List.mem_range.1 hj
 simp
 omega
theorem seq_ev {es : List AV} : AN.seq 61 [.rop (.ro 1 es) 0, .rop (.int .i64 4) 0] = some (chk es, es.length ≤ 1000000 /\ (4 : Int) = 4) := rfl
def xsOf (i : Ins) : List Int := i.x ++ (if ((rowW i.op).c == 7 && i.c == 1) = true then [i.ra] else [])
def wordsM (i : Ins) : Int × List Int :=
 if (opIn i.op && formedM i (rowW i.op)) = true then
  if (byt i.op && byt i.a && byt i.b && byt i.c) = true then
   if (xsOf i).all wok = true then
    if (chL i.l).all cok = true then (0, packN i.op i.a i.b i.c :: (xsOf i ++ (chL i.l).map cw))
    else (3, [])
   else (3, [])
  else (3, [])
 else (260, [])
def wordsV (m : Int × List Int) : AV := .tup [.ro 1 (m.2.map (.int .u32)), .int .i64 m.1]
theorem split_all {α : Type} {p : α -> Bool} : ∀ {l : List α}, l.all p = false -> ∃ a x b, l = a ++ x :: b /\ a.all p = true /\ p x = false
 | [], h => by cases h
 | y :: l, h => by
  cases hy : p y with
  | false => exact ⟨[], y, l, rfl, rfl, hy⟩
  | true =>
   rw [List.all_cons, hy, Bool.true_and] at h
   obtain ⟨a, x, b, h1, h2, h3⟩ := split_all h
   exact ⟨y :: a, x, b, by rw [h1]; rfl, by rw [List.all_cons, hy, h2]; rfl, h3⟩
theorem words_ev {i : Ins} (hx : i.x.length ≤ 100) (hl : i.l.length ≤ 1000) : E.F 8 [.agg (insA i)] [] = some ((wordsV (wordsM i), []), True) := by
 rw [e8]
 have ro := row_ev (n := i.op)
 have fo := formed_ev (i := i) (r := rowW i.op)
 have pk := pack_ev (a := i.op) (b := i.a) (c := i.b) (d := i.c)
 have ck := chunkf_ev (es := i.l.map (.int .i64))
 have cl := clone_ev (xs := i.x) (by omega)
 have sq := seq_ev (es := i.l.map (.int .i64))
 rw [chk_map] at sq
 have hxl : (xsOf i).length ≤ 1000 := by
  unfold xsOf
  split <;> simp <;> omega
 -- the loops
 have lx : (xsOf i).all wok = true -> _ := fun h => idx_ok (i := i) hxl (xsOf i) [] [packN i.op i.a i.b i.c] rfl (by simp) h
 unfold wordsM
 unfold packM at pk
 generalize hfm : formedM i (rowW i.op) = fm at fo ⊢
 cases hin : opIn i.op with
 | false =>
  rw [hin] at ro
  simp only [rowA, insA] at ro fo ⊢
  simp (maxSteps := 100000000) only [ivc, rgb, anf, vop, salloc, eq_self, Nat.reduceEqDiff, Nat.reduceLT, Nat.reduceLeDiff, Nat.reduceAdd, Nat.reduceBEq, ↓reduceIte, tyb, ro, wordsV]
 | true =>
 rw [hin] at ro
 cases fm with
 | false =>
  simp only [rowA, insA] at ro fo ⊢
  simp (maxSteps := 100000000) only [ivc, rgb, anf, vop, salloc, eq_self, Nat.reduceEqDiff, Nat.reduceLT, Nat.reduceLeDiff, Nat.reduceAdd, Nat.reduceBEq, ↓reduceIte, tyb, ro, fo, wordsV]
 | true =>
 cases hp : byt i.op && byt i.a && byt i.b && byt i.c with
 | false =>
  simp only [rowA, insA] at ro fo ⊢
  simp (maxSteps := 100000000) only [ivc, rgb, anf, vop, nilR, salloc, eq_self, Nat.reduceEqDiff, Nat.reduceLT, Nat.reduceLeDiff, Nat.reduceAdd, Nat.reduceBEq, Int.reduceBNe, ↓reduceIte, tyb, ro, fo, pk, hp, wordsV]
 | true =>
 rw [hp, if_pos rfl] at pk
 cases hax : (xsOf i).all wok with
 | false =>
  clear lx
  obtain ⟨p, n, q, hpe, hpa, hpb⟩ := split_all hax
  have l1 := idx_bad (i := i) hxl hpb p [] [packN i.op i.a i.b i.c] hpe (by simp) hpa
  clear hpe
  unfold xsOf at l1
  cases hcc : ((rowW i.op).c == 7 && i.c == 1) with
  | false =>
   simp only [hcc, Bool.false_eq_true, if_false, List.append_nil, List.length_nil, Int.natCast_zero, Int.zero_add, List.cons_append, List.nil_append, List.length_cons, Nat.zero_add, List.map_cons, List.map_nil, w8V, w8H, uR, rowA, insA] at l1 ro fo ⊢
   simp (maxSteps := 100000000) only [ivc, rgb, anf, vop, vlen, vbuiltin, nilR, salloc, eq_self, Nat.reduceEqDiff, Nat.reduceLT, Nat.reduceLeDiff, Nat.reduceAdd, Nat.reduceBEq, reduceCtorEq, ↓reduceIte, tyb, ro, fo, pk, hcc, l1, wordsV]
  | true =>
   simp only [hcc, if_true, Int.natCast_add, Int.cast_ofNat_Int, List.length_nil, Int.zero_add, List.cons_append, List.nil_append, List.length_append, List.length_cons, Nat.zero_add, List.map_append, List.map_cons, List.map_nil, w8V, w8H, uR, rowA, insA] at l1 ro fo ⊢
   simp (maxSteps := 100000000) only [ivc, rgb, anf, vop, vlen, vbuiltin, nilR, salloc, sappend, eq_self, Nat.reduceEqDiff, Nat.reduceLT, Nat.reduceLeDiff, Nat.reduceAdd, Nat.reduceMul, Nat.reduceSub, Nat.reduceBEq, reduceCtorEq, ↓reduceIte, tyb, ro, fo, pk, cl, hcc, l1, iR, wordsV]
   exact some_true (by omega)
 | true =>
  have l1 := lx hax
  clear lx
  cases hac : (chL i.l).all cok with
  | false =>
   obtain ⟨p, c, q, hpe, hpa, hpb⟩ := split_all hac
   have hcm := chL_mem (show c ∈ chL i.l by rw [hpe]; simp)
   have hpl : p.length ≤ 1000 := by
    have : (chL i.l).length = p.length + (q.length + 1) := by rw [hpe]; simp
    rw [chL_len] at this
    omega
   have l2 := rg_some hpb hcm.1 hcm.2 q p ([packN i.op i.a i.b i.c] ++ xsOf i) (fun c hc => ⟨(chL_mem (show c ∈ chL i.l by rw [hpe]; simp [hc])).1, (chL_mem (show c ∈ chL i.l by rw [hpe]; simp [hc])).2, List.all_eq_true.1 hpa c hc⟩) (by simp; omega)
   rw [<- hpe] at l2
   unfold xsOf at l1 l2
   cases hcc : ((rowW i.op).c == 7 && i.c == 1) with
   | false =>
    simp only [hcc, Bool.false_eq_true, if_false, List.append_nil, List.length_nil, Int.natCast_zero, List.cons_append, List.nil_append, List.length_append, List.length_cons, Nat.zero_add, List.map_append, List.map_cons, List.map_nil, w8V, w8H, rgV, rgH, uR, rowA, insA] at l1 l2 ro fo ⊢
    simp (maxSteps := 100000000) only [ivc, rgb, anf, vop, vlen, vbuiltin, nilR, salloc, eq_self, Nat.reduceEqDiff, Nat.reduceLT, Nat.reduceLeDiff, Nat.reduceAdd, Nat.reduceMul, Nat.reduceBEq, reduceCtorEq, ↓reduceIte, tyb, ro, fo, pk, ck, sq, hcc, l1, l2, wordsV]
    exact some_true (by omega)
   | true =>
    simp only [hcc, if_true, Int.natCast_add, Int.cast_ofNat_Int, List.length_nil, List.cons_append, List.nil_append, List.append_assoc, List.length_append, List.length_cons, Nat.zero_add, List.map_append, List.map_cons, List.map_nil, w8V, w8H, rgV, rgH, uR, rowA, insA] at l1 l2 ro fo ⊢
    simp (maxSteps := 100000000) only [ivc, rgb, anf, vop, vlen, vbuiltin, nilR, salloc, sappend, eq_self, Nat.reduceEqDiff, Nat.reduceLT, Nat.reduceLeDiff, Nat.reduceAdd, Nat.reduceMul, Nat.reduceSub, Nat.reduceBEq, reduceCtorEq, ↓reduceIte, tyb, ro, fo, pk, ck, cl, sq, hcc, l1, l2, iR, wordsV]
    exact some_true (by omega)
  | true =>
   have l2 := rg_all (chL i.l) ([packN i.op i.a i.b i.c] ++ xsOf i) (fun c hc => ⟨(chL_mem hc).1, (chL_mem hc).2, List.all_eq_true.1 hac c hc⟩) (by rw [chL_len]; simp; omega)
   unfold xsOf at l1 l2 ⊢
   cases hcc : ((rowW i.op).c == 7 && i.c == 1) with
   | false =>
    simp only [hcc, Bool.false_eq_true, if_false, List.append_nil, List.length_nil, Int.natCast_zero, List.cons_append, List.nil_append, List.length_append, List.length_cons, Nat.zero_add, List.map_append, List.map_cons, List.map_nil, w8V, w8H, rgV, rgH, uR, rowA, insA] at l1 l2 ro fo ⊢
    simp (maxSteps := 100000000) only [ivc, rgb, anf, vop, vlen, vbuiltin, nilR, salloc, eq_self, Nat.reduceEqDiff, Nat.reduceLT, Nat.reduceLeDiff, Nat.reduceAdd, Nat.reduceMul, Nat.reduceBEq, reduceCtorEq, ↓reduceIte, tyb, ro, fo, pk, ck, sq, hcc, l1, l2, wordsV]
    rw [List.take_of_length_le (by simp)]
    exact some_true (by omega)
   | true =>
    simp only [hcc, if_true, Int.natCast_add, Int.cast_ofNat_Int, List.length_nil, List.cons_append, List.nil_append, List.append_assoc, List.length_append, List.length_cons, Nat.zero_add, List.map_append, List.map_cons, List.map_nil, w8V, w8H, rgV, rgH, uR, rowA, insA] at l1 l2 ro fo ⊢
    simp (maxSteps := 100000000) only [ivc, rgb, anf, vop, vlen, vbuiltin, nilR, salloc, sappend, eq_self, Nat.reduceEqDiff, Nat.reduceLT, Nat.reduceLeDiff, Nat.reduceAdd, Nat.reduceMul, Nat.reduceSub, Nat.reduceBEq, reduceCtorEq, ↓reduceIte, tyb, ro, fo, pk, ck, cl, sq, hcc, l1, l2, iR, wordsV]
    rw [List.take_of_length_le (by simp)]
    exact some_true (by omega)
theorem wordof_ev {n : Int} : E.F 41 [.int .i64 n] [] = some ((.bool (wok n), []), True) := by
 have h : wok n = (decide (0 ≤ n) && decide (n < 2147483648)) := by
  unfold wok
  congr 1
  by_cases h : n ≤ 2147483647
  ·rw [decide_eq_true h, decide_eq_true (by omega)]
  ·rw [decide_eq_false h, decide_eq_false (by omega)]
 rw [e41, h]
 simp (maxSteps := 100000000) only [ivc, rgb, anf, nilR, eq_self, Nat.reduceEqDiff, Nat.reduceLT, Nat.reduceLeDiff, Nat.reduceBEq, reduceCtorEq, ↓reduceIte, tyb]
def rbH (i : Ins) : HL := [(60000, ⟨true, 9, [.agg (insA i)]⟩)]
def rbV (i : Ins) (first e k : Int) : List AV := [.ptr 60000 0 0, .nilsl, .int .i64 e, .int .u32 first, .int .i64 k]
theorem rb_ok {i : Ins} {first : Int} (hl : i.l.length ≤ 1000) : ∀ (r m : List Int), i.l = m ++ r -> r.all byt = true ->
  E.L 17 8 (rbV i first 0 m.length) (rbH i) = some ((.exit 0, rbV i first 0 i.l.length, rbH i), True) := by
 intro r
 induction r with
 | nil =>
  intro m h _
  rw [List.append_nil] at h
  have q : ((m.length : Int) < i.l.length) = False := eq_false (by rw [h]; omega)
  have e : (i.l.length : Int) = m.length := by rw [h]
  simp only [rbV, rbH]
  rw [l17_8, e]
  simp (maxSteps := 100000000) only [ivc, rgb, anf, vop, vlen, vbuiltin, nilR, eq_self, Nat.reduceEqDiff, Nat.reduceLT, Nat.reduceLeDiff, Nat.reduceAdd, Nat.reduceBEq, reduceCtorEq, ↓reduceIte, tyb, insA, q]
 | cons n r ih =>
  intro m h ha
  simp only [List.all_cons, Bool.and_eq_true] at ha
  have hn : m.length + (r.length + 1) = i.l.length := by rw [h]; simp
  have hi' : ((m.length : Int) < i.l.length) = True := eq_true (by omega)
  have hg := getD_map (f := AV.int .i64) (show i.l[m.length]? = some n by rw [h]; simp)
  have hw1 : IntKind.i64.wrap ((m.length : Int) + 1) = m.length + 1 := wrap_id (by omega) (by omega)
  have hc : (0 ≤ (m.length : Int) /\ (m.length : Int) < i.l.length) = True := eq_true (by omega)
  have bt := byte_ev (n := n)
  rw [ha.1] at bt
  have ih' := ih (m ++ [n]) (by simp [h]) ha.2
  simp only [rbV, rbH, List.length_append, List.length_cons, List.length_nil, Nat.zero_add, Int.natCast_add, Int.cast_ofNat_Int, insA] at ih' ⊢
  rw [l17_8]
  simp (maxSteps := 100000000) only [ivc, rgb, anf, vop, vlen, vbuiltin, nilR, eq_self, Nat.reduceEqDiff, Nat.reduceLT, Nat.reduceLeDiff, Nat.reduceAdd, Nat.reduceBEq, reduceCtorEq, ↓reduceIte, tyb, hi', hg, hw1, bt, ih']
  exact some_true (by omega)
theorem rb_bad {i : Ins} {first : Int} (hl : i.l.length ≤ 1000) {n : Int} {q : List Int} (hb : byt n = false) : ∀ (p m : List Int), i.l = m ++ (p ++ n :: q) -> p.all byt = true ->
  E.L 17 8 (rbV i first 0 m.length) (rbH i) = some ((.ret, rbV i first 3 (m.length + p.length), rbH i), True) := by
 intro p
 induction p with
 | nil =>
  intro m h _
  have hn : m.length + (q.length + 1) = i.l.length := by rw [h]; simp
  have hi' : ((m.length : Int) < i.l.length) = True := eq_true (by omega)
  have hg := getD_map (f := AV.int .i64) (show i.l[m.length]? = some n by rw [h]; simp)
  have hc : (0 ≤ (m.length : Int) /\ (m.length : Int) < i.l.length) = True := eq_true (by omega)
  have bt := byte_ev (n := n)
  rw [hb] at bt
  simp only [rbV, rbH, List.length_nil, Int.natCast_zero, Int.add_zero]
  rw [l17_8]
  simp (maxSteps := 100000000) only [ivc, rgb, anf, vop, vlen, vbuiltin, nilR, eq_self, Nat.reduceEqDiff, Nat.reduceLT, Nat.reduceLeDiff, Nat.reduceAdd, Nat.reduceBEq, reduceCtorEq, ↓reduceIte, tyb, insA, hi', hg, bt]
  exact some_true (by omega)
 | cons a p ih =>
  intro m h ha
  simp only [List.all_cons, Bool.and_eq_true] at ha
  have hn : m.length + (p.length + (q.length + 1) + 1) = i.l.length := by rw [h]; simp
  have hi' : ((m.length : Int) < i.l.length) = True := eq_true (by omega)
  have hg := getD_map (f := AV.int .i64) (show i.l[m.length]? = some a by rw [h]; simp)
  have hw1 : IntKind.i64.wrap ((m.length : Int) + 1) = m.length + 1 := wrap_id (by omega) (by omega)
  have hc : (0 ≤ (m.length : Int) /\ (m.length : Int) < i.l.length) = True := eq_true (by omega)
  have bt := byte_ev (n := a)
  rw [ha.1] at bt
  have ih' := ih (m ++ [a]) (by simp [h]) ha.2
  have e4 : (m.length : Int) + 1 + (p.length : Int) = m.length + (p.length + 1) := by omega
  simp only [rbV, rbH, List.length_append, List.length_cons, List.length_nil, Nat.zero_add, Int.natCast_add, Int.cast_ofNat_Int, insA, e4] at ih' ⊢
  rw [l17_8]
  simp (maxSteps := 100000000) only [ivc, rgb, anf, vop, vlen, vbuiltin, nilR, eq_self, Nat.reduceEqDiff, Nat.reduceLT, Nat.reduceLeDiff, Nat.reduceAdd, Nat.reduceBEq, reduceCtorEq, ↓reduceIte, tyb, hi', hg, hw1, bt, ih']
  exact some_true (by omega)
def riH (i : Ins) (ws : List Int) : HL := [(60000, ⟨true, 9, [.agg (insA i)]⟩), (60001, uR ws)]
def riV (ws : List Int) (e k : Int) : List AV := [.ptr 60000 0 0, .nilsl, .int .i64 e, .sl 60001 0 ws.length, .int .i64 k]
theorem ri_ok {i : Ins} (hx : i.x.length ≤ 1000) : ∀ (r m ws : List Int), i.x = m ++ r -> ws.length ≤ 1000 + m.length -> r.all wok = true ->
  E.L 17 14 (riV ws 0 m.length) (riH i ws) = some ((.exit 2, riV (ws ++ r) 0 i.x.length, riH i (ws ++ r)), True) := by
 intro r
 induction r with
 | nil =>
  intro m ws h hw _
  rw [List.append_nil] at h
  have q : ((m.length : Int) < i.x.length) = False := eq_false (by rw [h]; omega)
  have e : (i.x.length : Int) = m.length := by rw [h]
  simp only [riV, riH]
  rw [l17_14, e]
  simp (maxSteps := 100000000) only [ivc, rgb, anf, vop, vlen, vbuiltin, nilR, eq_self, Nat.reduceEqDiff, Nat.reduceLT, Nat.reduceLeDiff, Nat.reduceAdd, Nat.reduceBEq, reduceCtorEq, ↓reduceIte, tyb, insA, uR, q]
 | cons n r ih =>
  intro m ws h hw ha
  simp only [List.all_cons, Bool.and_eq_true] at ha
  obtain ⟨n1, n2⟩ := wok_true ha.1
  have hn : m.length + (r.length + 1) = i.x.length := by rw [h]; simp
  have hi' : ((m.length : Int) < i.x.length) = True := eq_true (by omega)
  have hg := getD_map (f := AV.int .i64) (show i.x[m.length]? = some n by rw [h]; simp)
  have hw1 : IntKind.i64.wrap ((m.length : Int) + 1) = m.length + 1 := wrap_id (by omega) (by omega)
  have hc : (0 ≤ (m.length : Int) /\ (m.length : Int) < i.x.length) = True := eq_true (by omega)
  have bt := wordof_ev (n := n)
  rw [ha.1] at bt
  have a3 := u32id (y := n) (by omega) (by omega)
  have ih' := ih (m ++ [n]) (ws ++ [n]) (by simp [h]) (by simp; omega) ha.2
  simp only [riV, riH, List.append_assoc, List.length_append, List.length_cons, List.length_nil, Nat.zero_add, Int.natCast_add, Int.cast_ofNat_Int, uR, List.map_append, List.map_cons, List.map_nil, List.cons_append, List.nil_append, insA] at ih' ⊢
  rw [l17_14]
  simp (maxSteps := 100000000) only [ivc, rgb, anf, vop, vlen, vbuiltin, nilR, salloc, sappend, eq_self, Nat.reduceEqDiff, Nat.reduceLT, Nat.reduceLeDiff, Nat.reduceAdd, Nat.reduceBEq, reduceCtorEq, ↓reduceIte, tyb, hi', hg, hw1, bt, a3, ih']
  exact some_true (by omega)
theorem ri_bad {i : Ins} (hx : i.x.length ≤ 1000) {n : Int} {q : List Int} (hb : wok n = false) : ∀ (p m ws : List Int), i.x = m ++ (p ++ n :: q) -> ws.length ≤ 1000 + m.length -> p.all wok = true ->
  E.L 17 14 (riV ws 0 m.length) (riH i ws) = some ((.ret, riV (ws ++ p) 3 (m.length + p.length), riH i (ws ++ p)), True) := by
 intro p
 induction p with
 | nil =>
  intro m ws h hw _
  have hn : m.length + (q.length + 1) = i.x.length := by rw [h]; simp
  have hi' : ((m.length : Int) < i.x.length) = True := eq_true (by omega)
  have hg := getD_map (f := AV.int .i64) (show i.x[m.length]? = some n by rw [h]; simp)
  have hc : (0 ≤ (m.length : Int) /\ (m.length : Int) < i.x.length) = True := eq_true (by omega)
  have bt := wordof_ev (n := n)
  rw [hb] at bt
  simp only [riV, riH, List.length_nil, Int.natCast_zero, Int.add_zero, List.append_nil]
  rw [l17_14]
  simp (maxSteps := 100000000) only [ivc, rgb, anf, vop, vlen, vbuiltin, nilR, eq_self, Nat.reduceEqDiff, Nat.reduceLT, Nat.reduceLeDiff, Nat.reduceAdd, Nat.reduceBEq, reduceCtorEq, ↓reduceIte, tyb, insA, uR, hi', hg, bt]
  exact some_true (by omega)
 | cons a p ih =>
  intro m ws h hw ha
  simp only [List.all_cons, Bool.and_eq_true] at ha
  obtain ⟨n1, n2⟩ := wok_true ha.1
  have hn : m.length + (p.length + (q.length + 1) + 1) = i.x.length := by rw [h]; simp
  have hi' : ((m.length : Int) < i.x.length) = True := eq_true (by omega)
  have hg := getD_map (f := AV.int .i64) (show i.x[m.length]? = some a by rw [h]; simp)
  have hw1 : IntKind.i64.wrap ((m.length : Int) + 1) = m.length + 1 := wrap_id (by omega) (by omega)
  have hc : (0 ≤ (m.length : Int) /\ (m.length : Int) < i.x.length) = True := eq_true (by omega)
  have bt := wordof_ev (n := a)
  rw [ha.1] at bt
  have a3 := u32id (y := a) (by omega) (by omega)
  have ih' := ih (m ++ [a]) (ws ++ [a]) (by simp [h]) (by simp; omega) ha.2
  have e4 : (m.length : Int) + 1 + (p.length : Int) = m.length + (p.length + 1) := by omega
  simp only [riV, riH, List.append_assoc, List.length_append, List.length_cons, List.length_nil, Nat.zero_add, Int.natCast_add, Int.cast_ofNat_Int, uR, List.map_append, List.map_cons, List.map_nil, List.cons_append, List.nil_append, insA, e4] at ih' ⊢
  rw [l17_14]
  simp (maxSteps := 100000000) only [ivc, rgb, anf, vop, vlen, vbuiltin, nilR, salloc, sappend, eq_self, Nat.reduceEqDiff, Nat.reduceLT, Nat.reduceLeDiff, Nat.reduceAdd, Nat.reduceBEq, reduceCtorEq, ↓reduceIte, tyb, hi', hg, hw1, bt, a3, ih']
  exact some_true (by omega)
def rcW : List Int -> List Int
 | [] => []
 | [a] => [a]
 | [a, b] => [a + 256 * b]
 | [a, b, c] => [a + 256 * b + 65536 * c]
 | a :: b :: c :: d :: r => (a + 256 * b + 65536 * c + 16777216 * d) :: rcW r
def rcV (ws : List Int) (k : Int) : List AV := [.ptr 60000 0 0, .sl 60001 0 ws.length, .int .i64 k]
theorem rc_all {i : Ins} (hl : i.l.length ≤ 1000) : ∀ (n : Nat) (r m ws : List Int), r.length ≤ n -> i.l = m ++ r -> ws.length ≤ 5000 + m.length -> r.all byt = true ->
  E.L 17 25 (rcV ws m.length) (riH i ws) = some ((.exit 4, rcV (ws ++ rcW r) (m.length + 4 * (rcW r).length), riH i (ws ++ rcW r)), True) := by
 intro n
 induction n with
 | zero =>
  intro r m ws hr h hw _
  obtain rfl := List.eq_nil_of_length_eq_zero (Nat.le_zero.1 hr)
  rw [List.append_nil] at h
  have q : ((m.length : Int) < i.l.length) = False := eq_false (by rw [h]; omega)
  simp only [rcV, riH, rcW, List.append_nil, List.length_nil, Int.natCast_zero, Int.mul_zero, Int.add_zero]
  rw [l17_25]
  simp (maxSteps := 100000000) only [ivc, rgb, anf, vop, vlen, vbuiltin, nilR, eq_self, Nat.reduceEqDiff, Nat.reduceLT, Nat.reduceLeDiff, Nat.reduceAdd, Nat.reduceBEq, reduceCtorEq, ↓reduceIte, tyb, insA, uR, q]
 | succ n ih =>
  intro r m ws hr h hw ha
  have h0 : ∀ x ∈ r, byt x = true := List.all_eq_true.1 ha
  match r, hr, h, ha, h0 with
  | [], hr, h, ha, h0 =>
   rw [List.append_nil] at h
   have q : ((m.length : Int) < i.l.length) = False := eq_false (by rw [h]; omega)
   simp only [rcV, riH, rcW, List.append_nil, List.length_nil, Int.natCast_zero, Int.mul_zero, Int.add_zero]
   rw [l17_25]
   simp (maxSteps := 100000000) only [ivc, rgb, anf, vop, vlen, vbuiltin, nilR, eq_self, Nat.reduceEqDiff, Nat.reduceLT, Nat.reduceLeDiff, Nat.reduceAdd, Nat.reduceBEq, reduceCtorEq, ↓reduceIte, tyb, insA, uR, q]
  | [a], hr, h, ha, h0 =>
   have hn : m.length + (1) = i.l.length := by rw [h]; simp
   obtain ⟨a1, a2⟩ := byt_true (h0 a (by simp))
   have g0 := getD_map (f := AV.int .i64) (show i.l[m.length]? = some a by rw [h]; simp)
   have m0 : IntKind.i64.wrap (1 * a) = 1 * a := wrap_id (by omega) (by omega)
   have s0 : IntKind.i64.wrap (0 + 1 * a) = 0 + 1 * a := wrap_id (by omega) (by omega)
   have v0 : IntKind.i64.wrap (a) = a := wrap_id (by omega) (by omega)
   have j0 : ((m.length : Int) < (m.length : Int) + 4) = True := eq_true (by omega)
   have k0 : ((m.length : Int) < (i.l.length : Int)) = True := eq_true (by omega)
   have q0 : (0 ≤ (m.length : Int) /\ (m.length : Int) < (i.l.length : Int)) = True := eq_true (by omega)
   have t0 : ((m.length : Int)).toNat = m.length := by omega
   have w0 : IntKind.i64.wrap ((m.length : Int) + 1) = (m.length : Int) + 1 := by rw [wrap_id (by omega) (by omega)] <;> omega
   have j1 : ((m.length : Int) + 1 < (m.length : Int) + 4) = True := eq_true (by omega)
   have k1 : ((m.length : Int) + 1 < (i.l.length : Int)) = False := eq_false (by omega)
   have w1 : IntKind.i64.wrap ((m.length : Int) + 1 + 1) = (m.length : Int) + 2 := by rw [wrap_id (by omega) (by omega)] <;> omega
   have j2 : ((m.length : Int) + 2 < (m.length : Int) + 4) = True := eq_true (by omega)
   have w2 : IntKind.i64.wrap ((m.length : Int) + 2 + 1) = (m.length : Int) + 3 := by rw [wrap_id (by omega) (by omega)] <;> omega
   have j3 : ((m.length : Int) + 3 < (m.length : Int) + 4) = True := eq_true (by omega)
   have w3 : IntKind.i64.wrap ((m.length : Int) + 3 + 1) = (m.length : Int) + 4 := by rw [wrap_id (by omega) (by omega)] <;> omega
   have j4 : ((m.length : Int) + 4 < (m.length : Int) + 4) = False := eq_false (by omega)
   have wk : IntKind.i64.wrap ((m.length : Int) + 4) = m.length + 4 := wrap_id (by omega) (by omega)
   have u := u32id (y := 0 + 1 * a) (by omega) (by omega)
   have e0 : 0 + 1 * a = a := by omega
   simp only [e0] at u
   have qe : ((m.length : Int) + 4 < (i.l.length : Int)) = False := eq_false (by omega)
   simp only [rcV, riH, rcW, List.length_append, List.length_cons, List.length_nil, Nat.zero_add, Int.cast_ofNat_Int, uR, List.map_append, List.map_cons, List.map_nil, insA]
   rw [l17_25]
   simp (maxSteps := 100000000) only [ivc, rgb, anf, vop, vlen, vbuiltin, nilR, salloc, sappend, eq_self, Nat.reduceEqDiff, Nat.reduceLT, Nat.reduceLeDiff, Nat.reduceAdd, Nat.reduceBEq, Int.reduceLE, Int.reduceNeg, Int.reduceMul, reduceCtorEq, ↓reduceIte, tyb, l17_30, l17_25, g0, m0, v0, j0, t0, k0, w0, j1, k1, wk, u, e0, qe, Int.mul_one]
   exact some_true (by omega)
  | [a, b], hr, h, ha, h0 =>
   have hn : m.length + (2) = i.l.length := by rw [h]; simp
   obtain ⟨a1, a2⟩ := byt_true (h0 a (by simp))
   have g0 := getD_map (f := AV.int .i64) (show i.l[m.length]? = some a by rw [h]; simp)
   obtain ⟨b1, b2⟩ := byt_true (h0 b (by simp))
   have g1 := getD_map (f := AV.int .i64) (show i.l[m.length + 1]? = some b by rw [h]; simp)
   have m0 : IntKind.i64.wrap (1 * a) = 1 * a := wrap_id (by omega) (by omega)
   have s0 : IntKind.i64.wrap (0 + 1 * a) = 0 + 1 * a := wrap_id (by omega) (by omega)
   have v0 : IntKind.i64.wrap (a) = a := wrap_id (by omega) (by omega)
   have m1 : IntKind.i64.wrap (256 * b) = 256 * b := wrap_id (by omega) (by omega)
   have s1 : IntKind.i64.wrap (0 + 1 * a + 256 * b) = 0 + 1 * a + 256 * b := wrap_id (by omega) (by omega)
   have v1 : IntKind.i64.wrap (a + 256 * b) = a + 256 * b := wrap_id (by omega) (by omega)
   have j0 : ((m.length : Int) < (m.length : Int) + 4) = True := eq_true (by omega)
   have k0 : ((m.length : Int) < (i.l.length : Int)) = True := eq_true (by omega)
   have q0 : (0 ≤ (m.length : Int) /\ (m.length : Int) < (i.l.length : Int)) = True := eq_true (by omega)
   have t0 : ((m.length : Int)).toNat = m.length := by omega
   have w0 : IntKind.i64.wrap ((m.length : Int) + 1) = (m.length : Int) + 1 := by rw [wrap_id (by omega) (by omega)] <;> omega
   have j1 : ((m.length : Int) + 1 < (m.length : Int) + 4) = True := eq_true (by omega)
   have k1 : ((m.length : Int) + 1 < (i.l.length : Int)) = True := eq_true (by omega)
   have q1 : (0 ≤ (m.length : Int) + 1 /\ (m.length : Int) + 1 < (i.l.length : Int)) = True := eq_true (by omega)
   have t1 : ((m.length : Int) + 1).toNat = m.length + 1 := by omega
   have w1 : IntKind.i64.wrap ((m.length : Int) + 1 + 1) = (m.length : Int) + 2 := by rw [wrap_id (by omega) (by omega)] <;> omega
   have j2 : ((m.length : Int) + 2 < (m.length : Int) + 4) = True := eq_true (by omega)
   have k2 : ((m.length : Int) + 2 < (i.l.length : Int)) = False := eq_false (by omega)
   have w2 : IntKind.i64.wrap ((m.length : Int) + 2 + 1) = (m.length : Int) + 3 := by rw [wrap_id (by omega) (by omega)] <;> omega
   have j3 : ((m.length : Int) + 3 < (m.length : Int) + 4) = True := eq_true (by omega)
   have w3 : IntKind.i64.wrap ((m.length : Int) + 3 + 1) = (m.length : Int) + 4 := by rw [wrap_id (by omega) (by omega)] <;> omega
   have j4 : ((m.length : Int) + 4 < (m.length : Int) + 4) = False := eq_false (by omega)
   have wk : IntKind.i64.wrap ((m.length : Int) + 4) = m.length + 4 := wrap_id (by omega) (by omega)
   have u := u32id (y := 0 + 1 * a + 256 * b) (by omega) (by omega)
   have e0 : 0 + 1 * a + 256 * b = a + 256 * b := by omega
   simp only [e0] at u
   have qe : ((m.length : Int) + 4 < (i.l.length : Int)) = False := eq_false (by omega)
   simp only [rcV, riH, rcW, List.length_append, List.length_cons, List.length_nil, Nat.zero_add, Int.cast_ofNat_Int, uR, List.map_append, List.map_cons, List.map_nil, insA]
   rw [l17_25]
   simp (maxSteps := 100000000) only [ivc, rgb, anf, vop, vlen, vbuiltin, nilR, salloc, sappend, eq_self, Nat.reduceEqDiff, Nat.reduceLT, Nat.reduceLeDiff, Nat.reduceAdd, Nat.reduceBEq, Int.reduceLE, Int.reduceNeg, Int.reduceMul, reduceCtorEq, ↓reduceIte, tyb, l17_30, l17_25, g0, g1, m0, s0, m1, v1, j0, t0, k0, w0, j1, t1, k1, w1, j2, k2, wk, u, e0, qe, Int.mul_one]
   exact some_true (by omega)
  | [a, b, c], hr, h, ha, h0 =>
   have hn : m.length + (3) = i.l.length := by rw [h]; simp
   obtain ⟨a1, a2⟩ := byt_true (h0 a (by simp))
   have g0 := getD_map (f := AV.int .i64) (show i.l[m.length]? = some a by rw [h]; simp)
   obtain ⟨b1, b2⟩ := byt_true (h0 b (by simp))
   have g1 := getD_map (f := AV.int .i64) (show i.l[m.length + 1]? = some b by rw [h]; simp)
   obtain ⟨c1, c2⟩ := byt_true (h0 c (by simp))
   have g2 := getD_map (f := AV.int .i64) (show i.l[m.length + 2]? = some c by rw [h]; simp)
   have m0 : IntKind.i64.wrap (1 * a) = 1 * a := wrap_id (by omega) (by omega)
   have s0 : IntKind.i64.wrap (0 + 1 * a) = 0 + 1 * a := wrap_id (by omega) (by omega)
   have v0 : IntKind.i64.wrap (a) = a := wrap_id (by omega) (by omega)
   have m1 : IntKind.i64.wrap (256 * b) = 256 * b := wrap_id (by omega) (by omega)
   have s1 : IntKind.i64.wrap (0 + 1 * a + 256 * b) = 0 + 1 * a + 256 * b := wrap_id (by omega) (by omega)
   have v1 : IntKind.i64.wrap (a + 256 * b) = a + 256 * b := wrap_id (by omega) (by omega)
   have m2 : IntKind.i64.wrap (65536 * c) = 65536 * c := wrap_id (by omega) (by omega)
   have s2 : IntKind.i64.wrap (0 + 1 * a + 256 * b + 65536 * c) = 0 + 1 * a + 256 * b + 65536 * c := wrap_id (by omega) (by omega)
   have v2 : IntKind.i64.wrap (a + 256 * b + 65536 * c) = a + 256 * b + 65536 * c := wrap_id (by omega) (by omega)
   have j0 : ((m.length : Int) < (m.length : Int) + 4) = True := eq_true (by omega)
   have k0 : ((m.length : Int) < (i.l.length : Int)) = True := eq_true (by omega)
   have q0 : (0 ≤ (m.length : Int) /\ (m.length : Int) < (i.l.length : Int)) = True := eq_true (by omega)
   have t0 : ((m.length : Int)).toNat = m.length := by omega
   have w0 : IntKind.i64.wrap ((m.length : Int) + 1) = (m.length : Int) + 1 := by rw [wrap_id (by omega) (by omega)] <;> omega
   have j1 : ((m.length : Int) + 1 < (m.length : Int) + 4) = True := eq_true (by omega)
   have k1 : ((m.length : Int) + 1 < (i.l.length : Int)) = True := eq_true (by omega)
   have q1 : (0 ≤ (m.length : Int) + 1 /\ (m.length : Int) + 1 < (i.l.length : Int)) = True := eq_true (by omega)
   have t1 : ((m.length : Int) + 1).toNat = m.length + 1 := by omega
   have w1 : IntKind.i64.wrap ((m.length : Int) + 1 + 1) = (m.length : Int) + 2 := by rw [wrap_id (by omega) (by omega)] <;> omega
   have j2 : ((m.length : Int) + 2 < (m.length : Int) + 4) = True := eq_true (by omega)
   have k2 : ((m.length : Int) + 2 < (i.l.length : Int)) = True := eq_true (by omega)
   have q2 : (0 ≤ (m.length : Int) + 2 /\ (m.length : Int) + 2 < (i.l.length : Int)) = True := eq_true (by omega)
   have t2 : ((m.length : Int) + 2).toNat = m.length + 2 := by omega
   have w2 : IntKind.i64.wrap ((m.length : Int) + 2 + 1) = (m.length : Int) + 3 := by rw [wrap_id (by omega) (by omega)] <;> omega
   have j3 : ((m.length : Int) + 3 < (m.length : Int) + 4) = True := eq_true (by omega)
   have k3 : ((m.length : Int) + 3 < (i.l.length : Int)) = False := eq_false (by omega)
   have w3 : IntKind.i64.wrap ((m.length : Int) + 3 + 1) = (m.length : Int) + 4 := by rw [wrap_id (by omega) (by omega)] <;> omega
   have j4 : ((m.length : Int) + 4 < (m.length : Int) + 4) = False := eq_false (by omega)
   have wk : IntKind.i64.wrap ((m.length : Int) + 4) = m.length + 4 := wrap_id (by omega) (by omega)
   have u := u32id (y := 0 + 1 * a + 256 * b + 65536 * c) (by omega) (by omega)
   have e0 : 0 + 1 * a + 256 * b + 65536 * c = a + 256 * b + 65536 * c := by omega
   simp only [e0] at u
   have qe : ((m.length : Int) + 4 < (i.l.length : Int)) = False := eq_false (by omega)
   simp only [rcV, riH, rcW, List.length_append, List.length_cons, List.length_nil, Nat.zero_add, Int.cast_ofNat_Int, uR, List.map_append, List.map_cons, List.map_nil, insA]
   rw [l17_25]
   simp (maxSteps := 100000000) only [ivc, rgb, anf, vop, vlen, vbuiltin, nilR, salloc, sappend, eq_self, Nat.reduceEqDiff, Nat.reduceLT, Nat.reduceLeDiff, Nat.reduceAdd, Nat.reduceBEq, Int.reduceLE, Int.reduceNeg, Int.reduceMul, reduceCtorEq, ↓reduceIte, tyb, l17_30, l17_25, g0, g1, g2, m0, s0, m1, s1, m2, v2, j0, t0, k0, w0, j1, t1, k1, w1, j2, t2, k2, w2, j3, k3, wk, u, e0, qe, Int.mul_one]
   exact some_true (by omega)
  | a :: b :: c :: d :: r, hr, h, ha, h0 =>
   have hn : m.length + (r.length + 1 + 1 + 1 + 1) = i.l.length := by rw [h]; simp
   obtain ⟨a1, a2⟩ := byt_true (h0 a (by simp))
   have g0 := getD_map (f := AV.int .i64) (show i.l[m.length]? = some a by rw [h]; simp)
   obtain ⟨b1, b2⟩ := byt_true (h0 b (by simp))
   have g1 := getD_map (f := AV.int .i64) (show i.l[m.length + 1]? = some b by rw [h]; simp)
   obtain ⟨c1, c2⟩ := byt_true (h0 c (by simp))
   have g2 := getD_map (f := AV.int .i64) (show i.l[m.length + 2]? = some c by rw [h]; simp)
   obtain ⟨d1, d2⟩ := byt_true (h0 d (by simp))
   have g3 := getD_map (f := AV.int .i64) (show i.l[m.length + 3]? = some d by rw [h]; simp)
   have m0 : IntKind.i64.wrap (1 * a) = 1 * a := wrap_id (by omega) (by omega)
   have s0 : IntKind.i64.wrap (0 + 1 * a) = 0 + 1 * a := wrap_id (by omega) (by omega)
   have v0 : IntKind.i64.wrap (a) = a := wrap_id (by omega) (by omega)
   have m1 : IntKind.i64.wrap (256 * b) = 256 * b := wrap_id (by omega) (by omega)
   have s1 : IntKind.i64.wrap (0 + 1 * a + 256 * b) = 0 + 1 * a + 256 * b := wrap_id (by omega) (by omega)
   have v1 : IntKind.i64.wrap (a + 256 * b) = a + 256 * b := wrap_id (by omega) (by omega)
   have m2 : IntKind.i64.wrap (65536 * c) = 65536 * c := wrap_id (by omega) (by omega)
   have s2 : IntKind.i64.wrap (0 + 1 * a + 256 * b + 65536 * c) = 0 + 1 * a + 256 * b + 65536 * c := wrap_id (by omega) (by omega)
   have v2 : IntKind.i64.wrap (a + 256 * b + 65536 * c) = a + 256 * b + 65536 * c := wrap_id (by omega) (by omega)
   have m3 : IntKind.i64.wrap (16777216 * d) = 16777216 * d := wrap_id (by omega) (by omega)
   have s3 : IntKind.i64.wrap (0 + 1 * a + 256 * b + 65536 * c + 16777216 * d) = 0 + 1 * a + 256 * b + 65536 * c + 16777216 * d := wrap_id (by omega) (by omega)
   have v3 : IntKind.i64.wrap (a + 256 * b + 65536 * c + 16777216 * d) = a + 256 * b + 65536 * c + 16777216 * d := wrap_id (by omega) (by omega)
   have j0 : ((m.length : Int) < (m.length : Int) + 4) = True := eq_true (by omega)
   have k0 : ((m.length : Int) < (i.l.length : Int)) = True := eq_true (by omega)
   have q0 : (0 ≤ (m.length : Int) /\ (m.length : Int) < (i.l.length : Int)) = True := eq_true (by omega)
   have t0 : ((m.length : Int)).toNat = m.length := by omega
   have w0 : IntKind.i64.wrap ((m.length : Int) + 1) = (m.length : Int) + 1 := by rw [wrap_id (by omega) (by omega)] <;> omega
   have j1 : ((m.length : Int) + 1 < (m.length : Int) + 4) = True := eq_true (by omega)
   have k1 : ((m.length : Int) + 1 < (i.l.length : Int)) = True := eq_true (by omega)
   have q1 : (0 ≤ (m.length : Int) + 1 /\ (m.length : Int) + 1 < (i.l.length : Int)) = True := eq_true (by omega)
   have t1 : ((m.length : Int) + 1).toNat = m.length + 1 := by omega
   have w1 : IntKind.i64.wrap ((m.length : Int) + 1 + 1) = (m.length : Int) + 2 := by rw [wrap_id (by omega) (by omega)] <;> omega
   have j2 : ((m.length : Int) + 2 < (m.length : Int) + 4) = True := eq_true (by omega)
   have k2 : ((m.length : Int) + 2 < (i.l.length : Int)) = True := eq_true (by omega)
   have q2 : (0 ≤ (m.length : Int) + 2 /\ (m.length : Int) + 2 < (i.l.length : Int)) = True := eq_true (by omega)
   have t2 : ((m.length : Int) + 2).toNat = m.length + 2 := by omega
   have w2 : IntKind.i64.wrap ((m.length : Int) + 2 + 1) = (m.length : Int) + 3 := by rw [wrap_id (by omega) (by omega)] <;> omega
   have j3 : ((m.length : Int) + 3 < (m.length : Int) + 4) = True := eq_true (by omega)
   have k3 : ((m.length : Int) + 3 < (i.l.length : Int)) = True := eq_true (by omega)
   have q3 : (0 ≤ (m.length : Int) + 3 /\ (m.length : Int) + 3 < (i.l.length : Int)) = True := eq_true (by omega)
   have t3 : ((m.length : Int) + 3).toNat = m.length + 3 := by omega
   have w3 : IntKind.i64.wrap ((m.length : Int) + 3 + 1) = (m.length : Int) + 4 := by rw [wrap_id (by omega) (by omega)] <;> omega
   have j4 : ((m.length : Int) + 4 < (m.length : Int) + 4) = False := eq_false (by omega)
   have wk : IntKind.i64.wrap ((m.length : Int) + 4) = m.length + 4 := wrap_id (by omega) (by omega)
   have u := u32id (y := 0 + 1 * a + 256 * b + 65536 * c + 16777216 * d) (by omega) (by omega)
   have ih' := ih r (m ++ [a, b, c, d]) (ws ++ [0 + 1 * a + 256 * b + 65536 * c + 16777216 * d]) (by simp at hr ⊢; omega) (by rw [h]; simp) (by simp; omega) (by simp only [List.all_cons, Bool.and_eq_true] at ha; exact ha.2.2.2.2)
   have e0 : 0 + 1 * a + 256 * b + 65536 * c + 16777216 * d = a + 256 * b + 65536 * c + 16777216 * d := by omega
   rw [e0] at ih'
   simp only [e0] at u
   simp only [rcV, riH, List.append_assoc, List.length_append, List.length_cons, List.length_nil, Nat.zero_add, Nat.reduceAdd, Int.natCast_add, Int.cast_ofNat_Int, uR, List.map_append, List.map_cons, List.map_nil, List.cons_append, List.nil_append, insA] at ih'
   have e1 : (m.length : Int) + 4 + 4 * ((rcW r).length : Int) = m.length + 4 * ((rcW r).length + 1) := by omega
   rw [e1] at ih'
   simp only [rcV, riH, rcW, List.length_append, List.length_cons, Int.natCast_add, Int.cast_ofNat_Int, uR, List.map_append, List.map_cons, insA]
   rw [l17_25]
   simp (maxSteps := 100000000) only [ivc, rgb, anf, vop, vlen, vbuiltin, nilR, salloc, sappend, eq_self, Nat.reduceEqDiff, Nat.reduceLT, Nat.reduceLeDiff, Nat.reduceAdd, Nat.reduceBEq, Int.reduceLE, Int.reduceNeg, Int.reduceMul, reduceCtorEq, ↓reduceIte, tyb, l17_30, g0, g1, g2, g3, m0, s0, m1, s1, m2, s2, m3, v3, j0, t0, k0, w0, j1, t1, k1, w1, j2, t2, k2, w2, j3, t3, k3, w3, j4, wk, u, e0, ih']
   exact some_true (by omega)
def rflag (i : Ins) : Bool := (shW i.op).c == 7 && i.c == 1
def rwordsM (i : Ins) : Int × List Int :=
 if rformedM i = true then
  if (byt i.op && byt i.a && byt i.b && byt i.c) = true then
   if i.l.all byt = true then
    if i.x.all wok = true then
     if (rflag i && !wok i.ra) = true then (3, [])
     else (0, packN i.op i.a i.b i.c :: (i.x ++ ((if rflag i = true then [i.ra] else []) ++ rcW i.l)))
    else (3, [])
   else (3, [])
  else (3, [])
 else (260, [])
theorem rwords_ev {i : Ins} (hx : i.x.length ≤ 100) (hl : i.l.length ≤ 1000) : E.F 17 [.agg (insA i)] [] = some ((wordsV (rwordsM i), []), True) := by
 rw [e17]
 have rf := rformed_ev (i := i)
 have sh := shape_ev (n := i.op)
 have pk := rpack_ev (a := i.op) (b := i.a) (c := i.b) (d := i.c)
 have wo := wordof_ev (n := i.ra)
 unfold rwordsM rflag
 unfold packM at pk
 generalize hsh : shW i.op = r at sh ⊢
 generalize hin : opIn i.op = ok at sh
 cases hfm : rformedM i with
 | false =>
  rw [hfm] at rf
  simp only [List.length_nil, List.length_cons, Nat.zero_add, insA, shA] at rf sh ⊢
  simp (maxSteps := 100000000) only [ivc, rgb, anf, vop, salloc, eq_self, Nat.reduceEqDiff, Nat.reduceLT, Nat.reduceLeDiff, Nat.reduceAdd, Nat.reduceBEq, ↓reduceIte, tyb, rf, wordsV]
 | true =>
 rw [hfm] at rf
 cases hp : byt i.op && byt i.a && byt i.b && byt i.c with
 | false =>
  simp only [List.length_nil, List.length_cons, Nat.zero_add, insA, shA] at rf sh ⊢
  simp (maxSteps := 100000000) only [ivc, rgb, anf, vop, nilR, salloc, eq_self, Nat.reduceEqDiff, Nat.reduceLT, Nat.reduceLeDiff, Nat.reduceAdd, Nat.reduceBEq, Int.reduceBNe, ↓reduceIte, tyb, rf, pk, hp, wordsV]
 | true =>
 rw [hp, if_pos rfl] at pk
 cases hlb : i.l.all byt with
 | false =>
  obtain ⟨p, n, q, hpe, hpa, hpb⟩ := split_all hlb
  have l0 := rb_bad (i := i) (first := packN i.op i.a i.b i.c) hl hpb p [] hpe hpa
  simp only [List.length_nil, Int.natCast_zero, Int.zero_add, List.length_cons, Nat.zero_add, rbV, rbH, insA, shA] at l0 rf sh ⊢
  simp (maxSteps := 100000000) only [ivc, rgb, anf, vop, nilR, salloc, eq_self, Nat.reduceEqDiff, Nat.reduceLT, Nat.reduceLeDiff, Nat.reduceAdd, Nat.reduceBEq, reduceCtorEq, ↓reduceIte, tyb, rf, pk, l0, wordsV]
 | true =>
 have l0 := rb_ok (i := i) (first := packN i.op i.a i.b i.c) hl i.l [] rfl hlb
 cases hxw : i.x.all wok with
 | false =>
  obtain ⟨p, n, q, hpe, hpa, hpb⟩ := split_all hxw
  have l1 := ri_bad (i := i) (by omega) hpb p [] [packN i.op i.a i.b i.c] hpe (by simp) hpa
  simp only [List.length_nil, Int.natCast_zero, Int.zero_add, List.cons_append, List.nil_append, List.length_cons, Nat.zero_add, List.map_cons, List.map_nil, rbV, rbH, riV, riH, uR, insA, shA] at l0 l1 rf sh ⊢
  simp (maxSteps := 100000000) only [ivc, rgb, anf, vop, nilR, salloc, eq_self, Nat.reduceEqDiff, Nat.reduceLT, Nat.reduceLeDiff, Nat.reduceAdd, Nat.reduceBEq, reduceCtorEq, ↓reduceIte, tyb, rf, pk, l0, l1, wordsV]
 | true =>
 have l1 := ri_ok (i := i) (by omega) i.x [] [packN i.op i.a i.b i.c] rfl (by simp) hxw
 cases hcc : (r.c == 7 && i.c == 1) with
 | false =>
  have l2 := rc_all (i := i) hl i.l.length i.l [] ([packN i.op i.a i.b i.c] ++ i.x) (Nat.le_refl _) rfl (by simp; omega) hlb
  simp only [List.length_nil, Int.natCast_zero, Int.zero_add, List.cons_append, List.nil_append, List.length_append, List.length_cons, Nat.zero_add, List.map_append, List.map_cons, List.map_nil, rbV, rbH, riV, riH, rcV, uR, insA, shA] at l0 l1 l2 rf sh ⊢
  simp (maxSteps := 100000000) only [ivc, rgb, anf, vop, nilR, salloc, eq_self, Nat.reduceEqDiff, Nat.reduceLT, Nat.reduceLeDiff, Nat.reduceAdd, Nat.reduceBEq, reduceCtorEq, ↓reduceIte, tyb, rf, sh, pk, l0, l1, l2, hcc, wordsV]
  rw [List.take_of_length_le (by simp)]
 | true =>
 cases hwr : wok i.ra with
 | false =>
  rw [hwr] at wo
  simp only [List.length_nil, Int.natCast_zero, List.cons_append, List.nil_append, List.length_cons, Nat.zero_add, List.map_cons, List.map_nil, rbV, rbH, riV, riH, uR, insA, shA] at l0 l1 rf sh ⊢
  simp (maxSteps := 100000000) only [ivc, rgb, anf, vop, nilR, salloc, eq_self, Nat.reduceEqDiff, Nat.reduceLT, Nat.reduceLeDiff, Nat.reduceAdd, Nat.reduceBEq, reduceCtorEq, ↓reduceIte, tyb, rf, sh, pk, l0, l1, hcc, wo, wordsV]
 | true =>
  rw [hwr] at wo
  obtain ⟨a1, a2⟩ := wok_true hwr
  have a3 := u32id (y := i.ra) (by omega) (by omega)
  have l2 := rc_all (i := i) hl i.l.length i.l [] ([packN i.op i.a i.b i.c] ++ (i.x ++ [i.ra])) (Nat.le_refl _) rfl (by simp; omega) hlb
  simp only [List.length_nil, Int.natCast_zero, Int.zero_add, List.cons_append, List.nil_append, List.append_assoc, List.length_append, List.length_cons, Nat.zero_add, List.map_append, List.map_cons, List.map_nil, rbV, rbH, riV, riH, rcV, uR, insA, shA] at l0 l1 l2 rf sh ⊢
  simp (maxSteps := 100000000) only [ivc, rgb, anf, vop, nilR, salloc, sappend, eq_self, Nat.reduceEqDiff, Nat.reduceLT, Nat.reduceLeDiff, Nat.reduceAdd, Nat.reduceBEq, reduceCtorEq, ↓reduceIte, tyb, rf, sh, pk, l0, l1, l2, hcc, wo, a3, wordsV]
  rw [List.take_of_length_le (by simp)]
  exact some_true (by omega)
end Go.Proofs.YtfdipcpmfoidoaaDoor

/- The words are the reference's. -/
namespace Go.Proofs.YtfdipcpmfoidoaaDoor
open Go Go.Aw
set_option linter.unusedSimpArgs false
set_option linter.unusedVariables false
set_option maxRecDepth 100000
set_option maxHeartbeats 4000000
def alike (r : OpRow) (s : Shp) : Bool :=
 (r.x.length == s.x.length) && (r.li == (s.b == 5)) && (!r.li || r.le == s.le) && ((r.a == 0) == (s.a == 0)) && (((r.w == 0) && (r.b == 0)) == (s.b == 0)) && (((r.w == 0) && (r.c == 0)) == ((s.c == 0) && !s.w)) && ((r.c == 7) == (s.c == 7))
theorem tab_alike : ∀ n : Nat, n < 24 -> alike (rowsT.getD n opZ) (shT.getD n shZ) = true := by decide
theorem op_alike {n : Int} (h : opIn n = true) : alike (rowW n) (shW n) = true := by
 unfold rowW shW
 rw [if_pos h, if_pos h]
 exact tab_alike n.toNat (by have := opIn_true h; omega)
theorem formed_eq {i : Ins} : rformedM i = (opIn i.op && formedM i (rowW i.op)) := by
 unfold rformedM formedM
 cases h : opIn i.op with
 | false => rfl
 | true =>
  have ha := op_alike h
  generalize rowW i.op = r at ha ⊢
  generalize shW i.op = s at ha ⊢
  unfold alike at ha
  simp only [Bool.and_eq_true, beq_iff_eq] at ha
  obtain ⟨⟨⟨⟨⟨⟨e1, e2⟩, e3⟩, e4⟩, e5⟩, e6⟩, e7⟩ := ha
  rw [e1, <- e7, <- e5, <- e6, <- e4]
  rw [<- e2]
  cases hli : r.li with
  | false =>
   simp only [Bool.false_eq_true, if_false, Bool.not_true, Bool.not_false, Bool.false_or, Bool.true_and, Bool.false_and, Bool.or_false]
   generalize ((i.x.length : Int) != (s.x.length : Int)) = p1
   generalize decide ((0 : Int) < i.l.length) = p2
   generalize (r.w == 0) = p3
   generalize (r.a == 0) = p4
   generalize (i.a != 0) = p5
   generalize (r.b == 0) = p6
   generalize (i.b != 0) = p7
   generalize (r.c == 0) = p8
   generalize (i.c != 0) = p9
   rw [show (r.c != 7) = !(r.c == 7) from rfl]
   generalize (r.c == 7) = p10
   cases p1 <;> cases p2 <;> cases p10 <;> cases p3 <;> cases p4 <;> cases p5 <;> cases p6 <;> cases p7 <;> cases p8 <;> cases p9 <;> simp [Bool.or_comm]
  | true =>
   have e3 : r.le = s.le := by rw [hli] at e3; simpa using e3
   rw [e3]
   simp only [if_true, Bool.not_true, Bool.false_or, Bool.true_and, Bool.false_and, Bool.or_false]
   generalize ((i.x.length : Int) != (s.x.length : Int)) = p1
   generalize (((i.l.length : Int) != i.b) || decide (i.b < s.le) || decide (60 < i.b)) = p2
   generalize (r.w == 0) = p3
   generalize (r.a == 0) = p4
   generalize (i.a != 0) = p5
   generalize (r.b == 0) = p6
   generalize (i.b != 0) = p7
   generalize (r.c == 0) = p8
   generalize (i.c != 0) = p9
   rw [show (r.c != 7) = !(r.c == 7) from rfl]
   generalize (r.c == 7) = p10
   cases p1 <;> cases p2 <;> cases p10 <;> cases p3 <;> cases p4 <;> cases p5 <;> cases p6 <;> cases p7 <;> cases p8 <;> cases p9 <;> simp [Bool.or_comm]
theorem chL_nil : chL [] = [] := rfl
theorem chL_short {l : List Int} (h : 1 ≤ l.length) (h4 : l.length ≤ 4) : chL l = [l] := by
 unfold chL
 have : (l.length + 3) / 4 = 1 := by omega
 rw [this]
 show [(l.drop 0).take 4] = [l]
 rw [List.drop_zero, List.take_of_length_le h4]
theorem chL_cons {a b c d : Int} {r : List Int} : chL (a :: b :: c :: d :: r) = [a, b, c, d] :: chL r := by
 unfold chL
 have : ((a :: b :: c :: d :: r).length + 3) / 4 = (r.length + 3) / 4 + 1 := by simp; omega
 rw [this, List.range_succ_eq_map, List.map_cons, List.map_map]
 refine congr (congrArg List.cons (by simp)) (List.map_congr_left fun j _ => ?_)
 simp only [Function.comp]
 rw [show 4 * (j + 1) = 4 * j + 1 + 1 + 1 + 1 by omega]
 rfl
theorem ch_eq : ∀ (n : Nat) (l : List Int), l.length ≤ n -> (chL l).all cok = l.all byt /\ (chL l).map cw = rcW l := by
 intro n
 induction n with
 | zero =>
  intro l h
  obtain rfl := List.eq_nil_of_length_eq_zero (Nat.le_zero.1 h)
  exact ⟨rfl, rfl⟩
 | succ n ih =>
  intro l h
  have z : byt 0 = true := rfl
  match l, h with
  | [], _ => exact ⟨rfl, rfl⟩
  | [a], _ =>
   rw [chL_short (by simp) (by simp)]
   refine ⟨by simp [cok, pad4, z], ?_⟩
   simp [cw, pad4, packN, rcW]
  | [a, b], _ =>
   rw [chL_short (by simp) (by simp)]
   refine ⟨by simp [cok, pad4, z], ?_⟩
   simp [cw, pad4, packN, rcW]
  | [a, b, c], _ =>
   rw [chL_short (by simp) (by simp)]
   refine ⟨by simp [cok, pad4, z, Bool.and_assoc], ?_⟩
   simp [cw, pad4, packN, rcW]
   omega
  | a :: b :: c :: d :: r, h =>
   obtain ⟨h1, h2⟩ := ih r (by simp at h; omega)
   rw [chL_cons, List.all_cons, List.map_cons, h1, h2]
   refine ⟨by simp [cok, pad4, Bool.and_assoc], ?_⟩
   simp [cw, pad4, packN, rcW]
   omega
theorem words_eq {i : Ins} : rwordsM i = wordsM i := by
 unfold rwordsM wordsM
 rw [formed_eq]
 cases h1 : opIn i.op && formedM i (rowW i.op) with
 | false => rfl
 | true =>
  have hop : opIn i.op = true := by rw [Bool.and_eq_true] at h1; exact h1.1
  have hfl : rflag i = ((rowW i.op).c == 7 && i.c == 1) := by
   have ha := op_alike hop
   unfold alike at ha
   simp only [Bool.and_eq_true, beq_iff_eq] at ha
   unfold rflag
   rw [ha.2]
  obtain ⟨c1, c2⟩ := ch_eq i.l.length i.l (Nat.le_refl _)
  rw [c1, c2, hfl]
  unfold xsOf
  cases h2 : byt i.op && byt i.a && byt i.b && byt i.c with
  | false => rfl
  | true =>
   cases h3 : ((rowW i.op).c == 7 && i.c == 1) with
   | false =>
    cases h4 : i.l.all byt <;> cases h5 : i.x.all wok <;> simp [h5]
   | true =>
    cases h4 : i.l.all byt <;> cases h5 : i.x.all wok <;> cases h6 : wok i.ra <;> simp [h5, h6]
end Go.Proofs.YtfdipcpmfoidoaaDoor

/- take. -/
namespace Go.Proofs.YtfdipcpmfoidoaaDoor
open Go Go.Aw
set_option linter.unusedSimpArgs false
set_option linter.unusedVariables false
set_option maxRecDepth 100000
set_option maxHeartbeats 40000000
def insL (o1 o2 : Nat) (i : Ins) : List AV := [.int .i64 i.at_, .int .i64 i.op, .int .i64 i.a, .int .i64 i.b, .int .i64 i.c, .sl o1 0 i.x.length, .int .i64 i.ra, .sl o2 0 i.l.length, .int .i64 i.n]
def tkH (b : Nat) (ok : Bool) (rest : List Int) (i : Ins) : HL := [(b, ⟨true, 1, [.ro 1 (rest.map (.int .u32))]⟩), (b + 1, ⟨true, 1, [.bool ok]⟩), (b + 2, ⟨true, 9, [.agg (insL (b + 3) (b + 4) i)]⟩), (b + 3, iR i.x), (b + 4, iR i.l)]
theorem take_none {ok : Bool} {i : Ins} : E.F 38 [.ptr 100000 0 0, .ptr 100001 0 0, .ptr 100002 0 0] (tkH 100000 ok [] i) = some ((.int .u32 0, tkH 100000 false [] i), True) := by
 simp only [tkH, insL, iR]
 rw [e38]
 simp (maxSteps := 100000000) only [ivc, rgb, anf, vlen, vbuiltin, nilR, eq_self, Nat.reduceEqDiff, Nat.reduceLT, Nat.reduceLeDiff, Nat.reduceAdd, Nat.reduceBEq, reduceCtorEq, ↓reduceIte, tyb]
theorem take_some {ok : Bool} {i : Ins} {u : Int} {us : List Int} (hn : 0 ≤ i.n /\ i.n ≤ 100000) (hl : us.length ≤ 100000) : E.F 38 [.ptr 100000 0 0, .ptr 100001 0 0, .ptr 100002 0 0] (tkH 100000 ok (u :: us) i) = some ((.int .u32 u, tkH 100000 ok us { i with n := i.n + 1 }), True) := by
 have hw : IntKind.i64.wrap (i.n + 1) = i.n + 1 := wrap_id (by omega) (by omega)
 have hq : ((us.length : Int) + 1 == 0) = false := beq_eq_false_iff_ne.2 (by omega)
 simp only [tkH, insL, iR]
 rw [e38]
 simp (maxSteps := 100000000) only [ivc, rgb, anf, vop, vslice, vlen, vbuiltin, nilR, eq_self, Nat.reduceEqDiff, Nat.reduceLT, Nat.reduceLeDiff, Nat.reduceAdd, Nat.reduceBEq, Int.reduceLE, Int.reduceToNat, reduceCtorEq, implies_true, ↓reduceIte, tyb, hw, hq]
 rw [List.take_of_length_le (by simp)]
 exact some_true (by omega)
def tkI (i : Ins) (rest : List Int) : Ins := { i with n := i.n + (if rest.isEmpty = true then 0 else 1) }
theorem take_ev {ok : Bool} {rest : List Int} {i : Ins} (hn : 0 ≤ i.n /\ i.n ≤ 100000) (hl : rest.length ≤ 100000) : E.F 38 [.ptr 100000 0 0, .ptr 100001 0 0, .ptr 100002 0 0] (tkH 100000 ok rest i) = some ((.int .u32 (rest.headD 0), tkH 100000 (ok && !rest.isEmpty) rest.tail (tkI i rest)), True) := by
 cases rest with
 | nil =>
  rw [take_none]
  simp [tkI]
 | cons u us =>
  simp only [List.length_cons] at hl
  rw [take_some hn (by omega)]
  simp [tkI]
def rdH (r : OpRow) (ok : Bool) (rest : List Int) (i : Ins) : HL := [(60000, ⟨true, 9, [.agg [.int .i64 0, .int .i64 0, .int .i64 0, .int .i64 0, .int .i64 0, .nilsl, .int .i64 0, .nilsl, .int .i64 0]]⟩), (60001, ⟨true, 9, [.agg (insL 60005 60006 i)]⟩), (60002, ⟨true, 9, [.agg (rowA r)]⟩), (60003, ⟨true, 1, [.bool ok]⟩), (60004, ⟨true, 1, [.ro 1 (rest.map (.int .u32))]⟩), (60005, iR i.x), (60006, iR i.l)]
def rdV (ws : List Int) (n : Int) (t : List AV) : List AV := [.ro 1 (ws.map (.int .u32)), .int .i64 n, .ptr 60000 0 0, .ptr 60001 0 0, .ptr 60002 0 0, .ptr 60003 0 0, .fn (.func 38) [] [.ptr 60004 0 0, .ptr 60003 0 0, .ptr 60001 0 0]] ++ t
def idxS : Nat -> Bool -> List Int -> Ins -> Bool × List Int × Ins
 | 0, ok, rest, i => (ok, rest, i)
 | k + 1, ok, rest, i => idxS k (ok && !rest.isEmpty) rest.tail { tkI i rest with x := i.x ++ [rest.headD 0] }
def u32r (n : Int) : Prop := 0 ≤ n /\ n < 4294967296
theorem u32r_head {l : List Int} (h : ∀ x ∈ l, u32r x) : u32r (l.headD 0) := by
 cases l with
 | nil => exact ⟨by simp, by simp⟩
 | cons a l => exact h a (by simp)
theorem u32r_tail {l : List Int} (h : ∀ x ∈ l, u32r x) : ∀ x ∈ l.tail, u32r x := fun x hx => h x (List.mem_of_mem_tail hx)
theorem rd_idx {ws : List Int} {n : Int} {r : OpRow} (X : Nat) (hX : X ≤ 1000) : ∀ (k j : Nat) (ok : Bool) (rest : List Int) (i : Ins), j + k = X -> (∀ x ∈ rest, u32r x) -> rest.length ≤ 100000 -> 0 ≤ i.n -> i.n ≤ 1000 + j -> i.x.length ≤ 1000 + j ->
  E.L 9 12 (rdV ws n [.int .i64 X, .int .i64 j]) (rdH r ok rest i) = some ((.exit 0, rdV ws n [.int .i64 X, .int .i64 X], rdH r (idxS k ok rest i).1 (idxS k ok rest i).2.1 (idxS k ok rest i).2.2), True) := by
 intro k
 induction k with
 | zero =>
  intro j ok rest i hj hr hrl hn0 hn hx
  obtain rfl : j = X := by omega
  have q : ((j : Int) < j) = False := eq_false (by omega)
  simp only [rdV, rdH, idxS, insL, rowA]
  rw [l9_12]
  simp (maxSteps := 100000000) only [ivc, rgb, anf, nilR, eq_self, Nat.reduceEqDiff, Nat.reduceLT, Nat.reduceLeDiff, Nat.reduceAdd, Nat.reduceBEq, reduceCtorEq, ↓reduceIte, tyb, iR, q]
 | succ k ih =>
  intro j ok rest i hj hr hrl hn0 hn hx
  have hi' : ((j : Int) < X) = True := eq_true (by omega)
  have hw1 : IntKind.i64.wrap ((j : Int) + 1) = j + 1 := wrap_id (by omega) (by omega)
  have hu := u32r_head hr
  have hw2 : IntKind.i64.wrap (rest.headD 0) = rest.headD 0 := wrap_id (by have := hu.1; omega) (by have := hu.2; omega)
  have tk := take_ev (ok := ok) (rest := rest) (i := i) ⟨hn0, by omega⟩ hrl
  have ih' := ih (j + 1) (ok && !rest.isEmpty) rest.tail { tkI i rest with x := i.x ++ [rest.headD 0] } (by omega) (u32r_tail hr) (by simp; omega) (by simp [tkI]; split <;> omega) (by simp [tkI]; split <;> omega) (by simp; omega)
  simp only [idxS]
  simp only [tkH, insL, iR, Nat.reduceAdd, tkI] at tk
  simp only [tkI, rdV, rdH, insL, rowA, iR, List.cons_append, List.nil_append, Int.natCast_add, Int.cast_ofNat_Int, List.length_append, List.length_cons, List.length_nil, Nat.zero_add, List.map_append, List.map_cons, List.map_nil] at ih' ⊢
  rw [l9_12]
  simp (maxSteps := 100000000) only [ivc, rgb, anf, vop, nilR, salloc, sappend, eq_self, Nat.reduceEqDiff, Nat.reduceLT, Nat.reduceLeDiff, Nat.reduceAdd, Nat.reduceMul, Nat.reduceSub, Nat.reduceBEq, reduceCtorEq, ↓reduceIte, tyb, hi', hw1, hw2, tk, ih']
  exact some_true (by omega)
def unp (w : Int) : List Int := [w % 256, w / 256 % 256, w / 65536 % 256, w / 16777216]
def lstS : Nat -> Nat -> Bool -> List Int -> Ins -> Bool × List Int × Ins
 | 0, _, ok, rest, i => (ok, rest, i)
 | f + 1, c, ok, rest, i => lstS f (c - 4) (ok && !rest.isEmpty) rest.tail { tkI i rest with l := i.l ++ (unp (rest.headD 0)).take c }
theorem rd_no {ws : List Int} {n k : Int} {r : OpRow} (hli : r.li = false) {ok : Bool} {rest : List Int} {i : Ins} : E.L 9 18 (rdV ws n [.int .i64 k]) (rdH r ok rest i) = some ((.exit 2, rdV ws n [.int .i64 k], rdH r ok rest i), True) := by
 simp only [rdV, rdH, insL, rowA, hli]
 rw [l9_18]
 simp (maxSteps := 100000000) only [ivc, rgb, anf, vop, nilR, eq_self, Nat.reduceEqDiff, Nat.reduceLT, Nat.reduceLeDiff, Nat.reduceAdd, Nat.reduceBEq, reduceCtorEq, ↓reduceIte, tyb, iR]
theorem rd_lst {ws : List Int} {n : Int} {r : OpRow} (hli : r.li = true) : ∀ (m c : Nat) (k : Int) (ok : Bool) (rest : List Int) (i : Ins), (c + 3) / 4 = m -> (0 < c -> k + c = i.b) -> (c = 0 -> i.b ≤ k) -> 0 ≤ k -> k ≤ 4000 -> i.b ≤ 1000 -> (∀ x ∈ rest, u32r x) -> rest.length ≤ 100000 -> 0 ≤ i.n -> i.n ≤ 5000 + k -> i.l.length + c ≤ 5000 -> i.x.length ≤ 5000 ->
  E.L 9 18 (rdV ws n [.int .i64 k]) (rdH r ok rest i) = some ((.exit 2, rdV ws n [.int .i64 (k + 4 * m)], rdH r (lstS m c ok rest i).1 (lstS m c ok rest i).2.1 (lstS m c ok rest i).2.2), True) := by
 intro m
 induction m with
 | zero =>
  intro c k ok rest i hm hc h0 hk0 hk hb hr hrl hn0 hn hl hx
  have hc0 : c = 0 := by omega
  have h1 := h0 hc0
  have q : (k < i.b) = False := eq_false (by omega)
  simp only [rdV, rdH, lstS, insL, rowA, hli, Int.natCast_zero, Int.mul_zero, Int.add_zero]
  rw [l9_18]
  simp (maxSteps := 100000000) only [ivc, rgb, anf, vop, nilR, eq_self, Nat.reduceEqDiff, Nat.reduceLT, Nat.reduceLeDiff, Nat.reduceAdd, Nat.reduceBEq, reduceCtorEq, ↓reduceIte, tyb, iR, q]
 | succ m ih =>
  intro c k ok rest i hm hc h0 hk0 hk hb hr hrl hn0 hn hl hx
  have hcp : 0 < c := by omega
  have hkc := hc hcp
  have hi' : (k < i.b) = True := eq_true (by omega)
  have hw1 : IntKind.i64.wrap (k + 4) = k + 4 := wrap_id (by omega) (by omega)
  have hw2 : IntKind.i64.wrap (i.b - k) = c := by rw [wrap_id (by omega) (by omega)]; omega
  have hu := u32r_head hr
  have tk := take_ev (ok := ok) (rest := rest) (i := i) ⟨hn0, by omega⟩ hrl
  have up := unpack_ev hu.1 hu.2
  have ih' := ih (c - 4) (k + 4) (ok && !rest.isEmpty) rest.tail { tkI i rest with l := i.l ++ (unp (rest.headD 0)).take c } (by omega) (by simp only [tkI]; omega) (by simp only [tkI]; omega) (by omega) (by omega) (by simp only [tkI]; omega) (u32r_tail hr) (by simp; omega) (by simp only [tkI]; split <;> omega) (by simp only [tkI]; split <;> omega) (by simp [unp]; omega) (by simp only [tkI]; omega)
  have e1 : k + 4 * ((m + 1 : Nat) : Int) = k + 4 + 4 * (m : Int) := by omega
  rw [e1]
  simp only [lstS]
  simp only [tkH, insL, iR, Nat.reduceAdd, tkI] at tk
  generalize hz : rest.headD 0 = z at *
  clear hr hc h0 ih
  match c, hcp, hw2, ih' with
  | 1, _, hw2, ih' =>
   have hw2 : IntKind.i64.wrap (i.b - k) = 1 := hw2
   simp only [tkI, unp, rdV, rdH, insL, rowA, iR, hli, List.cons_append, List.nil_append, List.take_succ_cons, List.take_zero, List.length_append, List.length_cons, List.length_nil, Nat.zero_add, List.map_append, List.map_cons, List.map_nil] at ih' ⊢
   rw [l9_18]
   simp (maxSteps := 100000000) only [ivc, rgb, anf, vop, vslice, vbuiltin, nilR, salloc, sappend, eq_self, Nat.reduceEqDiff, Nat.reduceLT, Nat.reduceLeDiff, Nat.reduceAdd, Nat.reduceMul, Nat.reduceSub, Nat.reduceBEq, Int.reduceLT, Int.reduceLE, Int.reduceToNat, reduceCtorEq, ↓reduceIte, tyb, hi', hw1, hw2, tk, up, ih']
   exact some_true (by omega)
  | 2, _, hw2, ih' =>
   have hw2 : IntKind.i64.wrap (i.b - k) = 2 := hw2
   simp only [tkI, unp, rdV, rdH, insL, rowA, iR, hli, List.cons_append, List.nil_append, List.take_succ_cons, List.take_zero, List.length_append, List.length_cons, List.length_nil, Nat.zero_add, Nat.reduceAdd, List.map_append, List.map_cons, List.map_nil] at ih' ⊢
   rw [l9_18]
   simp (maxSteps := 100000000) only [ivc, rgb, anf, vop, vslice, vbuiltin, nilR, salloc, sappend, eq_self, Nat.reduceEqDiff, Nat.reduceLT, Nat.reduceLeDiff, Nat.reduceAdd, Nat.reduceMul, Nat.reduceSub, Nat.reduceBEq, Int.reduceLT, Int.reduceLE, Int.reduceToNat, reduceCtorEq, ↓reduceIte, tyb, hi', hw1, hw2, tk, up, ih']
   exact some_true (by omega)
  | 3, _, hw2, ih' =>
   have hw2 : IntKind.i64.wrap (i.b - k) = 3 := hw2
   simp only [tkI, unp, rdV, rdH, insL, rowA, iR, hli, List.cons_append, List.nil_append, List.take_succ_cons, List.take_zero, List.length_append, List.length_cons, List.length_nil, Nat.zero_add, Nat.reduceAdd, List.map_append, List.map_cons, List.map_nil] at ih' ⊢
   rw [l9_18]
   simp (maxSteps := 100000000) only [ivc, rgb, anf, vop, vslice, vbuiltin, nilR, salloc, sappend, eq_self, Nat.reduceEqDiff, Nat.reduceLT, Nat.reduceLeDiff, Nat.reduceAdd, Nat.reduceMul, Nat.reduceSub, Nat.reduceBEq, Int.reduceLT, Int.reduceLE, Int.reduceToNat, reduceCtorEq, ↓reduceIte, tyb, hi', hw1, hw2, tk, up, ih']
   exact some_true (by omega)
  | c + 4, _, hw2, ih' =>
   have h4 : ((c : Int) + 4 < 4) = False := eq_false (by omega)
   simp only [Int.natCast_add, Int.cast_ofNat_Int] at hw2
   have ec : c + 4 - 4 = c := by omega
   rw [ec] at ih' ⊢
   have et : List.take (c + 4) (unp z) = unp z := List.take_of_length_le (by simp [unp])
   rw [et] at ih' ⊢
   simp only [tkI, unp, rdV, rdH, insL, rowA, iR, hli, List.cons_append, List.nil_append, List.length_append, List.length_cons, List.length_nil, Nat.zero_add, Nat.reduceAdd, List.map_append, List.map_cons, List.map_nil] at ih' ⊢
   rw [l9_18]
   simp (maxSteps := 100000000) only [ivc, rgb, anf, vop, vslice, vbuiltin, nilR, salloc, sappend, eq_self, Nat.reduceEqDiff, Nat.reduceLT, Nat.reduceLeDiff, Nat.reduceAdd, Nat.reduceMul, Nat.reduceSub, Nat.reduceBEq, Int.reduceLE, Int.reduceToNat, reduceCtorEq, ↓reduceIte, tyb, hi', hw1, hw2, tk, up, h4, ih']
   exact some_true (by omega)
theorem eq32_loop {a b : List Int} (hl : a.length = b.length) (hs : a.length ≤ 1000000) : ∀ (r r' m m' : List Int), a = m ++ r -> b = m' ++ r' -> m.length = m'.length ->
  ∃ k, E.L 11 5 [.ro 1 (a.map (.int .u32)), .ro 1 (b.map (.int .u32)), .bool false, .int .i64 a.length, .int .i64 m.length] [] = some ((if r = r' then .exit 0 else .ret, [.ro 1 (a.map (.int .u32)), .ro 1 (b.map (.int .u32)), .bool false, .int .i64 a.length, .int .i64 k], []), True) := by
 intro r
 induction r with
 | nil =>
  intro r' m m' h h' hm
  have q : ((m.length : Int) < a.length) = False := eq_false (by rw [h]; simp)
  have : r' = [] := by
   have := congrArg List.length h'; rw [h] at hl; simp at hl this; exact List.eq_nil_of_length_eq_zero (by omega)
  subst this
  refine ⟨m.length, ?_⟩
  rw [l11_5]
  simp (maxSteps := 100000000) only [ivc, rgb, anf, nilR, eq_self, Nat.reduceEqDiff, Nat.reduceLT, Nat.reduceAdd, Nat.reduceBEq, reduceCtorEq, ↓reduceIte, tyb, q]
 | cons y r ih => 
  intro r' m m' h h' hm
  have hp : 0 < r'.length := by
   have := congrArg List.length h'; rw [h] at hl; simp at hl this; omega
  obtain ⟨z, r', rfl⟩ := List.exists_cons_of_length_pos hp
  have hi' : ((m.length : Int) < a.length) = True := eq_true (by rw [h]; simp; omega)
  have hib : ((m.length : Int) < b.length) = True := eq_true (by rw [<- hl]; exact of_eq_true hi')
  have hw1 : IntKind.i64.wrap ((m.length : Int) + 1) = m.length + 1 := wrap_id (by omega) (by rw [h] at hs; simp at hs; omega)
  have hg := getD_map (f := AV.int .u32) (show a[m.length]? = some y by rw [h]; simp)
  have hg' := getD_map (f := AV.int .u32) (show b[m.length]? = some z by rw [h', hm]; simp)
  by_cases e : y = z
  ·subst e
   obtain ⟨k, ih⟩ := ih r' (m ++ [y]) (m' ++ [y]) (by rw [h]; simp) (by rw [h']; simp) (by simp [hm])
   refine ⟨k, ?_⟩
   simp only [List.length_append, List.length_cons, List.length_nil, Int.natCast_add, Int.cast_ofNat_Int, Nat.zero_add] at ih
   rw [l11_5]
   simp (maxSteps := 100000000) only [ivc, rgb, anf, nilR, eq_self, Nat.reduceEqDiff, Nat.reduceLT, Nat.reduceAdd, Nat.reduceBEq, reduceCtorEq, ↓reduceIte, tyb, hi', hib, hw1, hg, hg', ih]
   simp
  ·refine ⟨m.length, ?_⟩
   have hb : (y != z) = true := by simp [e]
   rw [l11_5]
   simp (maxSteps := 100000000) only [ivc, rgb, anf, nilR, eq_self, Nat.reduceEqDiff, Nat.reduceLT, Nat.reduceAdd, Nat.reduceBEq, reduceCtorEq, ↓reduceIte, tyb, hi', hib, hg, hg', hb]
   simp [e]
theorem eq32_ev {a b : List Int} (hs : a.length ≤ 1000000) : E.F 11 [.ro 1 (a.map (.int .u32)), .ro 1 (b.map (.int .u32))] [] = some ((.bool (decide (a = b)), []), True) := by
 by_cases hl : a.length = b.length
 ·obtain ⟨k, L⟩ := eq32_loop hl hs a b [] [] rfl rfl rfl
  have hl' : ((a.length : Int) != b.length) = false := by simp [hl]
  simp only [List.length_nil, Int.natCast_zero] at L
  rw [e11]
  by_cases e : a = b
  ·simp only [e, if_true] at L
   simp (maxSteps := 100000000) only [ivc, rgb, anf, vlen, vbuiltin, nilR, eq_self, Nat.reduceEqDiff, Nat.reduceLT, Nat.reduceLeDiff, Nat.reduceAdd, Nat.reduceBEq, reduceCtorEq, ↓reduceIte, tyb, L, e]
  ·simp only [e, if_false] at L
   simp (maxSteps := 100000000) only [ivc, rgb, anf, vlen, vbuiltin, nilR, eq_self, Nat.reduceEqDiff, Nat.reduceLT, Nat.reduceLeDiff, Nat.reduceAdd, Nat.reduceBEq, reduceCtorEq, ↓reduceIte, tyb, L, hl', e]
 ·have hl' : ((a.length : Int) != b.length) = true := by simp; omega
  have e : a ≠ b := fun h => hl (by rw [h])
  rw [e11]
  simp (maxSteps := 100000000) only [ivc, rgb, anf, vlen, vbuiltin, nilR, eq_self, Nat.reduceEqDiff, Nat.reduceLT, Nat.reduceLeDiff, Nat.reduceAdd, Nat.reduceBEq, reduceCtorEq, ↓reduceIte, tyb, hl', e]
abbrev RS := Bool × List Int × Ins
structure Kept (k : Nat) (s t : RS) : Prop where
 rest : t.2.1 = s.2.1.drop k
 sum : t.2.2.n + t.2.1.length = s.2.2.n + s.2.1.length
 lo : s.2.2.n ≤ t.2.2.n
 hi : t.2.2.n ≤ s.2.2.n + k
 a : t.2.2.a = s.2.2.a
 b : t.2.2.b = s.2.2.b
 c : t.2.2.c = s.2.2.c
 op : t.2.2.op = s.2.2.op
 at_ : t.2.2.at_ = s.2.2.at_
theorem Kept.refl (s : RS) : Kept 0 s s := ⟨by simp, rfl, by omega, by omega, rfl, rfl, rfl, rfl, rfl⟩
theorem Kept.trans {j k : Nat} {s t u : RS} (h : Kept j s t) (g : Kept k t u) : Kept (j + k) s u :=
 ⟨by rw [g.rest, h.rest, List.drop_drop], by rw [g.sum, h.sum], by have := h.lo; have := g.lo; omega, by have := h.hi; have := g.hi; omega, by rw [g.a, h.a], by rw [g.b, h.b], by rw [g.c, h.c], by rw [g.op, h.op], by rw [g.at_, h.at_]⟩
theorem kept_tk (ok ok' : Bool) (rest : List Int) (i j : Ins) (h : j.n = (tkI i rest).n) (ha : j.a = i.a) (hb : j.b = i.b) (hc : j.c = i.c) (ho : j.op = i.op) (ht : j.at_ = i.at_) : Kept 1 (ok, rest, i) (ok', rest.tail, j) := by
 refine ⟨by simp, ?_, ?_, ?_, ha, hb, hc, ho, ht⟩ <;> simp only [h, tkI] <;> cases rest <;> simp <;> omega
theorem idxS_kept : ∀ (k : Nat) (ok : Bool) (rest : List Int) (i : Ins), Kept k (ok, rest, i) (idxS k ok rest i) /\ (idxS k ok rest i).2.2.x.length = i.x.length + k /\ (idxS k ok rest i).2.2.l = i.l /\ (idxS k ok rest i).2.2.ra = i.ra
 | 0, ok, rest, i => ⟨Kept.refl _, rfl, rfl, rfl⟩
 | k + 1, ok, rest, i => by
  obtain ⟨h, hx, hl, hr⟩ := idxS_kept k (ok && !rest.isEmpty) rest.tail { tkI i rest with x := i.x ++ [rest.headD 0] }
  refine ⟨?_, ?_, hl, hr⟩
  ·have := (kept_tk ok (ok && !rest.isEmpty) rest i { tkI i rest with x := i.x ++ [rest.headD 0] } rfl rfl rfl rfl rfl rfl).trans h
   rw [Nat.add_comm 1 k] at this
   exact this
  ·simp only [idxS]; rw [hx]; simp; omega
theorem lstS_kept : ∀ (m c : Nat) (ok : Bool) (rest : List Int) (i : Ins), (c + 3) / 4 = m -> Kept m (ok, rest, i) (lstS m c ok rest i) /\ (lstS m c ok rest i).2.2.l.length = i.l.length + c /\ (lstS m c ok rest i).2.2.x = i.x /\ (lstS m c ok rest i).2.2.ra = i.ra
 | 0, c, ok, rest, i, h => ⟨Kept.refl _, by simp only [lstS]; omega, rfl, rfl⟩
 | m + 1, c, ok, rest, i, h0 => by
  obtain ⟨h, hx, hl, hr⟩ := lstS_kept m (c - 4) (ok && !rest.isEmpty) rest.tail { tkI i rest with l := i.l ++ (unp (rest.headD 0)).take c } (by omega)
  refine ⟨?_, ?_, hl, hr⟩
  ·have := (kept_tk ok (ok && !rest.isEmpty) rest i { tkI i rest with l := i.l ++ (unp (rest.headD 0)).take c } rfl rfl rfl rfl rfl rfl).trans h
   rw [Nat.add_comm 1 m] at this
   exact this
  ·simp only [lstS]; rw [hx]; simp [unp]; omega
def insZ : Ins := ⟨0, 0, 0, 0, 0, [], 0, [], 0⟩
def rdI (n w : Int) : Ins := ⟨n, w % 256, w / 256 % 256, w / 65536 % 256, w / 16777216, [], -1, [], 1⟩
def rd1 (ws : List Int) (n : Int) : RS := idxS (rowW (ws.getD n.toNat 0 % 256)).x.length true (ws.drop (n.toNat + 1)) (rdI n (ws.getD n.toNat 0))
def rd2 (r : OpRow) (s : RS) : RS := if (r.c == 7 && s.2.2.c == 1) = true then (s.1 && !s.2.1.isEmpty, s.2.1.tail, { tkI s.2.2 s.2.1 with ra := s.2.1.headD 0 }) else s
def rd3 (r : OpRow) (s : RS) : RS := if r.li = true then lstS ((s.2.2.b.toNat + 3) / 4) s.2.2.b.toNat s.1 s.2.1 s.2.2 else s
def rdS (ws : List Int) (n : Int) : RS := rd3 (rowW (ws.getD n.toNat 0 % 256)) (rd2 (rowW (ws.getD n.toNat 0 % 256)) (rd1 ws n))
def readM (ws : List Int) (n : Int) : Ins × Int :=
 if n < 0 \/ (ws.length : Int) ≤ n then (insZ, 3)
 else if opIn (ws.getD n.toNat 0 % 256) = true then
  if (rdS ws n).1 = true then
   if (wordsM (rdS ws n).2.2).1 = 0 /\ (wordsM (rdS ws n).2.2).2 = (ws.drop n.toNat).take (rdS ws n).2.2.n.toNat then ((rdS ws n).2.2, 0)
   else (insZ, 260)
  else (insZ, 260)
 else (insZ, 260)
def readV (m : Ins × Int) : AV := .tup [.agg (insA m.1), .int .i64 m.2]
theorem read_bad {ws : List Int} {n : Int} (h : n < 0 \/ (ws.length : Int) ≤ n) : E.F 9 [.ro 1 (ws.map (.int .u32)), .int .i64 n] [] = some ((readV (readM ws n), []), True) := by
 rw [e9]
 unfold readM readV
 rw [if_pos h]
 rcases h with h | h
 ·have q : (n < 0) = True := eq_true h
  simp (maxSteps := 100000000) only [ivc, rgb, anf, vop, vlen, vbuiltin, nilR, salloc, eq_self, Nat.reduceEqDiff, Nat.reduceLT, Nat.reduceLeDiff, Nat.reduceAdd, Nat.reduceBEq, Int.reduceNeg, reduceCtorEq, ↓reduceIte, tyb, q, insA, insZ]
 ·by_cases q : n < 0
  ·simp (maxSteps := 100000000) only [ivc, rgb, anf, vop, vlen, vbuiltin, nilR, salloc, eq_self, Nat.reduceEqDiff, Nat.reduceLT, Nat.reduceLeDiff, Nat.reduceAdd, Nat.reduceBEq, Int.reduceNeg, reduceCtorEq, ↓reduceIte, tyb, q, insA, insZ]
  ·have q' : ((ws.length : Int) ≤ n) = True := eq_true h
   simp (maxSteps := 100000000) only [ivc, rgb, anf, vop, vlen, vbuiltin, nilR, salloc, eq_self, Nat.reduceEqDiff, Nat.reduceLT, Nat.reduceLeDiff, Nat.reduceAdd, Nat.reduceBEq, Int.reduceNeg, reduceCtorEq, ↓reduceIte, tyb, q, q', insA, insZ]
theorem rowW_x (n : Int) : (rowW n).x.length ≤ 2 := by
 unfold rowW
 split
 ·rename_i h
  obtain ⟨h1, h2⟩ := opIn_true h
  have : ∀ k, k < 24 -> (rowsT.getD k opZ).x.length ≤ 2 := by decide
  exact this _ (by omega)
 ·simp [opZ]
theorem read_noop {ws : List Int} {n : Int} (h0 : 0 ≤ n) (h1 : n < ws.length) (hs : ws.length ≤ 100000) (hu : ∀ x ∈ ws, u32r x) (hop : opIn (ws.getD n.toNat 0 % 256) = false) : E.F 9 [.ro 1 (ws.map (.int .u32)), .int .i64 n] [] = some ((readV (readM ws n), []), True) := by
 have hg := getD_map (f := AV.int .u32) (show ws[n.toNat]? = some (ws.getD n.toNat 0) by rw [List.getD_eq_getElem?_getD, List.getElem?_eq_getElem (by omega)]; simp)
 have hw : u32r (ws.getD n.toNat 0) := by
  rw [List.getD_eq_getElem?_getD, List.getElem?_eq_getElem (by omega)]
  exact hu _ (List.getElem_mem (by omega))
 have q : (n < 0) = False := eq_false (by omega)
 have q' : ((ws.length : Int) ≤ n) = False := eq_false (by omega)
 have q2 : (n < (ws.length : Int)) = True := eq_true h1
 have q3 : (0 ≤ n) = True := eq_true h0
 have up := unpack_ev hw.1 hw.2
 have ro := row_ev (n := ws.getD n.toNat 0 % 256)
 unfold readM readV
 rw [if_neg (by omega), hop] 
 rw [hop] at ro
 rw [if_neg (by decide)]
 generalize ws.getD n.toNat 0 = w at *
 simp only [rowA] at ro
 rw [e9]
 simp (maxSteps := 100000000) only [ivc, rgb, anf, vop, vlen, vbuiltin, nilR, salloc, eq_self, Nat.reduceEqDiff, Nat.reduceLT, Nat.reduceLeDiff, Nat.reduceAdd, Nat.reduceBEq, Int.reduceNeg, reduceCtorEq, ↓reduceIte, tyb, q, q', q2, q3, hg, up, ro, insA, insZ]
theorem words_len {i : Ins} (hx : i.x.length ≤ 100) (hl : i.l.length ≤ 1000) : (wordsM i).2.length ≤ 1000 := by
 unfold wordsM
 split
 ·split
  ·split
   ·split
    ·simp only [List.length_cons, List.length_append, List.length_map, chL_len, xsOf]
     split <;> simp <;> omega
    ·simp
   ·simp
  ·simp
 ·simp
theorem rd2_kept (r : OpRow) (s : RS) : ∃ k, k ≤ 1 /\ Kept k s (rd2 r s) /\ (rd2 r s).2.2.x = s.2.2.x /\ (rd2 r s).2.2.l = s.2.2.l := by
 obtain ⟨ok, rest, i⟩ := s
 unfold rd2
 split
 ·exact ⟨1, by omega, kept_tk ok _ rest i _ rfl rfl rfl rfl rfl rfl, rfl, rfl⟩
 ·exact ⟨0, by omega, Kept.refl _, rfl, rfl⟩
theorem rd3_kept (r : OpRow) (s : RS) (hl : s.2.2.l = []) (hb : 0 ≤ s.2.2.b /\ s.2.2.b ≤ 255) : ∃ k, k ≤ 100 /\ Kept k s (rd3 r s) /\ (rd3 r s).2.2.x = s.2.2.x /\ (rd3 r s).2.2.l.length ≤ 255 := by
 obtain ⟨ok, rest, i⟩ := s
 unfold rd3
 simp only at hl hb
 split
 ·obtain ⟨h1, h2, h3, h4⟩ := lstS_kept ((i.b.toNat + 3) / 4) i.b.toNat ok rest i rfl
  refine ⟨_, ?_, h1, h3, ?_⟩
  ·omega
  ·simp only; rw [h2, hl]; simp; omega
 ·exact ⟨0, by omega, Kept.refl _, rfl, by simp [hl]⟩
theorem rd3_ev {ws : List Int} {n : Int} {r : OpRow} {s : RS} (hl : s.2.2.l = []) (hb : 0 ≤ s.2.2.b /\ s.2.2.b ≤ 255) (hr : ∀ x ∈ s.2.1, u32r x) (hrl : s.2.1.length ≤ 100000) (hn : 0 ≤ s.2.2.n /\ s.2.2.n ≤ 5000) (hx : s.2.2.x.length ≤ 5000) :
  ∃ k, E.L 9 18 (rdV ws n [.int .i64 0]) (rdH r s.1 s.2.1 s.2.2) = some ((.exit 2, rdV ws n [.int .i64 k], rdH r (rd3 r s).1 (rd3 r s).2.1 (rd3 r s).2.2), True) := by
 unfold rd3
 cases hli : r.li with
 | false => exact ⟨0, rd_no hli⟩
 | true => exact ⟨_, rd_lst hli ((s.2.2.b.toNat + 3) / 4) s.2.2.b.toNat 0 s.1 s.2.1 s.2.2 rfl (by omega) (by omega) (by omega) (by omega) (by omega) hr hrl hn.1 (by omega) (by rw [hl]; simp; omega) hx⟩
theorem read_all {ws : List Int} {n : Int} (h0 : 0 ≤ n) (h1 : n < ws.length) (hs : ws.length ≤ 90000) (hu : ∀ x ∈ ws, u32r x) (hop : opIn (ws.getD n.toNat 0 % 256) = true) : E.F 9 [.ro 1 (ws.map (.int .u32)), .int .i64 n] [] = some ((readV (readM ws n), []), True) := by
 have hg := getD_map (f := AV.int .u32) (show ws[n.toNat]? = some (ws.getD n.toNat 0) by rw [List.getD_eq_getElem?_getD, List.getElem?_eq_getElem (by omega)]; simp)
 have hw : u32r (ws.getD n.toNat 0) := by
  rw [List.getD_eq_getElem?_getD, List.getElem?_eq_getElem (by omega)]
  exact hu _ (List.getElem_mem (by omega))
 have q : (n < 0) = False := eq_false (by omega)
 have q' : ((ws.length : Int) ≤ n) = False := eq_false (by omega)
 have q2 : (n < (ws.length : Int)) = True := eq_true h1
 have q3 : (0 ≤ n) = True := eq_true h0
 have q4 : (0 ≤ n + 1) = True := eq_true (by omega)
 have q5 : (n + 1 ≤ (ws.length : Int)) = True := eq_true (by omega)
 have hw1 : IntKind.i64.wrap (n + 1) = n + 1 := wrap_id (by omega) (by omega)
 have et : (n + 1).toNat = n.toNat + 1 := by omega
 have up := unpack_ev hw.1 hw.2
 have ro := row_ev (n := ws.getD n.toNat 0 % 256)
 have hrx := rowW_x (ws.getD n.toNat 0 % 256)
 have hr0 : ∀ x ∈ ws.drop (n.toNat + 1), u32r x := fun x hx => hu x (List.mem_of_mem_drop hx)
 have hl0 : (ws.drop (n.toNat + 1)).length = ws.length - (n.toNat + 1) := List.length_drop
 have L1 := rd_idx (ws := ws) (n := n) (r := rowW (ws.getD n.toNat 0 % 256)) (rowW (ws.getD n.toNat 0 % 256)).x.length (by omega) (rowW (ws.getD n.toNat 0 % 256)).x.length 0 true (ws.drop (n.toNat + 1)) (rdI n (ws.getD n.toNat 0)) (by omega) hr0 (by omega) (by simp [rdI]) (by simp [rdI]) (by simp [rdI])
 have K1 := idxS_kept (rowW (ws.getD n.toNat 0 % 256)).x.length true (ws.drop (n.toNat + 1)) (rdI n (ws.getD n.toNat 0))
 unfold readM readV
 rw [if_neg (by omega), hop] 
 rw [hop] at ro
 rw [if_pos rfl]
 unfold rdS
 change E.L 9 12 _ _ = some ((_, _, rdH (rowW (ws.getD n.toNat 0 % 256)) (rd1 ws n).1 (rd1 ws n).2.1 (rd1 ws n).2.2), True) at L1
 change Kept _ _ (rd1 ws n) /\ (rd1 ws n).2.2.x.length = _ /\ (rd1 ws n).2.2.l = _ /\ (rd1 ws n).2.2.ra = _ at K1
 generalize rd1 ws n = s1 at *
 generalize rowW (ws.getD n.toNat 0 % 256) = r at *
 generalize ws.getD n.toNat 0 = w at *
 obtain ⟨K1, x1, l1, a1⟩ := K1
 obtain ⟨k2, hk2, K2, x2, l2⟩ := rd2_kept r s1
 have b1 : s1.2.2.b = w / 65536 % 256 := K1.b
 have b2 : (rd2 r s1).2.2.b = w / 65536 % 256 := by rw [K2.b, b1]
 have hl2 : (rd2 r s1).2.2.l = [] := by rw [l2, l1]; rfl
 obtain ⟨k3, hk3, K3, x3, l3⟩ := rd3_kept r (rd2 r s1) hl2 (by rw [b2]; omega)
 have K12 := K1.trans K2
 have K13 := K12.trans K3
 have lo1 := K1.lo
 have hi1 := K1.hi
 have lo2 := K12.lo
 have hi2 := K12.hi
 have lo3 := K13.lo
 have sm := K13.sum
 have hd0 : (rdI n w).n = 1 := rfl
 simp only [hd0, hl0] at lo1 hi1 lo2 hi2 lo3 sm
 have hr1 : ∀ x ∈ s1.2.1, u32r x := by rw [K1.rest]; exact fun x hx => hr0 x (List.mem_of_mem_drop hx)
 have hr2 : ∀ x ∈ (rd2 r s1).2.1, u32r x := by rw [K12.rest]; exact fun x hx => hr0 x (List.mem_of_mem_drop hx)
 have hln1 : s1.2.1.length ≤ 90000 := by rw [K1.rest]; simp; omega
 have hln2 : (rd2 r s1).2.1.length ≤ 90000 := by rw [K12.rest]; simp; omega
 have x0 : (rdI n w).x.length = 0 := rfl
 obtain ⟨k4, L2⟩ := rd3_ev (ws := ws) (n := n) (r := r) (s := rd2 r s1) hl2 (by rw [b2]; omega) hr2 (by omega) (by omega) (by rw [x2]; omega)
 have W := words_ev (i := (rd3 r (rd2 r s1)).2.2) (by rw [x3, x2]; omega) (by omega)
 have Wl := words_len (i := (rd3 r (rd2 r s1)).2.2) (by rw [x3, x2]; omega) (by omega)
 have tk := take_ev (ok := s1.1) (rest := s1.2.1) (i := s1.2.2) (by omega) (by omega)
 have hu2 := u32r_head hr1
 have hw2 : IntKind.i64.wrap (s1.2.1.headD 0) = s1.2.1.headD 0 := wrap_id (by have := hu2.1; omega) (by have := hu2.2; omega)
 have z3 : 1 ≤ (rd3 r (rd2 r s1)).2.2.n /\ n + (rd3 r (rd2 r s1)).2.2.n ≤ ws.length := by
  refine ⟨lo3, ?_⟩
  omega
 clear K1 K2 K3 K12 K13 sm lo1 hi1 lo2 hi2 lo3 hr1 hr2 hr0 hu
 have e0 : List.take (ws.length - (n.toNat + 1)) (List.drop (n.toNat + 1) (List.map (AV.int .u32) ws)) = List.map (AV.int .u32) (ws.drop (n.toNat + 1)) := by
  rw [List.take_of_length_le (by simp), List.map_drop]
 cases hcc : (r.c == 7 && s1.2.2.c == 1) with
 | false =>
  have r2 : rd2 r s1 = s1 := by unfold rd2; rw [hcc]; rfl
  rw [r2] at L2 W Wl z3 ⊢
  generalize rd3 r s1 = s3 at *
  obtain ⟨ok1, rest1, i1⟩ := s1
  obtain ⟨ok3, rest3, i3⟩ := s3
  simp only [rowA] at ro
  simp only [rdV, rdH, insL, iR, rowA, rdI, Int.natCast_zero, List.length_nil, List.map_nil, List.cons_append, List.nil_append] at L1 L2 hcc
  rw [e9]
  cases ok3 with
  | false =>
   simp (maxSteps := 100000000) only [ivc, rgb, anf, vop, vslice, vlen, vbuiltin, nilR, salloc, eq_self, Nat.reduceEqDiff, Nat.reduceLT, Nat.reduceLeDiff, Nat.reduceAdd, Nat.reduceBEq, Int.reduceNeg, reduceCtorEq, implies_true, ↓reduceIte, tyb, q, q', q2, q3, q4, q5, hw1, et, hg, up, ro, e0, L1, hcc, L2, insZ, insA]
   exact some_true (by omega)
  | true =>
   generalize wordsM i3 = m at W Wl ⊢
   obtain ⟨e, wl⟩ := m
   simp only [wordsV, insA] at W
   simp only at Wl z3
   by_cases he : e = 0
   ·subst he
    have hwn : IntKind.i64.wrap (n + i3.n) = n + i3.n := wrap_id (by omega) (by omega)
    have z4 : n ≤ n + i3.n := by omega
    have e6 : List.take ((n + i3.n).toNat - n.toNat) (List.drop n.toNat (List.map (AV.int .u32) ws)) = List.map (AV.int .u32) ((ws.drop n.toNat).take i3.n.toNat) := by
     rw [List.map_take, List.map_drop, show (n + i3.n).toNat - n.toNat = i3.n.toNat by omega]
    have EQ := eq32_ev (a := wl) (b := (ws.drop n.toNat).take i3.n.toNat) (by omega)
    by_cases hq : wl = (ws.drop n.toNat).take i3.n.toNat
    ·rw [decide_eq_true hq] at EQ
     have hq' := eq_true hq
     simp (maxSteps := 100000000) only [ivc, rgb, anf, vop, vslice, vlen, vbuiltin, nilR, salloc, eq_self, Nat.reduceEqDiff, Nat.reduceLT, Nat.reduceLeDiff, Nat.reduceAdd, Nat.reduceMul, Nat.reduceBEq, Int.reduceNeg, reduceCtorEq, implies_true, ↓reduceIte, tyb, q, q', q2, q3, q4, q5, hw1, et, hg, up, ro, e0, L1, hcc, L2, insA, W, hwn, z4, z3, e6, EQ, hq']
     exact some_true (by omega)
    ·rw [decide_eq_false hq] at EQ
     simp (maxSteps := 100000000) only [ivc, rgb, anf, vop, vslice, vlen, vbuiltin, nilR, salloc, eq_self, Nat.reduceEqDiff, Nat.reduceLT, Nat.reduceLeDiff, Nat.reduceAdd, Nat.reduceMul, Nat.reduceBEq, Int.reduceNeg, reduceCtorEq, implies_true, ↓reduceIte, tyb, q, q', q2, q3, q4, q5, hw1, et, hg, up, ro, e0, L1, hcc, L2, insZ, insA, W, hwn, z4, z3, e6, EQ, hq, and_false]
     exact some_true (by omega)
   ·have he' : (e != 0) = true := by simp [he]
    simp (maxSteps := 100000000) only [ivc, rgb, anf, vop, vslice, vlen, vbuiltin, nilR, salloc, eq_self, Nat.reduceEqDiff, Nat.reduceLT, Nat.reduceLeDiff, Nat.reduceAdd, Nat.reduceBEq, Int.reduceNeg, reduceCtorEq, implies_true, ↓reduceIte, tyb, q, q', q2, q3, q4, q5, hw1, et, hg, up, ro, e0, L1, hcc, L2, insZ, insA, W, he, he']
    exact some_true (by omega)
 | true =>
  have r2 : rd2 r s1 = (s1.1 && !s1.2.1.isEmpty, s1.2.1.tail, { tkI s1.2.2 s1.2.1 with ra := s1.2.1.headD 0 }) := by unfold rd2; rw [hcc]; rfl
  rw [r2] at L2 W Wl z3 ⊢
  generalize rd3 r (s1.1 && !s1.2.1.isEmpty, s1.2.1.tail, { tkI s1.2.2 s1.2.1 with ra := s1.2.1.headD 0 }) = s3 at *
  obtain ⟨ok1, rest1, i1⟩ := s1
  obtain ⟨ok3, rest3, i3⟩ := s3
  simp only [rowA] at ro
  simp only [rdV, rdH, insL, iR, rowA, rdI, Int.natCast_zero, List.length_nil, List.map_nil, List.cons_append, List.nil_append] at L1 L2 hcc
  simp only [tkH, insL, iR, Nat.reduceAdd] at tk
  rw [e9]
  cases ok3 with
  | false =>
   simp (maxSteps := 100000000) only [ivc, rgb, anf, vop, vslice, vlen, vbuiltin, nilR, salloc, eq_self, Nat.reduceEqDiff, Nat.reduceLT, Nat.reduceLeDiff, Nat.reduceAdd, Nat.reduceMul, Nat.reduceBEq, Int.reduceNeg, reduceCtorEq, implies_true, ↓reduceIte, tyb, q, q', q2, q3, q4, q5, hw1, et, hg, up, ro, e0, L1, hcc, L2, tk, hw2, insZ, insA]
   exact some_true (by omega)
  | true =>
   generalize wordsM i3 = m at W Wl ⊢
   obtain ⟨e, wl⟩ := m
   simp only [wordsV, insA] at W
   simp only at Wl z3
   by_cases he : e = 0
   ·subst he
    have hwn : IntKind.i64.wrap (n + i3.n) = n + i3.n := wrap_id (by omega) (by omega)
    have z4 : n ≤ n + i3.n := by omega
    have e6 : List.take ((n + i3.n).toNat - n.toNat) (List.drop n.toNat (List.map (AV.int .u32) ws)) = List.map (AV.int .u32) ((ws.drop n.toNat).take i3.n.toNat) := by
     rw [List.map_take, List.map_drop, show (n + i3.n).toNat - n.toNat = i3.n.toNat by omega]
    have EQ := eq32_ev (a := wl) (b := (ws.drop n.toNat).take i3.n.toNat) (by omega)
    by_cases hq : wl = (ws.drop n.toNat).take i3.n.toNat
    ·rw [decide_eq_true hq] at EQ
     have hq' := eq_true hq
     simp (maxSteps := 100000000) only [ivc, rgb, anf, vop, vslice, vlen, vbuiltin, nilR, salloc, eq_self, Nat.reduceEqDiff, Nat.reduceLT, Nat.reduceLeDiff, Nat.reduceAdd, Nat.reduceMul, Nat.reduceBEq, Int.reduceNeg, reduceCtorEq, implies_true, ↓reduceIte, tyb, q, q', q2, q3, q4, q5, hw1, et, hg, up, ro, e0, L1, hcc, L2, tk, hw2, insA, W, hwn, z4, z3, e6, EQ, hq']
     exact some_true (by omega)
    ·rw [decide_eq_false hq] at EQ
     simp (maxSteps := 100000000) only [ivc, rgb, anf, vop, vslice, vlen, vbuiltin, nilR, salloc, eq_self, Nat.reduceEqDiff, Nat.reduceLT, Nat.reduceLeDiff, Nat.reduceAdd, Nat.reduceMul, Nat.reduceBEq, Int.reduceNeg, reduceCtorEq, implies_true, ↓reduceIte, tyb, q, q', q2, q3, q4, q5, hw1, et, hg, up, ro, e0, L1, hcc, L2, tk, hw2, insZ, insA, W, hwn, z4, z3, e6, EQ, hq, and_false]
     exact some_true (by omega)
   ·have he' : (e != 0) = true := by simp [he]
    simp (maxSteps := 100000000) only [ivc, rgb, anf, vop, vslice, vlen, vbuiltin, nilR, salloc, eq_self, Nat.reduceEqDiff, Nat.reduceLT, Nat.reduceLeDiff, Nat.reduceAdd, Nat.reduceMul, Nat.reduceBEq, Int.reduceNeg, reduceCtorEq, implies_true, ↓reduceIte, tyb, q, q', q2, q3, q4, q5, hw1, et, hg, up, ro, e0, L1, hcc, L2, tk, hw2, insZ, insA, W, he, he']
    exact some_true (by omega)
theorem read_ev {ws : List Int} {n : Int} (hs : ws.length ≤ 90000) (hu : ∀ x ∈ ws, u32r x) : E.F 9 [.ro 1 (ws.map (.int .u32)), .int .i64 n] [] = some ((readV (readM ws n), []), True) := by
 by_cases h : n < 0 \/ (ws.length : Int) ≤ n
 ·exact read_bad h
 ·cases hop : opIn (ws.getD n.toNat 0 % 256) with
  | false => exact read_noop (by omega) (by omega) (by omega) hu hop
  | true => exact read_all (by omega) (by omega) hs hu hop
def insZL : List AV := [.int .i64 0, .int .i64 0, .int .i64 0, .int .i64 0, .int .i64 0, .nilsl, .int .i64 0, .nilsl, .int .i64 0]
def rfV (ws : List Int) (n pos l : Int) (k : Nat) : List AV := [.ro 1 (ws.map (.int .u32)), .int .i64 n, .ptr 60000 0 0, .ptr 60001 0 0, .ptr 60002 0 0, .int .i64 pos, .int .i64 l, .int .i64 k]
def rfH (r : Shp) (i : Ins) : HL := [(60000, ⟨true, 9, [.agg insZL]⟩), (60001, ⟨true, 9, [.agg (insL 60003 60004 i)]⟩), (60002, ⟨true, 6, [.agg (shA r)]⟩), (60003, iR i.x), (60004, iR i.l)]
theorem getD_cons_drop {l : List Int} {k : Nat} (h : k < l.length) : l.drop k = l.getD k 0 :: l.drop (k + 1) := by
 rw [List.drop_eq_getElem_cons h, List.getD_eq_getElem?_getD, List.getElem?_eq_getElem h]
 rfl
theorem u32r_getD {ws : List Int} (hu : ∀ x ∈ ws, u32r x) (k : Nat) : u32r (ws.getD k 0) := by
 rw [List.getD_eq_getElem?_getD]
 by_cases h : k < ws.length
 ·rw [List.getElem?_eq_getElem h]
  exact hu _ (List.getElem_mem h)
 ·rw [List.getElem?_eq_none (by omega)]
  exact ⟨by simp, by simp⟩
theorem getD_row {f : Int -> AV} {l : List Int} {k : Nat} (h : k < l.length) : (l.map f).getD k .junk = f (l.getD k 0) :=
 getD_map (by rw [List.getD_eq_getElem?_getD, List.getElem?_eq_getElem h]; rfl)
theorem rf_idx {ws : List Int} {n l : Int} {r : Shp} (hu : ∀ x ∈ ws, u32r x) (hs : ws.length ≤ 90000) (hX : r.x.length ≤ 1000) : ∀ (k j pos : Nat) (i : Ins), j + k = r.x.length -> pos + k ≤ ws.length -> i.x.length + k ≤ 5000 ->
  E.L 18 19 (rfV ws n pos l j) (rfH r i) = some ((.exit 0, rfV ws n (pos + k : Nat) l r.x.length, rfH r { i with x := i.x ++ (ws.drop pos).take k }), True) := by
 intro k
 induction k with
 | zero =>
  intro j pos i hj hp hx
  have q : ((j : Int) < r.x.length) = False := eq_false (by omega)
  have hj : (j : Int) = r.x.length := by omega
  simp only [rfV, rfH, insZL, insL, shA, List.take_zero, List.append_nil, Nat.add_zero, hj]
  rw [hj] at q
  rw [l18_19]
  simp (maxSteps := 100000000) only [ivc, rgb, anf, vop, vlen, vbuiltin, nilR, eq_self, Nat.reduceEqDiff, Nat.reduceLT, Nat.reduceLeDiff, Nat.reduceAdd, Nat.reduceBEq, reduceCtorEq, ↓reduceIte, tyb, iR, q]
 | succ k ih =>
  intro j pos i hj hp hx
  have hi' : ((j : Int) < r.x.length) = True := eq_true (by omega)
  have hw1 : IntKind.i64.wrap ((j : Int) + 1) = j + 1 := wrap_id (by omega) (by omega)
  have hw3 : IntKind.i64.wrap ((pos : Int) + 1) = pos + 1 := wrap_id (by omega) (by omega)
  have hu0 := u32r_getD hu pos
  have hw2 : IntKind.i64.wrap (ws.getD pos 0) = ws.getD pos 0 := wrap_id (by have := hu0.1; omega) (by have := hu0.2; omega)
  have hg := getD_row (f := AV.int .u32) (l := ws) (k := pos) (by omega)
  have hc : ((pos : Int) < ws.length) = True := eq_true (by omega)
  have ih' := ih (j + 1) (pos + 1) { i with x := i.x ++ [ws.getD pos 0] } (by omega) (by omega) (by simp; omega)
  rw [getD_cons_drop (show pos < ws.length by omega), show pos + (k + 1) = pos + 1 + k by omega]
  simp only [rfV, rfH, insZL, insL, shA, iR, List.take_succ_cons, List.append_assoc, List.cons_append, List.nil_append, Int.natCast_add, Int.cast_ofNat_Int, List.length_append, List.length_cons, List.length_nil, Nat.zero_add, List.map_append, List.map_cons, List.map_nil] at ih' ⊢
  rw [l18_19]
  simp (maxSteps := 100000000) only [ivc, rgb, anf, vop, vlen, vbuiltin, nilR, salloc, sappend, eq_self, Nat.reduceEqDiff, Nat.reduceLT, Nat.reduceLeDiff, Nat.reduceAdd, Nat.reduceSub, Nat.reduceBEq, reduceCtorEq, ↓reduceIte, tyb, hi', hw1, hw2, hw3, hg, hc, ih']
  exact some_true (by omega)
def rdB : List Int -> Int -> Int -> Ins -> Option Ins
 | [], _, _, i => some i
 | b :: bs, p, l, i => if p < l then rdB bs (p + 1) l { i with l := i.l ++ [b] } else if (b != 0) = true then none else rdB bs (p + 1) l i
def rxV (ws : List Int) (n pos l p : Int) (e : AV) (j : Int) : List AV := [.ro 1 (ws.map (.int .u32)), .int .i64 n, .ptr 60000 0 0, e, .ptr 60001 0 0, .int .i64 pos, .int .i64 l, .int .i64 p, .sl 60002 0 4, .int .i64 j]
def rxH (B : List Int) (i : Ins) : HL := [(60000, ⟨true, 9, [.agg insZL]⟩), (60001, ⟨true, 9, [.agg (insL 60003 60004 i)]⟩), (60002, iR B), (60003, iR i.x), (60004, iR i.l)]
def rxR (ws : List Int) (n pos l p : Int) (B : List Int) (o : Option Ins) (x : Option ((Exit × List AV × HL) × Prop)) : Prop := match o with
 | some i => x = some ((.exit 4, rxV ws n pos l p .junk 4, rxH B i), True)
 | none => ∃ j i, x = some ((.ret, rxV ws n pos l p (.int .i64 260) j, rxH B i), True)
theorem rf_in {ws : List Int} {n pos l p : Int} {B : List Int} (hB : B.length = 4) (hp : 0 ≤ p /\ p ≤ 1000) : ∀ (r m : List Int) (i : Ins), B = m ++ r -> i.l.length ≤ 5000 + m.length ->
  rxR ws n pos l p B (rdB r (p + m.length) l i) (E.L 18 32 (rxV ws n pos l p .junk m.length) (rxH B i)) := by
 intro r
 induction r with
 | nil =>
  intro m i hm hl
  have e : (m.length : Int) = 4 := by rw [List.append_nil] at hm; rw [<- hm, hB]; rfl
  simp only [rdB, rxR, rxV, rxH, insL, insZL, e]
  rw [l18_32]
  simp (maxSteps := 100000000) only [ivc, rgb, anf, nilR, eq_self, Nat.reduceEqDiff, Nat.reduceLT, Nat.reduceLeDiff, Nat.reduceAdd, Nat.reduceBEq, Int.reduceLT, reduceCtorEq, ↓reduceIte, tyb, iR]
 | cons b r ih =>
  intro m i hm hl
  have h4 : m.length + (r.length + 1) = 4 := by rw [<- hB, hm]; simp
  have hi' : ((m.length : Int) < 4) = True := eq_true (by omega)
  have hi2 : m.length < 4 := by omega
  have hw1 : IntKind.i64.wrap ((m.length : Int) + 1) = m.length + 1 := wrap_id (by omega) (by omega)
  have hw2 : IntKind.i64.wrap (p + m.length) = p + m.length := wrap_id (by omega) (by omega)
  have hg := getD_map (f := AV.int .i64) (show B[m.length]? = some b by rw [hm]; simp)
  have ep : p + (m.length : Int) + 1 = p + ((m ++ [b]).length : Nat) := by simp; omega
  simp only [rdB]
  by_cases hlt : p + m.length < l
  ·have ih' := ih (m ++ [b]) { i with l := i.l ++ [b] } (by rw [hm]; simp) (by simp; omega)
   rw [if_pos hlt, ep]
   have hlt' := eq_true hlt
   generalize rdB r _ l _ = o at ih' ⊢
   cases o with
   | some i2 =>
    simp only [rxR, rxV, rxH, insL, insZL, iR, Int.natCast_add, Int.cast_ofNat_Int, List.length_append, List.length_cons, List.length_nil, Nat.zero_add, List.map_append, List.map_cons, List.map_nil] at ih' ⊢
    rw [l18_32]
    simp (maxSteps := 100000000) only [ivc, rgb, anf, vop, nilR, salloc, sappend, eq_self, Nat.reduceEqDiff, Nat.reduceLT, Nat.reduceLeDiff, Nat.reduceAdd, Nat.reduceSub, Nat.reduceBEq, reduceCtorEq, ↓reduceIte, tyb, hi', hw1, hw2, hg, hlt', ih']
    exact some_true (by omega)
   | none =>
    obtain ⟨j2, i2, ih'⟩ := ih'
    refine ⟨j2, i2, ?_⟩
    simp only [rxV, rxH, insL, insZL, iR, Int.natCast_add, Int.cast_ofNat_Int, List.length_append, List.length_cons, List.length_nil, Nat.zero_add, List.map_append, List.map_cons, List.map_nil] at ih' ⊢
    rw [l18_32]
    simp (maxSteps := 100000000) only [ivc, rgb, anf, vop, nilR, salloc, sappend, eq_self, Nat.reduceEqDiff, Nat.reduceLT, Nat.reduceLeDiff, Nat.reduceAdd, Nat.reduceSub, Nat.reduceBEq, reduceCtorEq, ↓reduceIte, tyb, hi', hw1, hw2, hg, hlt', ih']
    exact some_true (by omega)
  ·have hlt' := eq_false hlt
   rw [if_neg hlt]
   cases hb : (b != 0) with
   | true =>
    rw [if_pos rfl]
    refine ⟨m.length, i, ?_⟩
    clear ih
    simp only [rxV, rxH, insL, insZL, iR]
    rw [l18_32]
    simp (maxSteps := 100000000) only [ivc, rgb, anf, vop, nilR, eq_self, Nat.reduceEqDiff, Nat.reduceLT, Nat.reduceLeDiff, Nat.reduceAdd, Nat.reduceBEq, reduceCtorEq, ↓reduceIte, tyb, hi', hw2, hg, hlt', hb]
    exact some_true (by omega)
   | false =>
    have ih' := ih (m ++ [b]) i (by rw [hm]; simp) (by simp; omega)
    rw [if_neg (by decide), ep]
    generalize rdB r _ l _ = o at ih' ⊢
    cases o with
    | some i2 =>
     simp only [rxR, rxV, rxH, insL, insZL, iR, Int.natCast_add, Int.cast_ofNat_Int, List.length_append, List.length_cons, List.length_nil, Nat.zero_add] at ih' ⊢
     rw [l18_32]
     simp (maxSteps := 100000000) only [ivc, rgb, anf, nilR, eq_self, Nat.reduceEqDiff, Nat.reduceLT, Nat.reduceLeDiff, Nat.reduceAdd, Nat.reduceBEq, reduceCtorEq, ↓reduceIte, tyb, hi', hw1, hw2, hg, hlt', hb, ih']
     exact some_true (by omega)
    | none =>
     obtain ⟨j2, i2, ih'⟩ := ih'
     refine ⟨j2, i2, ?_⟩
     simp only [rxV, rxH, insL, insZL, iR, Int.natCast_add, Int.cast_ofNat_Int, List.length_append, List.length_cons, List.length_nil, Nat.zero_add] at ih' ⊢
     rw [l18_32]
     simp (maxSteps := 100000000) only [ivc, rgb, anf, nilR, eq_self, Nat.reduceEqDiff, Nat.reduceLT, Nat.reduceLeDiff, Nat.reduceAdd, Nat.reduceBEq, reduceCtorEq, ↓reduceIte, tyb, hi', hw1, hw2, hg, hlt', hb, ih']
     exact some_true (by omega)
def rdC : Nat -> List Int -> Int -> Int -> Ins -> Option Ins
 | 0, _, _, _, i => some i
 | m + 1, rest, p, l, i => match rdB (unp (rest.headD 0)) p l i with
  | some i => rdC m rest.tail (p + 4) l i
  | none => none
theorem rdB_len : ∀ (bs : List Int) (p l : Int) (i j : Ins), rdB bs p l i = some j -> j.l.length ≤ i.l.length + bs.length
 | [], p, l, i, j, h => by cases h; simp
 | b :: bs, p, l, i, j, h => by
  unfold rdB at h
  split at h
  ·have := rdB_len bs _ l _ j h
   simp at this ⊢
   omega
  ·split at h
   ·cases h
   ·have := rdB_len bs _ l _ j h
    simp at this ⊢
    omega
def ryV (ws : List Int) (n pos l p : Int) (e : AV) : List AV := [.ro 1 (ws.map (.int .u32)), .int .i64 n, .ptr 60000 0 0, e, .ptr 60001 0 0, .int .i64 pos, .int .i64 l, .int .i64 p]
def ryH (i : Ins) : HL := [(60000, ⟨true, 9, [.agg insZL]⟩), (60001, ⟨true, 9, [.agg (insL 60002 60003 i)]⟩), (60002, iR i.x), (60003, iR i.l)]
def ryR (ws : List Int) (n pos l p : Int) (o : Option Ins) (x : Option ((Exit × List AV × HL) × Prop)) : Prop := match o with
 | some i => x = some ((.exit 2, ryV ws n pos l p .junk, ryH i), True)
 | none => ∃ pos p i, x = some ((.ret, ryV ws n pos l p (.int .i64 260), ryH i), True)
theorem rf_lst {ws : List Int} {n l : Int} (hu : ∀ x ∈ ws, u32r x) (hs : ws.length ≤ 90000) (hl : l ≤ 900) : ∀ (m pos : Nat) (p : Int) (i : Ins), (0 < m -> p < l) -> (m = 0 -> l ≤ p) -> l ≤ p + 4 * m -> (p + 4 * m ≤ l + 3 \/ m = 0) -> 0 ≤ p -> pos + m ≤ ws.length -> i.l.length ≤ 1000 + p.toNat ->
  ryR ws n (pos + m : Nat) l (p + 4 * (m : Int)) (rdC m (ws.drop pos) p l i) (E.L 18 27 (ryV ws n pos l p .junk) (ryH i)) := by
 intro m
 induction m with
 | zero =>
  intro pos p i h1 h2 h3 h4 hp0 hp hi
  have q : (p < l) = False := eq_false (by have := h2 rfl; omega)
  simp only [rdC, ryR, ryV, ryH, insL, insZL, Nat.add_zero, Int.natCast_zero, Int.mul_zero, Int.add_zero]
  rw [l18_27]
  simp (maxSteps := 100000000) only [ivc, rgb, anf, nilR, eq_self, Nat.reduceEqDiff, Nat.reduceLT, Nat.reduceLeDiff, Nat.reduceAdd, Nat.reduceBEq, reduceCtorEq, ↓reduceIte, tyb, iR, q]
 | succ m ih =>
  intro pos p i h1 h2 h3 h4 hp0 hp hi
  have hlt := h1 (by omega)
  have hi' : (p < l) = True := eq_true hlt
  have hw1 : IntKind.i64.wrap (p + 4) = p + 4 := wrap_id (by omega) (by omega)
  have hw3 : IntKind.i64.wrap ((pos : Int) + 1) = pos + 1 := wrap_id (by omega) (by omega)
  have hu0 := u32r_getD hu pos
  have up := runpack_ev hu0.1 hu0.2
  have hg := getD_row (f := AV.int .u32) (l := ws) (k := pos) (by omega)
  have hc : ((pos : Int) < ws.length) = True := eq_true (by omega)
  have hc0 : (0 ≤ (pos : Int)) = True := eq_true (by omega)
  have L := rf_in (ws := ws) (n := n) (pos := pos) (l := l) (p := p) (B := unp (ws.getD pos 0)) rfl (by omega) (unp (ws.getD pos 0)) [] i rfl (by simp; omega)
  rw [getD_cons_drop (show pos < ws.length by omega), show pos + (m + 1) = pos + 1 + m by omega]
  simp only [rdC, List.headD_cons, List.tail_cons]
  simp only [List.length_nil, Int.natCast_zero, Int.add_zero] at L
  have BL := rdB_len (unp (ws.getD pos 0)) p l i
  generalize hB : unp (ws.getD pos 0) = B at L BL ⊢
  have hB2 : B = [ws.getD pos 0 % 256, ws.getD pos 0 / 256 % 256, ws.getD pos 0 / 65536 % 256, ws.getD pos 0 / 16777216] := by rw [<- hB]; rfl
  cases ho : rdB B p l i with
  | none =>
   rw [ho] at L
   obtain ⟨j2, i2, L⟩ := L
   refine ⟨pos, p, i2, ?_⟩
   subst hB2
   clear ih BL ho hB
   generalize ws.getD pos 0 = w at *
   simp only [rxV, rxH, insL, insZL, iR, List.map_cons, List.map_nil] at L
   simp only [ryV, ryH, insL, insZL, iR]
   rw [l18_27]
   simp (maxSteps := 100000000) only [ivc, rgb, anf, vop, nilR, salloc, eq_self, Nat.reduceEqDiff, Nat.reduceLT, Nat.reduceLeDiff, Nat.reduceAdd, Nat.reduceBEq, reduceCtorEq, ↓reduceIte, tyb, hi', hg, hc, hc0, up, L]
  | some i2 =>
   rw [ho] at L
   have ih' := ih (pos + 1) (p + 4) i2 (by omega) (by omega) (by omega) (by omega) (by omega) (by omega) (by have := BL i2 ho; rw [hB2] at this; simp at this; omega)
   rw [show p + 4 * ((m + 1 : Nat) : Int) = p + 4 + 4 * (m : Int) by omega]
   simp only
   generalize rdC m (ws.drop (pos + 1)) (p + 4) l i2 = o at ih' ⊢
   subst hB2
   clear ih BL ho hB
   generalize ws.getD pos 0 = w at *
   simp only [rxR, rxV, rxH, insL, insZL, iR, List.map_cons, List.map_nil] at L
   cases o with
   | some i3 =>
    simp only [ryR, ryV, ryH, insL, insZL, iR, Int.natCast_add, Int.cast_ofNat_Int] at ih' ⊢
    rw [l18_27]
    simp (maxSteps := 100000000) only [ivc, rgb, anf, vop, nilR, salloc, eq_self, Nat.reduceEqDiff, Nat.reduceLT, Nat.reduceLeDiff, Nat.reduceAdd, Nat.reduceBEq, reduceCtorEq, ↓reduceIte, tyb, hi', hw1, hw3, hg, hc, hc0, up, L, ih']
   | none =>
    obtain ⟨p2, q2, i3, ih'⟩ := ih'
    refine ⟨p2, q2, i3, ?_⟩
    simp only [ryV, ryH, insL, insZL, iR, Int.natCast_add, Int.cast_ofNat_Int] at ih' ⊢
    rw [l18_27]
    simp (maxSteps := 100000000) only [ivc, rgb, anf, vop, nilR, salloc, eq_self, Nat.reduceEqDiff, Nat.reduceLT, Nat.reduceLeDiff, Nat.reduceAdd, Nat.reduceBEq, reduceCtorEq, ↓reduceIte, tyb, hi', hw1, hw3, hg, hc, hc0, up, L, ih']
end Go.Proofs.YtfdipcpmfoidoaaDoor

