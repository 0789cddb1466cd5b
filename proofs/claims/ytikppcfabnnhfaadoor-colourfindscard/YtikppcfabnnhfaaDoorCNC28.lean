/- awake. -/
import Derived.Test.YtikppcfabnnhfaaDoorCNS5
import Derived.Test.YtikppcfabnnhfaaDoorCNC23
import Derived.Test.YtikppcfabnnhfaaDoorCAnL
namespace Go.Proofs.YtikppcfabnnhfaaDoor
open Go Go.Aw
set_option linter.unusedSimpArgs false
set_option linter.unusedVariables false
set_option maxRecDepth 100000
set_option maxHeartbeats 40000000
theorem same_loop {a b : List Int} (hl : a.length = b.length) (hla : a.length ≤ 1000000) : ∀ (r m q p : List Int), a = m ++ r → b = p ++ q → m.length = p.length →
    ∃ e : Int, E.L 20 5 [.ro 1 (a.map (AV.int .i64)), .ro 1 (b.map (AV.int .i64)), .bool false, .int .i64 m.length] [] = some ((if r == q then .exit 0 else .ret, [.ro 1 (a.map (AV.int .i64)), .ro 1 (b.map (AV.int .i64)), .bool false, .int .i64 e], []), True) := by
  intro r
  induction r with
  | nil =>
    intro m q p h1 h2 h3
    have hq : q = [] := List.eq_nil_of_length_eq_zero (by have la := congrArg List.length h1; have lb := congrArg List.length h2; rw [List.length_append] at la lb; simp only [List.length_nil] at la; omega)
    subst hq
    have hn : m.length = a.length := by rw [h1]; simp
    refine ⟨a.length, ?_⟩
    have qq : ((a.length : Int) < a.length) = False := eq_false (by omega)
    rw [hn, l20_5]
    simp (maxSteps := 100000000) only [ivc, anf, vlen, vbuiltin, nilR, eq_self, Nat.reduceEqDiff, Nat.reduceLT, Nat.reduceAdd, Nat.reduceBEq, reduceCtorEq, ↓reduceIte, tyb, qq]
  | cons x r ih =>
    intro m q p h1 h2 h3
    have la := congrArg List.length h1
    have lb := congrArg List.length h2
    match q with
    | [] => simp at la lb; omega
    | y :: q =>
      simp only [List.length_append, List.length_cons] at la lb
      have hi' : (m.length : Int) < a.length := by omega
      have ga := getD_map (f := AV.int .i64) (show a[m.length]? = some x by rw [h1]; simp)
      have gb := getD_map (f := AV.int .i64) (show b[m.length]? = some y by rw [h2, h3]; simp)
      have hw : IntKind.i64.wrap ((m.length : Int) + 1) = m.length + 1 := wrap_id (by omega) (by omega)
      have c1 : (0 ≤ (m.length : Int) ∧ (m.length : Int) < a.length) = True := eq_true (by omega)
      have c2 : (0 ≤ (m.length : Int) ∧ (m.length : Int) < b.length) = True := eq_true (by omega)
      by_cases hx : x = y
      · have hx' : (x != y) = false := by rw [hx]; simp
        have hb : ((x :: r) == (y :: q)) = (r == q) := by simp [hx]
        obtain ⟨e, ih'⟩ := ih (m ++ [x]) q (p ++ [y]) (by simp [h1]) (by simp [h2]) (by simp [h3])
        refine ⟨e, ?_⟩
        simp only [List.length_append, List.length_cons, List.length_nil, Nat.zero_add, Int.natCast_add, Int.cast_ofNat_Int] at ih'
        rw [hb, l20_5]
        simp (maxSteps := 100000000) only [ivc, anf, vlen, vbuiltin, nilR, eq_self, Nat.reduceEqDiff, Nat.reduceLT, Nat.reduceAdd, Nat.reduceBEq, reduceCtorEq, ↓reduceIte, tyb, hi', ga, gb, hw, c2, hx', ih']
        exact some_true (by omega)
      · have hx' : (x != y) = true := bne_iff_ne.2 hx
        have hb : ((x :: r) == (y :: q)) = false := by simp [hx]
        refine ⟨m.length, ?_⟩
        rw [hb, l20_5]
        simp (maxSteps := 100000000) only [ivc, anf, vlen, vbuiltin, nilR, eq_self, Nat.reduceEqDiff, Nat.reduceLT, Nat.reduceAdd, Nat.reduceBEq, reduceCtorEq, ↓reduceIte, tyb, hi', ga, gb, c2, hx']
        exact some_true (by omega)
theorem same_ev {a b : List Int} (hla : a.length ≤ 1000000) : E.F 20 [.ro 1 (a.map (AV.int .i64)), .ro 1 (b.map (AV.int .i64))] [] = some ((.bool (a == b), []), True) := by
  rw [e20]
  by_cases h : a.length = b.length
  · have hb : ((a.length : Int) != b.length) = false := by rw [h]; simp
    obtain ⟨e, lp⟩ := same_loop h hla a [] b [] rfl rfl rfl
    simp only [List.length_nil, Int.natCast_zero] at lp
    by_cases hab : (a == b) = true
    · rw [hab]
      simp only [hab, if_true] at lp
      simp (maxSteps := 100000000) only [ivc, anf, vlen, vbuiltin, nilR, eq_self, Nat.reduceEqDiff, Nat.reduceLT, Nat.reduceLeDiff, Nat.reduceAdd, Nat.reduceBEq, reduceCtorEq, ↓reduceIte, tyb, hb, lp]
    · have hab' : (a == b) = false := by simpa using hab
      rw [hab']
      simp only [hab', Bool.false_eq_true, if_false] at lp
      simp (maxSteps := 100000000) only [ivc, anf, vlen, vbuiltin, nilR, eq_self, Nat.reduceEqDiff, Nat.reduceLT, Nat.reduceLeDiff, Nat.reduceAdd, Nat.reduceBEq, reduceCtorEq, ↓reduceIte, tyb, hb, lp]
  · have hb : ((a.length : Int) != b.length) = true := by simp; omega
    have hab' : (a == b) = false := by
      cases hh : a == b with
      | false => rfl
      | true => exact absurd (congrArg List.length (eq_of_beq hh)) h
    rw [hab']
    simp (maxSteps := 100000000) only [ivc, anf, vlen, vbuiltin, nilR, eq_self, Nat.reduceEqDiff, Nat.reduceLT, Nat.reduceLeDiff, Nat.reduceAdd, Nat.reduceBEq, reduceCtorEq, ↓reduceIte, tyb, hb]
theorem ex_ev : E.F 39 [] [] = some ((wdV exW, []), True) := by
  rw [e39]
  simp (maxSteps := 100000000) only [ivc, anf, vop, salloc, eq_self, Nat.reduceEqDiff, Nat.reduceLT, Nat.reduceLeDiff, Nat.reduceAdd, Nat.reduceMul, Nat.reduceBEq, Int.reduceLE, Int.reduceToNat, Int.reduceMul, reduceCtorEq, ↓reduceIte, tyb, exW, wdV, clV, enV, bdV]
theorem gv24L (a : List AV) (l : HL) : EL.F 24 a l = EP.F 24 a l := ev_giv (A := ANL) (by kernel_rfl) a l
theorem awake_ev : EL.F 11 [] [] = some ((.bool true, []), True) := by
  have a1 := ex_ev
  have a2 := conf_ev (w := exW) okW_of
  rw [if_pos ex_ck, ex_conf] at a2
  have a3 := least15_ev (w := exW) okW_of
  rw [if_pos ex_ck, ex_cnt, if_neg (by decide), ex_least] at a3
  have a4 := pack_ev (w := exW) (cs := [0, 1, 0]) okW_of (fun _ _ => ex_hasC)
  rw [if_pos ex_ck, if_pos ex_cc, ex_pack] at a4
  have a5 := grow_ev (w := exW) (cs := [0, 1, 0]) (cl := exC) (by decide) ex_ck (okW_of ex_ck) ex_cc ex_ck2 (okW_of ex_ck2) (by rw [ex_sz2]; decide) (by decide) (by rw [ex_sz2]; decide) ex_grow
  have s1 := same_ev (a := [0, 2]) (b := [0, 2]) (by decide)
  have s2 := same_ev (a := [0, 1, 2]) (b := [0, 1, 2]) (by decide)
  have s3 := same_ev (a := [2]) (b := [2]) (by decide)
  have s4 := look_ev (v := [⟨0, 0⟩, ⟨1, 1⟩, ⟨2, 3⟩, ⟨1, 2⟩]) (offs := [0, 2]) (l := [0, 1, 0]) (c := 1) (s := 2) (by decide) (by unfold i64r; decide) (by unfold i64r; decide)
  rw [show lookM [⟨0, 0⟩, ⟨1, 1⟩, ⟨2, 3⟩, ⟨1, 2⟩] [0, 2] [0, 1, 0] 1 2 = 3 from by kernel_rfl] at s4
  simp only [exW, exC, wdV, clV, enV, bdV, pV, List.map_cons, List.map_nil, beq_self_eq_true] at a1 a2 a3 a4 a5 s1 s2 s3 s4
  rw [e11L]
  simp (maxSteps := 100000000) only [ivc, vop, vlen, vbuiltin, nilR, salloc, eq_self, Nat.reduceEqDiff, Nat.reduceLT, Nat.reduceLeDiff, Nat.reduceAdd, Nat.reduceMul, Nat.reduceBEq, Int.reduceLT, Int.reduceLE, Int.reduceToNat, reduceCtorEq, ↓reduceIte, anfL, gv39L, gv36L, gv15L, gv24L, gv17L, gv20L, gv12L, tyb, a1, a2, a3, a4, a5, s1, s2, s3, s4]
end Go.Proofs.YtikppcfabnnhfaaDoor
