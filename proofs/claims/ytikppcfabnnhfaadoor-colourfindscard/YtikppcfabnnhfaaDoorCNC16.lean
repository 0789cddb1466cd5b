/- colour. -/
import Derived.Test.YtikppcfabnnhfaaDoorCNC15
namespace Go.Proofs.YtikppcfabnnhfaaDoor
open Go Go.Aw
set_option linter.unusedSimpArgs false
set_option linter.unusedVariables false
set_option maxRecDepth 100000
set_option maxHeartbeats 40000000
theorem set_map {α : Type} {f : α → AV} {l : List α} {i : Nat} {x : α} : (l.map f).set i (f x) = (l.set i x).map f := by rw [List.map_set]
/-- Colours from c on, n of them. -/
def tryM (F : Int → Option (List Int)) (T : List Int) : Nat → Int → Option (List Int)
  | 0, _ => none
  | n + 1, c => if hasW T 0 c = true then tryM F T n (c + 1) else match F c with
    | some x => some x
    | none => tryM F T n (c + 1)
def maxL (cs : List Int) : Int := match cs with | [] => 0 | x :: l => l.foldl maxI x
def colM (g : List Int) (most : Int) : List Int → List Int → Option (List Int)
  | [], cs => some cs
  | s :: r, cs => tryM (fun c => colM g most r (cs.set s.toNat c)) (takW g s cs) (min most (maxL cs + 2)).toNat 0
def iR (l : List Int) : Ob := ⟨false, 1, l.map (AV.int .i64)⟩
def coH (g cs L : List Int) : HL := [(100000, gO g), (100001, iR cs), (100002, iR L)]
def coV (most : Int) (o n : Nat) (b : Bool) (u c : Int) : List AV := [.ptr 100000 0 0, .sl 100001 0 500, .sl 100002 o n, .int .i64 most, .bool b, .ptr 60000 0 0, .int .i64 u, .int .i64 c]
theorem col_nil {g cs L : List Int} {most : Int} : E.F 44 [.ptr 100000 0 0, .sl 100001 0 500, .sl 100002 L.length 0, .int .i64 most] (coH g cs L) = some ((.bool true, coH g cs L), True) := by
  rw [e44]
  simp (maxSteps := 100000000) only [ivc, anf, vlen, vbuiltin, nilR, eq_self, Nat.reduceEqDiff, Nat.reduceLT, Nat.reduceLeDiff, Nat.reduceAdd, Nat.reduceBEq, Int.reduceNeg, reduceCtorEq, ↓reduceIte, tyb, coH, iR, gO, ldb]
def okC (cs : List Int) : Prop := cs.length = 500 ∧ ∀ c ∈ cs, -1 ≤ c ∧ c < 500
theorem set_back {cs : List Int} {i : Nat} {c : Int} (h : cs.getD i 0 = -1) (hi : i < cs.length) : (cs.set i c).set i (-1) = cs := by
  rw [List.set_set]
  have : cs[i] = -1 := by simpa [List.getD_eq_getElem?_getD, List.getElem?_eq_getElem hi] using h
  rw [← this]
  exact List.set_getElem_self hi
theorem okC_set {cs : List Int} {i : Nat} {c : Int} (h : okC cs) (h0 : -1 ≤ c) (h1 : c < 500) : okC (cs.set i c) := by
  refine ⟨by rw [List.length_set]; exact h.1, fun x hx => ?_⟩
  rcases List.mem_or_eq_of_mem_set hx with hx | hx
  · exact h.2 x hx
  · subst hx; exact ⟨h0, h1⟩
theorem gd_map {l m r : List Int} {s : Int} (h : l = m ++ s :: r) : (l.map (AV.int .i64)).getD m.length .junk = .int .i64 s := by
  subst h
  simp
theorem getI {l : List Int} {i : Nat} (h : i < l.length) : (l.map (AV.int .i64)).getD i .junk = .int .i64 (l.getD i 0) := by
  simp [List.getD_eq_getElem?_getD, List.getElem?_eq_getElem h]
theorem col_loop {g cs L : List Int} {most u : Int} {s : Int} {m r T : List Int} (hL : L = m ++ s :: r) (hl : L.length ≤ 500) (hT : T.length = 8) (hs : 0 ≤ s ∧ s < 500) (hcs : okC cs) (hm : most ≤ 500) (hu : -1 ≤ u ∧ u < 500) (hg : cs.getD s.toNat 0 = -1)
    (F : Int → Option (List Int))
    (ih0 : ∀ c, 0 ≤ c → c < most → E.F 44 [.ptr 100000 0 0, .sl 100001 0 500, .sl 100002 (m.length + 1) r.length, .int .i64 most] (coH g (cs.set s.toNat c) L) = some ((.bool (F c).isSome, coH g ((F c).getD (cs.set s.toNat c)) L), True)) : ∀ (k : Nat) (c : Int), 0 ≤ c → c + k = min most (u + 2) →
    ∃ e : Int, E.L 44 7 (coV most m.length (r.length + 1) false u c) (coH g cs L ++ [(60000, ⟨true, 8, [.agg (T.map (AV.int .u64))]⟩)])
     = some ((if (tryM F T k c).isSome then .ret else .exit 0, coV most m.length (r.length + 1) (tryM F T k c).isSome u e, coH g ((tryM F T k c).getD cs) L ++ [(60000, ⟨true, 8, [.agg (T.map (AV.int .u64))]⟩)]), True) := by
  intro k
  induction k with
  | zero =>
    intro c h0 hc
    refine ⟨c, ?_⟩
    have w : IntKind.i64.wrap (u + 1) = u + 1 := wrap_id (by omega) (by omega)
    rw [l44_7]
    by_cases q1 : c < most
    · have q2 : ¬ (c ≤ u + 1) := by omega
      simp (maxSteps := 100000000) only [ivc, anf, nilR, eq_self, Nat.reduceEqDiff, Nat.reduceLT, Nat.reduceLeDiff, Nat.reduceAdd, Nat.reduceBEq, Int.reduceNeg, reduceCtorEq, ↓reduceIte, tyb, coV, coH, iR, gO, ldb, q1, q2, w, tryM]
    · simp (maxSteps := 100000000) only [ivc, anf, nilR, eq_self, Nat.reduceEqDiff, Nat.reduceLT, Nat.reduceLeDiff, Nat.reduceAdd, Nat.reduceBEq, Int.reduceNeg, reduceCtorEq, ↓reduceIte, tyb, coV, coH, iR, gO, ldb, q1, tryM]
  | succ k ih =>
    intro c h0 hc
    have q1 : c < most := by omega
    have q2 : c ≤ u + 1 := by omega
    have w : IntKind.i64.wrap (u + 1) = u + 1 := wrap_id (by omega) (by omega)
    have w2 : IntKind.i64.wrap (c + 1) = c + 1 := wrap_id (by omega) (by omega)
    have a := hasr_ev (l := T) (c := 0) (n := c) h0 (by omega) (by omega)
    have gL := gd_map hL
    have q3 : 0 < (r.length : Int) + 1 := by omega
    have q4 : (0 ≤ s ∧ s < 500) = True := eq_true hs
    have k1 := getI (l := cs) (i := s.toNat) (by rw [hcs.1]; omega)
    have k2 := getI (l := cs.set s.toNat c) (i := s.toNat) (by rw [List.length_set, hcs.1]; omega)
    have k3 : ((r.length : Int) + 1).toNat - 1 = r.length := by omega
    have k4 : (1 ≤ (r.length : Int) + 1) = True := eq_true (by omega)
    have k5 : ((r.length : Int) + 1 ≤ r.length + 1) = True := eq_true (by omega)
    obtain ⟨e, ih'⟩ := ih (c + 1) (by omega) (by omega)
    by_cases h : hasW T 0 c = true
    · refine ⟨e, ?_⟩
      have ht : tryM F T (k + 1) c = tryM F T k (c + 1) := by rw [tryM, if_pos h]
      rw [ht]
      generalize tryM F T k (c + 1) = R at ih'
      rw [l44_7]
      rw [h] at a
      simp only [coV, coH, iR, gO, List.cons_append, List.nil_append] at ih'
      simp (maxSteps := 100000000) only [ivc, anf, nilR, eq_self, Nat.reduceEqDiff, Nat.reduceLT, Nat.reduceLeDiff, Nat.reduceAdd, Nat.reduceBEq, Int.reduceNeg, reduceCtorEq, ↓reduceIte, tyb, coV, coH, iR, gO, ldb, agg_imm, q1, q2, w, w2, a, ih']
    · have h' : hasW T 0 c = false := by simpa using h
      have b := ih0 c h0 q1
      rw [h'] at a
      cases hF : F c with
      | none =>
        have ht : tryM F T (k + 1) c = tryM F T k (c + 1) := by rw [tryM, if_neg h, hF]
        refine ⟨e, ?_⟩
        rw [hF] at b
        rw [ht]
        generalize tryM F T k (c + 1) = R at ih'
        have sb := set_back (c := c) hg (by rw [hcs.1]; omega)
        rw [l44_7]
        simp only [coV, coH, iR, gO, List.cons_append, List.nil_append, Option.isSome_none, Option.getD_none] at ih' b
        simp (maxSteps := 100000000) only [ivc, anf, vop, vslice, nilR, eq_self, Nat.reduceEqDiff, Nat.reduceLT, Nat.reduceLeDiff, Nat.reduceAdd, Nat.reduceMul, Nat.reduceBEq, Int.reduceLE, Int.reduceNeg, Int.reduceToNat, reduceCtorEq, implies_true, ↓reduceIte, tyb, coV, coH, iR, gO, ldb, agg_imm, q1, q2, w, w2, a, q3, q4, gL, k1, k2, k3, k4, k5, set_map, sb, b, ih']
      | some x =>
        have ht : tryM F T (k + 1) c = some x := by rw [tryM, if_neg h, hF]
        refine ⟨c, ?_⟩
        rw [hF] at b
        rw [ht]
        rw [l44_7]
        simp only [coH, iR, gO, Option.isSome_some, Option.getD_some] at b
        simp (maxSteps := 100000000) only [ivc, anf, vop, vslice, nilR, eq_self, Nat.reduceEqDiff, Nat.reduceLT, Nat.reduceLeDiff, Nat.reduceAdd, Nat.reduceMul, Nat.reduceBEq, Int.reduceLE, Int.reduceNeg, Int.reduceToNat, reduceCtorEq, implies_true, ↓reduceIte, tyb, coV, coH, iR, gO, ldb, agg_imm, q1, q2, w, a, q3, q4, gL, k1, k3, k4, k5, set_map, b]
theorem foldl_max (l : List Int) : ∀ a, (∀ c ∈ l, c < 500) → a < 500 → a ≤ l.foldl maxI a ∧ l.foldl maxI a < 500 := by
  induction l with
  | nil => intro a _ h; exact ⟨Int.le_refl _, h⟩
  | cons x l ih =>
    intro a h ha
    have hx := h x (by simp)
    have := ih (maxI a x) (fun c hc => h c (by simp [hc])) (by unfold maxI; split <;> omega)
    rw [List.foldl_cons]
    refine ⟨Int.le_trans ?_ this.1, this.2⟩
    unfold maxI
    split <;> omega
theorem maxL_rng {cs : List Int} (h : okC cs) : -1 ≤ maxL cs ∧ maxL cs < 500 := by
  match cs, h with
  | x :: l, h =>
    have hx := h.2 x (by simp)
    have := foldl_max l x (fun c hc => (h.2 c (by simp [hc])).2) hx.2
    simp only [maxL]
    omega
  | [], h => exact absurd h.1 (by decide)
theorem maxL_ev {cs : List Int} (h : okC cs) : E.F 80 [.ro 1 (cs.map (AV.int .i64))] [] = some ((.int .i64 (maxL cs), []), True) := by
  match cs, h with
  | x :: l, h => exact max_ev (by rw [h.1]; omega)
  | [], h => exact absurd h.1 (by decide)
theorem takW_len {g cs : List Int} {s : Int} : (takW g s cs).length = 8 := by rw [takW, takM_len, zs_len]
theorem getD_set_ne {l : List Int} {i j : Nat} {x : Int} (h : i ≠ j) : (l.set i x).getD j 0 = l.getD j 0 := by
  simp [List.getD_eq_getElem?_getD, h]
theorem tryM_some {F : Int → Option (List Int)} {T x : List Int} : ∀ (n : Nat) (c : Int), tryM F T n c = some x → ∃ d, c ≤ d ∧ d < c + n ∧ hasW T 0 d = false ∧ F d = some x
  | 0, c, h => by cases h
  | n + 1, c, h => by
    rw [tryM] at h
    split at h
    · obtain ⟨d, h1, h2, h3⟩ := tryM_some n (c + 1) h
      exact ⟨d, by omega, by omega, h3⟩
    · rename_i hc
      split at h
      · rename_i y hy
        cases h
        exact ⟨c, by omega, by omega, by simpa using hc, hy⟩
      · obtain ⟨d, h1, h2, h3⟩ := tryM_some n (c + 1) h
        exact ⟨d, by omega, by omega, h3⟩
theorem colM_len {g : List Int} {most : Int} : ∀ {r cs x : List Int}, colM g most r cs = some x → x.length = cs.length := by
  intro r
  induction r with
  | nil => intro cs x h; cases h; rfl
  | cons s r ih =>
    intro cs x h
    rw [colM] at h
    obtain ⟨d, _, _, _, h4⟩ := tryM_some _ _ h
    have := ih h4
    rwa [List.length_set] at this
theorem col_ev {g L : List Int} {most : Int} (hg : g.length = 4008) (hmo : 0 ≤ most) (hm : most ≤ 500) (hl : L.length ≤ 500) (hL : ∀ s ∈ L, 0 ≤ s ∧ s < 500) : ∀ (r m cs : List Int), L = m ++ r → r.Nodup → okC cs → (∀ s ∈ r, cs.getD s.toNat 0 = -1) →
    E.F 44 [.ptr 100000 0 0, .sl 100001 0 500, .sl 100002 m.length r.length, .int .i64 most] (coH g cs L) = some ((.bool (colM g most r cs).isSome, coH g ((colM g most r cs).getD cs) L), True) := by
  intro r
  induction r with
  | nil =>
    intro m cs h _ _ _
    rw [List.append_nil] at h
    subst h
    rw [colM]
    exact col_nil
  | cons s r ih =>
    intro m cs h hnd hcs hneg
    have hs := hL s (by rw [h]; simp)
    have hrng := maxL_rng hcs
    have hgs := hneg s (by simp)
    have nd := List.nodup_cons.1 hnd
    have ih0 : ∀ c, 0 ≤ c → c < most → E.F 44 [.ptr 100000 0 0, .sl 100001 0 500, .sl 100002 (m.length + 1) r.length, .int .i64 most] (coH g (cs.set s.toNat c) L) = some ((.bool (colM g most r (cs.set s.toNat c)).isSome, coH g ((colM g most r (cs.set s.toNat c)).getD (cs.set s.toNat c)) L), True) := by
      intro c h0 hc
      have := ih (m ++ [s]) (cs.set s.toNat c) (by rw [h]; simp) nd.2 (okC_set hcs (by omega) (by omega)) (fun t ht => by
        have hne : s ≠ t := fun e => nd.1 (e ▸ ht)
        have ht0 := hL t (by rw [h]; simp [ht])
        rw [getD_set_ne (by omega)]
        exact hneg t (by simp [ht]))
      rwa [List.length_append, List.length_singleton] at this
    · obtain ⟨e, lp⟩ := col_loop (g := g) (T := takW g s cs) h hl takW_len hs hcs hm hrng hgs (fun c => colM g most r (cs.set s.toNat c)) ih0 (min most (maxL cs + 2)).toNat 0 (by omega) (by omega)
      have a := taken_ev (g := g) (cs := cs) (s := s) hg hs (by rw [hcs.1]; omega) (fun c hc => by have := (hcs.2 c hc).2; omega)
      have b := maxL_ev hcs
      have gL := gd_map h
      have q3 : ((r.length : Int) + 1 == 0) = false := by simp; omega
      have t5 : List.take 500 (cs.map (AV.int .i64)) = cs.map (AV.int .i64) := List.take_of_length_le (by simp [hcs.1])
      have q4 : (0 < (r.length : Int) + 1) = True := eq_true (by omega)
      rw [colM]
      have hR : ∀ x, tryM (fun c => colM g most r (cs.set s.toNat c)) (takW g s cs) (min most (maxL cs + 2)).toNat 0 = some x → x.length = cs.length := fun x hx => by
        obtain ⟨d, _, _, _, h4⟩ := tryM_some _ _ hx
        have := colM_len h4
        rwa [List.length_set] at this
      generalize tryM (fun c => colM g most r (cs.set s.toNat c)) (takW g s cs) (min most (maxL cs + 2)).toNat 0 = R at lp hR ⊢
      generalize hT : takW g s cs = T at lp a
      have hT8 : T.length = 8 := by rw [← hT]; exact takW_len
      have k1 := take8 hT8
      have k2 := put8 hT8
      simp only [coH, coV, gO, iR, gR, List.cons_append, List.nil_append] at lp a
      rw [e44]
      cases R with
      | none =>
        simp only [Option.isSome_none, Option.getD_none, Bool.false_eq_true, if_false] at lp
        simp (maxSteps := 100000000) only [ivc, anf, vlen, vbuiltin, nilR, salloc, eq_self, Nat.reduceEqDiff, Nat.reduceLT, Nat.reduceLeDiff, Nat.reduceAdd, Nat.reduceBEq, Int.reduceLE, Int.reduceNeg, Int.reduceToNat, reduceCtorEq, ↓reduceIte, tyb, ↓zrep, zs_len, t90z, coH, iR, gO, ldb, agg_flats, agg_imm, q3, q4, t5, gL, a, b, hT8, k2, lp]
      | some x =>
        simp only [Option.isSome_some, Option.getD_some, if_true] at lp
        simp (maxSteps := 100000000) only [ivc, anf, vlen, vbuiltin, nilR, salloc, eq_self, Nat.reduceEqDiff, Nat.reduceLT, Nat.reduceLeDiff, Nat.reduceAdd, Nat.reduceBEq, Int.reduceLE, Int.reduceNeg, Int.reduceToNat, reduceCtorEq, ↓reduceIte, tyb, ↓zrep, zs_len, t90z, coH, iR, gO, ldb, agg_flats, agg_imm, q3, q4, t5, gL, a, b, hT8, k2, lp]
        exact some_true (hR x rfl)
end Go.Proofs.YtikppcfabnnhfaaDoor
