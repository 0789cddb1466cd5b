/- Colours. -/
import Derived.Test.YtikppcfabnnhfaaDoorCNC22
import Derived.Test.YtikppcfabnnhfaaDoorCNC18
import Derived.Test.YtikppcfabnnhfaaDoorCNS11
import Derived.Test.YtikppcfabnnhfaaDoorCNS6
namespace Go.Proofs.YtikppcfabnnhfaaDoor
open Go Go.Aw
set_option linter.unusedSimpArgs false
set_option linter.unusedVariables false
set_option maxRecDepth 100000
set_option maxHeartbeats 40000000
/-- Colours from the n-th selector on. -/
def colI (g : List Int) : Nat → Nat → List Int → List Int
  | 0, _, cs => cs
  | k + 1, n, cs => colI g k (n + 1) (if hasW g 0 n = true then cs.set n (leastL (takW g n cs) 0) else cs)
/-- Behind n selectors: no colour above their number, the rest has none. -/
def colOk (n : Nat) (cs : List Int) : Prop := (∀ i : Nat, i < n → i < cs.length → -1 ≤ cs.getD i 0 ∧ cs.getD i 0 ≤ i) ∧ ∀ i : Nat, n ≤ i → i < cs.length → cs.getD i 0 = -1
theorem colOk_bd {n : Nat} {cs : List Int} (h : colOk n cs) (hl : cs.length ≤ 500) : ∀ c ∈ cs, -1 ≤ c ∧ c < 500 := fun c hc => by
  obtain ⟨i, hi, rfl⟩ := List.mem_iff_getElem.1 hc
  rw [← get_D hi]
  by_cases hn : i < n
  · have := h.1 i hn hi
    omega
  · rw [h.2 i (by omega) hi]; omega
/-- All numbers below a bound stand in a list: it is no shorter. -/
theorem pigeon2 : ∀ {n : Nat} {l : List Int}, (∀ j : Int, 0 ≤ j → j < n → j ∈ l) → n ≤ l.length
  | 0, l, _ => Nat.zero_le _
  | n + 1, l, h => by
    have hm := h n (by omega) (by omega)
    have hl := List.length_erase_of_mem hm
    have hp := List.length_pos_of_mem hm
    have := pigeon2 (n := n) (l := l.erase (n : Int)) (fun j h0 h1 => (List.mem_erase_of_ne (by omega)).2 (h j h0 (by omega)))
    omega
theorem least_le {g cs : List Int} {n : Nat} (h : colOk n cs) (hl : cs.length ≤ 500) : 0 ≤ leastL (takW g n cs) 0 ∧ leastL (takW g n cs) 0 ≤ n := by
  obtain ⟨⟨a, b⟩, c, _⟩ := least_ok (takW_r (g := g) (cs := cs) (s := n)) takW_len
  refine ⟨a, ?_⟩
  have := pigeon2 (n := (leastL (takW g n cs) 0).toNat) (l := cs.take n) (fun j h0 h1 => by
    have hj := c j h0 (by omega)
    obtain ⟨i, hi, e, _⟩ := (takenW ⟨h0, by omega⟩ (fun c hc => by have := colOk_bd h hl c hc; omega)).1 hj
    have hin : i < n := by
      rcases Nat.lt_or_ge i n with h' | h'
      · exact h'
      · have := h.2 i h' hi
        rw [get_D hi] at this
        omega
    rw [← e]
    exact List.mem_iff_getElem.2 ⟨i, by rw [List.length_take]; omega, by rw [List.getElem_take]⟩)
  rw [List.length_take] at this
  omega
theorem colOk_set {g cs : List Int} {n : Nat} (h : colOk n cs) (hl : cs.length ≤ 500) : colOk (n + 1) (if hasW g 0 n = true then cs.set n (leastL (takW g n cs) 0) else cs) := by
  have hb := least_le (g := g) h hl
  split
  · refine ⟨fun i hi hil => ?_, fun i hi hil => ?_⟩
    · rw [List.length_set] at hil
      rw [List.getD_eq_getElem?_getD, List.getElem?_set]
      by_cases e : n = i
      · subst e
        rw [if_pos rfl, if_pos hil]
        show -1 ≤ leastL (takW g n cs) 0 ∧ leastL (takW g n cs) 0 ≤ n
        omega
      · rw [if_neg e, ← List.getD_eq_getElem?_getD]
        exact h.1 i (by omega) hil
    · rw [List.length_set] at hil
      rw [List.getD_eq_getElem?_getD, List.getElem?_set, if_neg (by omega), ← List.getD_eq_getElem?_getD]
      exact h.2 i (by omega) hil
  · refine ⟨fun i hi hil => ?_, fun i hi hil => h.2 i (by omega) hil⟩
    by_cases e : n = i
    · subst e
      rw [h.2 n (Nat.le_refl _) hil]; omega
    · exact h.1 i (by omega) hil
theorem colOk_ms {n : Nat} : colOk 0 (ms n) := ⟨fun i h => by omega, fun i _ h => ms_get (by rwa [ms_len] at h)⟩
theorem colI_len {g : List Int} : ∀ {k n : Nat} {cs : List Int}, (colI g k n cs).length = cs.length
  | 0, _, _ => rfl
  | k + 1, n, cs => by
    rw [colI, colI_len]
    split
    · exact List.length_set
    · rfl
def coJ (g cs : List Int) : HL := [(60000, gO g), (60001, iR cs)]
theorem cl_loop {g : List Int} (hg : g.length = 4008) : ∀ (k n : Nat) (cs : List Int), n + k = cs.length → cs.length ≤ 500 → colOk n cs →
    E.L 29 8 [.ptr 60000 0 0, .sl 60001 0 cs.length, .int .i64 cs.length, .int .i64 n] (coJ g cs) = some ((.exit 0, [.ptr 60000 0 0, .sl 60001 0 cs.length, .int .i64 cs.length, .int .i64 cs.length], coJ g (colI g k n cs)), True) := by
  intro k
  induction k with
  | zero =>
    intro n cs h hl _
    have : n = cs.length := by omega
    subst this
    have q : ((cs.length : Int) < cs.length) = False := eq_false (by omega)
    rw [l29_8]
    simp (maxSteps := 100000000) only [ivc, anf, nilR, eq_self, Nat.reduceEqDiff, Nat.reduceLT, Nat.reduceLeDiff, Nat.reduceAdd, Nat.reduceBEq, reduceCtorEq, ↓reduceIte, tyb, coJ, gO, iR, ldb, q, colI]
  | succ k ih =>
    intro n cs h hl hok
    have q1 : ((n : Int) < cs.length) = True := eq_true (by omega)
    have q2 : (0 ≤ (n : Int) ∧ (n : Int) < cs.length) = True := eq_true (by omega)
    have hw : IntKind.i64.wrap ((n : Int) + 1) = n + 1 := wrap_id (by omega) (by omega)
    have c := hasr_ev (l := g) (c := 0) (n := n) (by omega) (by omega) (by omega)
    have hn : ((n : Int)).toNat = n := by omega
    have k1 := getI (l := cs) (i := n) (by omega)
    have hb := colOk_bd hok hl
    have tk := taken_ev (g := g) (cs := cs) (s := n) hg ⟨by omega, by omega⟩ (by omega) (fun c h => by have := hb c h; omega)
    have hok' := colOk_set (g := g) hok hl
    by_cases hb2 : hasW g 0 n = true
    · rw [if_pos hb2] at hok'
      have hT8 : (takW g n cs).length = 8 := takW_len
      rw [colI, if_pos hb2]
      generalize takW g n cs = T at tk hT8 hok' ⊢
      have le := least_ev hT8
      generalize leastL T 0 = v at le hok' ⊢
      have t1 := take8 hT8
      have t2 := put8 hT8
      have ih' := ih (n + 1) (cs.set n v) (by rw [List.length_set]; omega) (by rw [List.length_set]; omega) hok'
      rw [hb2] at c
      simp only [coJ, gO, iR, gR, List.length_set, Int.natCast_add, Int.cast_ofNat_Int] at ih' tk
      rw [l29_8]
      simp (maxSteps := 100000000) only [ivc, anf, vop, nilR, salloc, eq_self, Nat.reduceEqDiff, Nat.reduceLT, Nat.reduceLeDiff, Nat.reduceAdd, Nat.reduceMul, Nat.reduceBEq, reduceCtorEq, ↓reduceIte, tyb, ↓zrep, zs_len, t90z, coJ, gO, iR, ldb, agg_flats, agg_imm, q1, hn, k1, hw, c, tk, hT8, t2, le, set_map, ih']
      exact some_true (by omega)
    · rw [if_neg hb2] at hok'
      rw [colI, if_neg hb2]
      have ih' := ih (n + 1) cs (by omega) hl hok'
      have hb3 : hasW g 0 n = false := by simpa using hb2
      rw [hb3] at c
      simp only [coJ, gO, iR, Int.natCast_add, Int.cast_ofNat_Int] at ih'
      rw [l29_8]
      simp (maxSteps := 100000000) only [ivc, anf, vop, nilR, eq_self, Nat.reduceEqDiff, Nat.reduceLT, Nat.reduceLeDiff, Nat.reduceAdd, Nat.reduceBEq, reduceCtorEq, ↓reduceIte, tyb, coJ, gO, iR, ldb, agg_imm, q1, hw, c, ih']
def colsM (g : List Int) : List Int := colI g (szM g 500) 0 (ms (szM g 500))
theorem colours_ev {w : Wd} (ok : ckM w = 0 → okW w) : E.F 29 [wdV w] [] = some ((if ckM w = 0 then .tup [.ro 1 ((colsM (graphW w)).map (AV.int .i64)), .int .i64 0] else .tup [.ro 1 [], .int .i64 (ckM w)], []), True) := by
  have h1 := check_ev (w := w)
  rw [e29]
  by_cases h : ckM w = 0
  · rw [if_pos h]
    rw [h] at h1
    have h2 := graph_ev (ok h)
    have hg : (graphW w).length = 4008 := graphW_len
    unfold colsM
    generalize graphW w = g at h2 hg ⊢
    have h3 := size_ev hg
    have hz := szM_le g 500
    generalize szM g 500 = z at h3 hz ⊢
    have h4 := rep_ms (n := z) (by omega)
    have lp := cl_loop hg z 0 (ms z) (by rw [ms_len]; omega) (by rw [ms_len]; omega) colOk_ms
    have hl : (ms z).length = z := ms_len
    generalize ms z = M at h4 lp hl ⊢
    simp only [hl, gO, iR, gR, coJ, Int.natCast_zero, wdV] at h1 h2 h3 h4 lp
    simp (maxSteps := 100000000) only [ivc, anf, vlen, vbuiltin, nilR, salloc, eq_self, Nat.reduceEqDiff, Nat.reduceLT, Nat.reduceLeDiff, Nat.reduceAdd, Nat.reduceMul, Nat.reduceBEq, Int.reduceNeg, reduceCtorEq, ↓reduceIte, tyb, wdV, ldb, agg_imm, h1, h2, h3, h4, lp]
    rw [List.take_of_length_le (by rw [List.length_map, colI_len, hl]; exact Nat.le_refl _)]
  · rw [if_neg h]
    have h' : (ckM w != 0) = true := bne_iff_ne.2 h
    simp only [wdV] at h1
    simp (maxSteps := 100000000) only [ivc, anf, nilR, salloc, eq_self, Nat.reduceEqDiff, Nat.reduceLT, Nat.reduceLeDiff, Nat.reduceAdd, Nat.reduceBEq, Int.reduceNeg, ↓reduceIte, tyb, wdV, h1, h']
end Go.Proofs.YtikppcfabnnhfaaDoor
