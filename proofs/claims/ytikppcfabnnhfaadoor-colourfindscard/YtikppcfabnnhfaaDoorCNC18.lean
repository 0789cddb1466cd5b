/- CheckColours. -/
import Derived.Test.YtikppcfabnnhfaaDoorCNC17
namespace Go.Proofs.YtikppcfabnnhfaaDoor
open Go Go.Aw
set_option linter.unusedSimpArgs false
set_option linter.unusedVariables false
set_option maxRecDepth 100000
set_option maxHeartbeats 40000000
def badC (g : List Int) (n c : Int) : Bool := ((c == -1) == hasW g 0 n) || decide (c < -1) || decide (500 ≤ c)
def anyB (g : List Int) : List Int → Int → Bool
  | [], _ => false
  | c :: r, n => badC g n c || anyB g r (n + 1)
theorem bad_loop {g cs : List Int} (hg : g.length = 4008) (hl : cs.length ≤ 500) : ∀ (r m : List Int), cs = m ++ r →
    ∃ e : Int, E.L 62 5 [gR g, .ro 1 (cs.map (AV.int .i64)), .int .i64 0, .ro 1 (cs.map (AV.int .i64)), .int .i64 cs.length, .int .i64 m.length] [] = some ((if anyB g r m.length then .ret else .exit 0, [gR g, .ro 1 (cs.map (AV.int .i64)), .int .i64 (if anyB g r m.length then 3 else 0), .ro 1 (cs.map (AV.int .i64)), .int .i64 cs.length, .int .i64 e], []), True) := by
  intro r
  induction r with
  | nil =>
    intro m h
    rw [List.append_nil] at h
    subst h
    refine ⟨cs.length, ?_⟩
    rw [l62_5]
    simp (maxSteps := 100000000) only [ivc, anf, nilR, eq_self, Nat.reduceEqDiff, Nat.reduceLT, Nat.reduceAdd, Nat.reduceBEq, Int.reduceNeg, reduceCtorEq, ↓reduceIte, tyb, gR, Int.lt_irrefl, anyB]
  | cons x r ih =>
    intro m h
    have hn : m.length + (r.length + 1) = cs.length := by rw [h]; simp
    have hi' : (m.length : Int) < cs.length := by omega
    have hgd := getD_map (f := AV.int .i64) (show cs[m.length]? = some x by rw [h]; simp)
    have hw : IntKind.i64.wrap ((m.length : Int) + 1) = m.length + 1 := wrap_id (by omega) (by omega)
    have hc : (0 ≤ (m.length : Int)) = True := eq_true (by omega)
    have a := hasr_ev (l := g) (c := 0) (n := m.length) (by omega) (by omega) (by omega)
    by_cases hb : badC g m.length x = true
    · refine ⟨m.length, ?_⟩
      have he : anyB g (x :: r) m.length = true := by rw [anyB, hb]; rfl
      rw [he]
      have hb2 : (((x == -1) == hasW g 0 m.length) || decide (x < -1) || decide (500 ≤ x)) = true := hb
      rw [l62_5]
      cases h1 : ((x == -1) == hasW g 0 m.length) with
      | true => simp (maxSteps := 100000000) only [ivc, anf, vop, nilR, eq_self, Nat.reduceEqDiff, Nat.reduceLT, Nat.reduceAdd, Nat.reduceBEq, Int.reduceNeg, reduceCtorEq, ↓reduceIte, tyb, gR, hi', hgd, hc, a, h1]
      | false =>
        rw [h1] at hb2
        by_cases h2 : x < -1
        · simp (maxSteps := 100000000) only [ivc, anf, vop, nilR, eq_self, Nat.reduceEqDiff, Nat.reduceLT, Nat.reduceAdd, Nat.reduceBEq, Int.reduceNeg, reduceCtorEq, ↓reduceIte, tyb, gR, hi', hgd, hc, a, h1, h2]
        · have h3 : 500 ≤ x := by simpa [h2] using hb2
          simp (maxSteps := 100000000) only [ivc, anf, vop, nilR, eq_self, Nat.reduceEqDiff, Nat.reduceLT, Nat.reduceAdd, Nat.reduceBEq, Int.reduceNeg, reduceCtorEq, ↓reduceIte, tyb, gR, hi', hgd, hc, a, h1, h2, h3]
    · obtain ⟨e, ih'⟩ := ih (m ++ [x]) (by simp [h])
      refine ⟨e, ?_⟩
      have hb' : badC g m.length x = false := by simpa using hb
      have he : anyB g (x :: r) m.length = anyB g r (m.length + 1) := by rw [anyB, hb']; rfl
      rw [he]
      simp only [List.length_append, List.length_cons, List.length_nil, Nat.zero_add, Int.natCast_add, Int.cast_ofNat_Int, gR] at ih'
      have hb2 : (((x == -1) == hasW g 0 m.length) || decide (x < -1) || decide (500 ≤ x)) = false := hb'
      rw [Bool.or_eq_false_iff, Bool.or_eq_false_iff] at hb2
      obtain ⟨⟨h1, h2⟩, h3⟩ := hb2
      have h2' : ¬ x < -1 := by simpa using h2
      have h3' : ¬ 500 ≤ x := by simpa using h3
      rw [l62_5]
      simp (maxSteps := 100000000) only [ivc, anf, vop, nilR, eq_self, Nat.reduceEqDiff, Nat.reduceLT, Nat.reduceAdd, Nat.reduceBEq, Int.reduceNeg, reduceCtorEq, ↓reduceIte, tyb, gR, hi', hgd, hw, hc, a, h1, h2', h3', ih']
def clash (g cs : List Int) : List Int → Int → Bool
  | [], _ => false
  | c :: r, n => (decide (0 ≤ c) && hasW (takW g n cs) 0 c) || clash g cs r (n + 1)
theorem clash_loop {g cs : List Int} (hg : g.length = 4008) (hl : cs.length ≤ 500) (hcs : ∀ c ∈ cs, c < 500) : ∀ (r m : List Int), cs = m ++ r →
    ∃ e : Int, E.L 62 11 [gR g, .ro 1 (cs.map (AV.int .i64)), .int .i64 0, .ro 1 (cs.map (AV.int .i64)), .int .i64 cs.length, .int .i64 m.length] [] = some ((if clash g cs r m.length then .ret else .exit 2, [gR g, .ro 1 (cs.map (AV.int .i64)), .int .i64 (if clash g cs r m.length then 250 else 0), .ro 1 (cs.map (AV.int .i64)), .int .i64 cs.length, .int .i64 e], []), True) := by
  intro r
  induction r with
  | nil =>
    intro m h
    rw [List.append_nil] at h
    subst h
    refine ⟨cs.length, ?_⟩
    rw [l62_11]
    simp (maxSteps := 100000000) only [ivc, anf, nilR, eq_self, Nat.reduceEqDiff, Nat.reduceLT, Nat.reduceAdd, Nat.reduceBEq, reduceCtorEq, ↓reduceIte, tyb, gR, Int.lt_irrefl, clash]
  | cons x r ih =>
    intro m h
    have hn : m.length + (r.length + 1) = cs.length := by rw [h]; simp
    have hi' : (m.length : Int) < cs.length := by omega
    have hx := hcs x (by rw [h]; simp)
    have hgd := getD_map (f := AV.int .i64) (show cs[m.length]? = some x by rw [h]; simp)
    have hw : IntKind.i64.wrap ((m.length : Int) + 1) = m.length + 1 := wrap_id (by omega) (by omega)
    have hc : (0 ≤ (m.length : Int)) = True := eq_true (by omega)
    have a := taken_ev (g := g) (cs := cs) (s := m.length) hg ⟨by omega, by omega⟩ (by omega) (fun c hc => by have := hcs c hc; omega)
    have hT8 : (takW g m.length cs).length = 8 := takW_len
    obtain ⟨e, ih'⟩ := ih (m ++ [x]) (by simp [h])
    simp only [List.length_append, List.length_cons, List.length_nil, Nat.zero_add, Int.natCast_add, Int.cast_ofNat_Int, gR] at ih'
    by_cases h0 : 0 ≤ x
    · have b := hasr_ev (l := takW g m.length cs) (c := 0) (n := x) h0 (by omega) (by omega)
      by_cases hh : hasW (takW g m.length cs) 0 x = true
      · refine ⟨m.length, ?_⟩
        have he : clash g cs (x :: r) m.length = true := by rw [clash, hh]; simp [h0]
        rw [he]
        rw [hh] at b
        generalize takW g m.length cs = T at a b hT8
        have k1 := take8 hT8
        have k2 := put8 hT8
        simp only [gR] at a
        rw [l62_11]
        simp (maxSteps := 100000000) only [ivc, anf, nilR, salloc, eq_self, Nat.reduceEqDiff, Nat.reduceLT, Nat.reduceLeDiff, Nat.reduceAdd, Nat.reduceBEq, reduceCtorEq, ↓reduceIte, tyb, ↓zrep, zs_len, t90z, gR, agg_flats, agg_imm, hi', hgd, hc, a, b, h0, hT8, k2]
      · refine ⟨e, ?_⟩
        have hh' : hasW (takW g m.length cs) 0 x = false := by simpa using hh
        have he : clash g cs (x :: r) m.length = clash g cs r (m.length + 1) := by rw [clash, hh']; simp
        rw [he]
        rw [hh'] at b
        generalize takW g m.length cs = T at a b hT8
        have k1 := take8 hT8
        have k2 := put8 hT8
        simp only [gR] at a
        rw [l62_11]
        simp (maxSteps := 100000000) only [ivc, anf, nilR, salloc, eq_self, Nat.reduceEqDiff, Nat.reduceLT, Nat.reduceLeDiff, Nat.reduceAdd, Nat.reduceBEq, reduceCtorEq, ↓reduceIte, tyb, ↓zrep, zs_len, t90z, gR, agg_flats, agg_imm, hi', hgd, hw, hc, a, b, h0, hT8, k2, ih']
    · refine ⟨e, ?_⟩
      have he : clash g cs (x :: r) m.length = clash g cs r (m.length + 1) := by rw [clash]; simp [h0]
      rw [he]
      generalize takW g m.length cs = T at a hT8
      have k1 := take8 hT8
      have k2 := put8 hT8
      simp only [gR] at a
      rw [l62_11]
      simp (maxSteps := 100000000) only [ivc, anf, nilR, salloc, eq_self, Nat.reduceEqDiff, Nat.reduceLT, Nat.reduceLeDiff, Nat.reduceAdd, Nat.reduceBEq, reduceCtorEq, ↓reduceIte, tyb, ↓zrep, zs_len, t90z, gR, agg_flats, hi', hgd, hw, hc, a, h0, hT8, k2, ih']
def ccW (g cs : List Int) : Int := if cs.length = szM g 500 then if anyB g cs 0 then 3 else if clash g cs cs 0 then 250 else 0 else 4
theorem anyB_lt {g : List Int} : ∀ {l : List Int} {n : Int}, anyB g l n = false → ∀ c ∈ l, -1 ≤ c ∧ c < 500 := by
  intro l
  induction l with
  | nil => intro n _ c h; cases h
  | cons x l ih =>
    intro n h c hc
    rw [anyB, Bool.or_eq_false_iff] at h
    rcases List.mem_cons.1 hc with e | hc
    · subst e
      have h1 := h.1
      simp only [badC, Bool.or_eq_false_iff, decide_eq_false_iff_not] at h1
      omega
    · exact ih h.2 c hc
theorem cc62_ev {g cs : List Int} (hg : g.length = 4008) : E.F 62 [gR g, .ro 1 (cs.map (AV.int .i64))] [] = some ((.int .i64 (ccW g cs), []), True) := by
  have h1 := size_ev hg
  have hsz := szM_le g 500
  by_cases h : cs.length = szM g 500
  · have hb : ((cs.length : Int) != (cs.length : Nat)) = false := by simp
    have hl5 : cs.length ≤ 500 := h ▸ hsz
    obtain ⟨e, l1⟩ := bad_loop hg hl5 cs [] rfl
    rw [← h] at h1
    simp only [gR, List.length_nil, Int.natCast_zero] at h1 l1
    by_cases h2 : anyB g cs 0 = true
    · have hcc : ccW g cs = 3 := by unfold ccW; rw [if_pos h, if_pos h2]
      simp only [h2, if_true] at l1
      rw [hcc, e62]
      simp (maxSteps := 100000000) only [ivc, anf, vlen, vbuiltin, nilR, eq_self, Nat.reduceEqDiff, Nat.reduceLT, Nat.reduceLeDiff, Nat.reduceAdd, Nat.reduceBEq, Int.reduceNeg, reduceCtorEq, ↓reduceIte, tyb, gR, h1, l1]
    · have h2' : anyB g cs 0 = false := by simpa using h2
      obtain ⟨e2, l2⟩ := clash_loop hg hl5 (fun c hc => (anyB_lt h2' c hc).2) cs [] rfl
      simp only [gR, List.length_nil, Int.natCast_zero] at l2
      simp only [h2', Bool.false_eq_true, if_false] at l1
      by_cases h3 : clash g cs cs 0 = true
      · have hcc : ccW g cs = 250 := by unfold ccW; rw [if_pos h, if_neg h2, if_pos h3]
        simp only [h3, if_true] at l2
        rw [hcc, e62]
        simp (maxSteps := 100000000) only [ivc, anf, vlen, vbuiltin, nilR, eq_self, Nat.reduceEqDiff, Nat.reduceLT, Nat.reduceLeDiff, Nat.reduceAdd, Nat.reduceBEq, Int.reduceNeg, reduceCtorEq, ↓reduceIte, tyb, gR, h1, l1, l2]
      · have h3' : clash g cs cs 0 = false := by simpa using h3
        have hcc : ccW g cs = 0 := by unfold ccW; rw [if_pos h, if_neg h2, if_neg h3]
        simp only [h3', Bool.false_eq_true, if_false] at l2
        rw [hcc, e62]
        simp (maxSteps := 100000000) only [ivc, anf, vlen, vbuiltin, nilR, eq_self, Nat.reduceEqDiff, Nat.reduceLT, Nat.reduceLeDiff, Nat.reduceAdd, Nat.reduceBEq, Int.reduceNeg, reduceCtorEq, ↓reduceIte, tyb, gR, h1, l1, l2]
  · have hb : ((cs.length : Int) != (szM g 500 : Nat)) = true := by simp; omega
    have hcc : ccW g cs = 4 := by unfold ccW; rw [if_neg h]
    simp only [gR] at h1
    rw [hcc, e62]
    simp (maxSteps := 100000000) only [ivc, anf, vlen, vbuiltin, nilR, eq_self, Nat.reduceEqDiff, Nat.reduceLT, Nat.reduceLeDiff, Nat.reduceAdd, Nat.reduceBEq, Int.reduceNeg, reduceCtorEq, ↓reduceIte, tyb, gR, h1, hb]
theorem cc_ev {w : Wd} {cs : List Int} (ok : ckM w = 0 → okW w) : E.F 26 [wdV w, .ro 1 (cs.map (AV.int .i64))] [] = some ((.int .i64 (if ckM w = 0 then ccW (graphW w) cs else ckM w), []), True) := by
  have h1 := check_ev (w := w)
  rw [e26]
  by_cases h : ckM w = 0
  · rw [if_pos h]
    rw [h] at h1
    have h2 := graph_ev (ok h)
    have hg : (graphW w).length = 4008 := graphW_len
    generalize graphW w = g at h2 hg ⊢
    have h3 := cc62_ev (cs := cs) hg
    simp only [wdV] at h1 h2
    simp only [gO, gR] at h2 h3
    simp (maxSteps := 100000000) only [ivc, anf, nilR, salloc, eq_self, Nat.reduceEqDiff, Nat.reduceLT, Nat.reduceLeDiff, Nat.reduceAdd, Nat.reduceMul, Nat.reduceBEq, reduceCtorEq, ↓reduceIte, tyb, wdV, ldb, agg_imm, h1, h2, h3]
  · rw [if_neg h]
    have h' : (ckM w != 0) = true := by simp [h]
    simp only [wdV] at h1
    simp (maxSteps := 100000000) only [ivc, anf, nilR, salloc, eq_self, Nat.reduceEqDiff, Nat.reduceLT, Nat.reduceLeDiff, Nat.reduceAdd, Nat.reduceBEq, reduceCtorEq, ↓reduceIte, tyb, wdV, h1, h']
end Go.Proofs.YtikppcfabnnhfaaDoor
