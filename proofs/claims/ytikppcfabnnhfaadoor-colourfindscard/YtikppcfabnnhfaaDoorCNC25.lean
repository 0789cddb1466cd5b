/- Pack: all. -/
import Derived.Test.YtikppcfabnnhfaaDoorCNC24
namespace Go.Proofs.YtikppcfabnnhfaaDoor
open Go Go.Aw
set_option linter.unusedSimpArgs false
set_option linter.unusedVariables false
set_option maxRecDepth 100000
set_option maxHeartbeats 40000000
def topM (offs : List Int) (vec : List Et) : Int := offs.foldl (fun n o => max n (o + 1)) vec.length
theorem top_fold : ∀ {offs : List Int} {n : Int}, n ≤ offs.foldl (fun n o => max n (o + 1)) n ∧ ∀ o ∈ offs, o < offs.foldl (fun n o => max n (o + 1)) n
  | [], n => ⟨Int.le_refl _, fun _ h => by cases h⟩
  | x :: offs, n => by
    obtain ⟨h1, h2⟩ := top_fold (offs := offs) (n := max n (x + 1))
    rw [List.foldl_cons]
    refine ⟨by omega, fun o ho => ?_⟩
    rcases List.mem_cons.1 ho with rfl | ho
    · omega
    · exact h2 o ho
theorem top_le {N : Int} : ∀ {offs : List Int} {n : Int}, n ≤ N → (∀ o ∈ offs, o < N) → offs.foldl (fun n o => max n (o + 1)) n ≤ N
  | [], _, h, _ => h
  | x :: offs, n, h, ho => by
    rw [List.foldl_cons]
    exact top_le (offs := offs) (by have := ho x (by simp); omega) (fun o h => ho o (by simp [h]))
theorem fAt_rng {ok : Int → Bool} : ∀ {k : Nat} {a : Int}, a ≤ fAt ok k a ∧ fAt ok k a ≤ a + k
  | 0, a => by simp [fAt]
  | k + 1, a => by
    obtain ⟨h1, h2⟩ := fAt_rng (ok := ok) (k := k) (a := a + 1)
    rw [fAt]
    split <;> omega
def growM (vec t : List Et) (a : Int) : List Et := if 0 < t.length ∧ (vec.length : Int) < a + t.length then vec ++ reN (a + t.length - vec.length).toNat else vec
def placeA (offs : List Int) (vec t : List Et) : Int := fAt (okA offs vec t) (topM offs vec).toNat 0
def packM (cs : List Int) : List (List Et) → List Et × List Int → List Et × List Int
  | [], p => p
  | c :: r, p => packM cs r (putL (tblM cs c) (placeA p.2 p.1 (tblM cs c)) (growM p.1 (tblM cs c) (placeA p.2 p.1 (tblM cs c))), p.2 ++ [placeA p.2 p.1 (tblM cs c)])
theorem growM_len {vec t : List Et} {a : Int} (h0 : 0 ≤ a) : (vec.length ≤ (growM vec t a).length) ∧ (t = [] ∨ a + t.length ≤ ((growM vec t a).length : Int)) ∧ ((growM vec t a).length : Int) ≤ max (vec.length : Int) (a + t.length) := by
  unfold growM
  split
  · simp only [List.length_append, reN, List.length_replicate]
    omega
  · rename_i h
    refine ⟨Nat.le_refl _, ?_, by omega⟩
    by_cases ht : t.length = 0
    · exact .inl (List.eq_nil_of_length_eq_zero ht)
    · exact .inr (by omega)
theorem tbl_len {cs : List Int} {c : List Et} (h : ∀ e ∈ c, hasC cs e) : (tblM cs c).length ≤ 500 := by
  obtain ⟨_, a2, _⟩ := tsM_rng (n := 0) h (by omega) (by omega)
  rw [tblM, tuM_len, reN, List.length_replicate]
  omega
def pkH (w : Wd) (offs : List Int) (vec : List Et) : HL := [(60000, ⟨true, 3, [wdV w]⟩), (60001, ⟨true, 1, [.sl 60003 0 vec.length]⟩), (60002, iR offs), (60003, ⟨false, 2, vec.map enV⟩)]
theorem pack_loop {w : Wd} {cs : List Int} (hcl : w.classes.length ≤ 200) (hc : ∀ c ∈ w.classes, c.length ≤ 100 ∧ ∀ e ∈ c, hasC cs e) : ∀ (r m : List (List Et)) (vec : List Et) (offs : List Int), w.classes = m ++ r → offs.length = m.length → (∀ o ∈ offs, 0 ≤ o) → topM offs vec ≤ 501 * m.length →
    EP.L 24 9 [.ro 1 (cs.map (AV.int .i64)), .ptr 60000 0 0, .ptr 60001 0 0, .sl 60002 0 offs.length, pkF, .int .i64 w.classes.length, .int .i64 m.length] (pkH w offs vec)
    = some ((.exit 0, [.ro 1 (cs.map (AV.int .i64)), .ptr 60000 0 0, .ptr 60001 0 0, .sl 60002 0 (packM cs r (vec, offs)).2.length, pkF, .int .i64 w.classes.length, .int .i64 w.classes.length], pkH w (packM cs r (vec, offs)).2 (packM cs r (vec, offs)).1), True) := by
  intro r
  induction r with
  | nil =>
    intro m vec offs h hol ho0 hT
    rw [List.append_nil] at h
    have q : ((w.classes.length : Int) < w.classes.length) = False := eq_false (by omega)
    rw [← h, l24_9P]
    simp (maxSteps := 100000000) only [ivc, nilR, eq_self, Nat.reduceEqDiff, Nat.reduceLT, Nat.reduceLeDiff, Nat.reduceAdd, Nat.reduceBEq, Int.reduceNeg, reduceCtorEq, ↓reduceIte, anfP, tyb, pkH, pkF, iR, wdV, q, packM]
  | cons c r ih =>
    intro m vec offs h hol ho0 hT
    have hn : m.length + (r.length + 1) = w.classes.length := by rw [h]; simp
    have hi' : (m.length : Int) < w.classes.length := by omega
    have hm : w.classes[m.length]? = some c := by rw [h]; simp
    obtain ⟨c1, c2⟩ := hc c (List.mem_of_getElem? hm)
    have tb := table_ev (w := w) hm (by omega) c2 (by omega)
    have tl := tbl_len c2
    have hw : IntKind.i64.wrap ((m.length : Int) + 1) = m.length + 1 := wrap_id (by omega) (by omega)
    obtain ⟨t1, t2⟩ := top_fold (offs := offs) (n := (vec.length : Int))
    change (vec.length : Int) ≤ topM offs vec at t1
    change ∀ o ∈ offs, o < topM offs vec at t2
    have hpk : packM cs (c :: r) (vec, offs) = packM cs r (putL (tblM cs c) (placeA offs vec (tblM cs c)) (growM vec (tblM cs c) (placeA offs vec (tblM cs c))), offs ++ [placeA offs vec (tblM cs c)]) := rfl
    rw [hpk]
    generalize tblM cs c = t at tb tl ⊢
    have al := at_loop (w := w) (cs := cs) (nc := w.classes.length) (ci := m.length) t2 t1 (by omega) (by omega) (t := t) (by omega) (topM offs vec).toNat 0 (by omega) (by omega)
    have ar := fAt_rng (ok := okA offs vec t) (k := (topM offs vec).toNat) (a := 0)
    change EP.L 24 13 _ _ = some ((.exit 2, [_, _, _, _, _, _, .int .i64 (placeA offs vec t), _, _], _), True) at al
    change 0 ≤ placeA offs vec t ∧ placeA offs vec t ≤ 0 + (topM offs vec).toNat at ar
    generalize placeA offs vec t = a at al ar ⊢
    obtain ⟨g1, g2, g3⟩ := growM_len (vec := vec) (t := t) ar.1
    have pl := put_loop (w := w) (cs := cs) (offs := offs ++ [a]) (nc := w.classes.length) (ci := m.length) (a := a) (t := t) ar.1 (by omega) (by omega) t [] (growM vec t a) rfl g2
    have ih' := ih (m ++ [c]) (putL t a (growM vec t a)) (offs ++ [a]) (by simp [h]) (by simp [hol]) (fun o ho => by
      rcases List.mem_append.1 ho with ho | ho
      · exact ho0 o ho
      · rw [List.mem_singleton] at ho
        omega) (by
      refine top_le (by rw [putL_len]; simp; omega) (fun o ho => ?_)
      rcases List.mem_append.1 ho with ho | ho
      · have := t2 o ho
        simp; omega
      · rw [List.mem_singleton] at ho
        simp; omega)
    simp only [List.length_append, List.length_cons, List.length_nil, Nat.zero_add, Int.natCast_add, Int.cast_ofNat_Int, pkH, pkF, iR, wdV, putL_len, List.map_append, List.map_cons, List.map_nil] at ih'
    simp only [List.length_append, List.length_cons, List.length_nil, Nat.zero_add, Int.add_zero, Int.cast_ofNat_Int, pkT, pkF, iR, wdV, putL_len, List.map_append, List.map_cons, List.map_nil] at pl al
    simp only [wdV] at tb
    have hw2 : IntKind.i64.wrap (a + t.length) = a + t.length := wrap_id (by omega) (by omega)
    rw [l24_9P]
    by_cases z1 : 0 < t.length
    · have z1' : (0 < (t.length : Int)) = True := eq_true (by omega)
      by_cases z2 : (vec.length : Int) < a + t.length
      · have hg : growM vec t a = vec ++ reN (a + t.length - vec.length).toNat := by unfold growM; rw [if_pos ⟨z1, z2⟩]
        have hw3 : IntKind.i64.wrap (a + t.length - vec.length) = a + t.length - vec.length := wrap_id (by omega) (by omega)
        have rp := rep2P_ev (x := noE) (n := (a + t.length - vec.length).toNat) (by omega)
        rw [show (((a + t.length - vec.length).toNat : Nat) : Int) = a + t.length - vec.length by omega] at rp
        change EP.F 59 [.sl 100000 0 1, _] [(100000, ⟨false, 2, [.agg [.int .i64 (-1), .int .i64 (-1)]]⟩)] = some ((.ro 2 ((reN (a + t.length - vec.length).toNat).map enV), [(100000, ⟨false, 2, [.agg [.int .i64 (-1), .int .i64 (-1)]]⟩)]), True) at rp
        have hrl : (reN (a + t.length - vec.length).toNat).length = (a + t.length - vec.length).toNat := by rw [reN, List.length_replicate]
        rw [hg] at pl ih' ⊢
        generalize reN (a + t.length - vec.length).toNat = R at rp pl ih' hrl ⊢
        simp only [List.length_append, List.map_append] at pl ih'
        simp (maxSteps := 100000000) only [ivc, vop, vlen, vbuiltin, nilR, salloc, sappend, eq_self, Nat.reduceEqDiff, Nat.reduceLT, Nat.reduceLeDiff, Nat.reduceAdd, Nat.reduceMul, Nat.reduceSub, Nat.reduceBEq, Int.reduceNeg, reduceCtorEq, ↓reduceIte, anfP, gv55P, tyb, pkH, pkF, iR, wdV, hi', hw, hw2, hw3, tb, al, z1', z2, rp, pl, ih']
        exact some_true (by omega)
      · have hg : growM vec t a = vec := by unfold growM; rw [if_neg (fun h => z2 h.2)]
        rw [hg] at pl ih' ⊢
        simp (maxSteps := 100000000) only [ivc, vlen, vbuiltin, nilR, salloc, sappend, eq_self, Nat.reduceEqDiff, Nat.reduceLT, Nat.reduceLeDiff, Nat.reduceAdd, Nat.reduceMul, Nat.reduceBEq, Int.reduceNeg, reduceCtorEq, ↓reduceIte, anfP, gv55P, tyb, pkH, pkF, iR, wdV, hi', hw, hw2, tb, al, z1', z2, pl, ih']
        exact some_true (by omega)
    · have z1' : (0 < (t.length : Int)) = False := eq_false (by omega)
      have hg : growM vec t a = vec := by unfold growM; rw [if_neg (fun h => z1 h.1)]
      rw [hg] at pl ih' ⊢
      simp (maxSteps := 100000000) only [ivc, vlen, vbuiltin, nilR, salloc, sappend, eq_self, Nat.reduceEqDiff, Nat.reduceLT, Nat.reduceLeDiff, Nat.reduceAdd, Nat.reduceMul, Nat.reduceBEq, Int.reduceNeg, reduceCtorEq, ↓reduceIte, anfP, gv55P, tyb, pkH, pkF, iR, wdV, hi', hw, hw2, tb, al, z1', pl, ih']
      exact some_true (by omega)
theorem pack_ev {w : Wd} {cs : List Int} (ok : ckM w = 0 → okW w) (hcc : ckM w = 0 → ccW (graphW w) cs = 0 → ∀ c ∈ w.classes, ∀ e ∈ c, hasC cs e) :
    EP.F 24 [wdV w, .ro 1 (cs.map (AV.int .i64))] [] = some ((if ckM w = 0 then if ccW (graphW w) cs = 0 then .tup [.ro 2 ((packM cs w.classes ([], [])).1.map enV), .ro 1 ((packM cs w.classes ([], [])).2.map (AV.int .i64)), .int .i64 0] else .tup [.ro 2 [], .ro 1 [], .int .i64 (ccW (graphW w) cs)] else .tup [.ro 2 [], .ro 1 [], .int .i64 (ckM w)], []), True) := by
  have h1 := cc_ev (cs := cs) ok
  simp only [wdV] at h1
  by_cases h : ckM w = 0
  · rw [if_pos h] at h1 ⊢
    by_cases h2 : ccW (graphW w) cs = 0
    · rw [if_pos h2]
      rw [h2] at h1
      obtain ⟨o1, o2⟩ := ok h
      have lp := pack_loop (cs := cs) o1 (fun c hc => ⟨(o2 c hc).1, hcc h h2 c hc⟩) w.classes [] [] [] rfl rfl (fun o ho => by cases ho) (by simp [topM])
      generalize packM cs w.classes ([], []) = p at lp ⊢
      simp only [pkH, pkF, iR, wdV, List.length_nil, List.map_nil, Int.natCast_zero] at lp
      rw [e24P]
      simp (maxSteps := 100000000) only [ivc, vop, vlen, vbuiltin, nilR, salloc, eq_self, Nat.reduceEqDiff, Nat.reduceLT, Nat.reduceLeDiff, Nat.reduceAdd, Nat.reduceBEq, Int.reduceNeg, reduceCtorEq, ↓reduceIte, anfP, gv26P, tyb, wdV, h1, lp]
    · rw [if_neg h2]
      have h' : (ccW (graphW w) cs != 0) = true := by simp [h2]
      generalize ccW (graphW w) cs = v at h1 h' ⊢
      rw [e24P]
      simp (maxSteps := 100000000) only [ivc, nilR, salloc, eq_self, Nat.reduceEqDiff, Nat.reduceLT, Nat.reduceLeDiff, Nat.reduceAdd, Nat.reduceBEq, Int.reduceNeg, ↓reduceIte, anfP, gv26P, tyb, wdV, h1, h']
  · rw [if_neg h] at h1 ⊢
    have h' : (ckM w != 0) = true := by simp [h]
    rw [e24P]
    simp (maxSteps := 100000000) only [ivc, nilR, salloc, eq_self, Nat.reduceEqDiff, Nat.reduceLT, Nat.reduceLeDiff, Nat.reduceAdd, Nat.reduceBEq, Int.reduceNeg, ↓reduceIte, anfP, gv26P, tyb, wdV, h1, h']
end Go.Proofs.YtikppcfabnnhfaaDoor
