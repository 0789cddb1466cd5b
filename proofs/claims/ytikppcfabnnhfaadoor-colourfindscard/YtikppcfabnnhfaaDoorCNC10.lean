/- taken, Conflicts. -/
import Derived.Test.YtikppcfabnnhfaaDoorCNC9
namespace Go.Proofs.YtikppcfabnnhfaaDoor
open Go Go.Aw
set_option linter.unusedSimpArgs false
set_option linter.unusedVariables false
set_option maxRecDepth 100000
set_option maxHeartbeats 40000000
/-- The place of a selector's row. -/
def nb (s : Int) : Nat := 8 + s.toNat * 8
def takM (g : List Int) (b : Nat) : Nat → List Int → List Int → List Int
  | _, [], s => s
  | n, c :: r, s => takM g b (n + 1) r (if 0 ≤ c ∧ hasW g b n = true then addW s 0 c else s)
theorem takM_len {g : List Int} {b : Nat} : ∀ {r : List Int} {n : Nat} {s : List Int}, (takM g b n r s).length = s.length := by
  intro r
  induction r with
  | nil => intro n s; rfl
  | cons c r ih =>
    intro n s
    rw [takM, ih]
    split
    · exact addW_len
    · rfl
def tkV (g cs : List Int) (s i : Int) : List AV := [gR g, .int .i64 s, .ptr 60000 0 0, .ptr 60001 0 0, .ro 1 (cs.map (AV.int .i64)), .int .i64 cs.length, .int .i64 i]
def tkH (s : List Int) : HL := [(60000, ⟨true, 8, [.agg ((zs 8).map (AV.int .u64))]⟩), (60001, ⟨true, 8, [.agg (s.map (AV.int .u64))]⟩)]
theorem taken_loop {g cs : List Int} {s : Int} (hg : g.length = 4008) (hs : 0 ≤ s ∧ s < 500) (hl : cs.length ≤ 512) (hc : ∀ c ∈ cs, c < 512) : ∀ (r m : List Int) (t : List Int), cs = m ++ r → t.length = 8 →
    E.L 50 4 (tkV g cs s m.length) (tkH t) = some ((.exit 0, tkV g cs s cs.length, tkH (takM g (nb s) m.length r t)), True) := by
  intro r
  induction r with
  | nil =>
    intro m t h ht
    rw [List.append_nil] at h
    subst h
    have q3 : ((cs.length : Int) < (cs.length : Int)) = False := eq_false (by omega)
    rw [l50_4]
    simp (maxSteps := 100000000) only [ivc, anf, nilR, eq_self, Nat.reduceEqDiff, Nat.reduceLT, Nat.reduceLeDiff, Nat.reduceAdd, Nat.reduceBEq, reduceCtorEq, ↓reduceIte, tyb, tkV, tkH, gR, ldb, q3, takM]
  | cons x r ih =>
    intro m t h ht
    have hn : m.length + (r.length + 1) = cs.length := by rw [h]; simp
    have hi' : (m.length : Int) < cs.length := by omega
    have hx : cs[m.length]? = some x := by rw [h]; simp
    have hxc := hc x (List.mem_of_getElem? hx)
    have hgd := getD_map (f := AV.int .i64) hx
    have hw : IntKind.i64.wrap ((m.length : Int) + 1) = m.length + 1 := wrap_id (by omega) (by omega)
    have hq : (0 ≤ (m.length : Int)) = True := eq_true (by omega)
    have q1 : (0 ≤ s ∧ s < 500) = True := eq_true hs
    have a := hasr_ev (l := g) (c := nb s) (n := m.length) (by omega) (by omega) (by unfold nb; omega)
    have ih' := ih (m ++ [x]) (if 0 ≤ x ∧ hasW g (nb s) m.length = true then addW t 0 x else t) (by simp [h]) (by split <;> simp [addW_len, ht])
    simp only [List.length_append, List.length_cons, List.length_nil, Nat.zero_add, Int.natCast_add, Int.cast_ofNat_Int, tkV, tkH, gR] at ih'
    simp only [nb] at a
    rw [l50_4]
    by_cases c1 : 0 ≤ x
    · have a2 := add_ev (l := t) (c := 0) (n := x) c1 hxc (by omega)
      rw [ht] at a2
      by_cases c2 : hasW g (nb s) m.length = true
      · rw [if_pos ⟨c1, c2⟩] at ih'
        simp only [nb] at c2 ih'
        rw [c2] at a
        simp (maxSteps := 100000000) only [ivc, anf, vop, nilR, eq_self, Nat.reduceEqDiff, Nat.reduceLT, Nat.reduceLeDiff, Nat.reduceAdd, Nat.reduceMul, Nat.reduceBEq, reduceCtorEq, ↓reduceIte, tyb, tkV, tkH, gR, ldb, hi', hgd, hw, hq, q1, a, a2, c1, c2, ih', takM, nb]
      · rw [if_neg (fun hh => c2 hh.2)] at ih'
        have c2' : hasW g (nb s) m.length = false := by simpa using c2
        simp only [nb] at c2' ih'
        rw [c2'] at a
        simp (maxSteps := 100000000) only [ivc, anf, vop, nilR, eq_self, Nat.reduceEqDiff, Nat.reduceLT, Nat.reduceLeDiff, Nat.reduceAdd, Nat.reduceBEq, reduceCtorEq, ↓reduceIte, tyb, tkV, tkH, gR, ldb, hi', hgd, hw, hq, q1, a, c1, c2', ih', takM, nb]
    · rw [if_neg (fun hh => c1 hh.1)] at ih'
      simp only [nb] at ih'
      simp (maxSteps := 100000000) only [ivc, anf, vop, nilR, eq_self, Nat.reduceEqDiff, Nat.reduceLT, Nat.reduceLeDiff, Nat.reduceAdd, Nat.reduceBEq, reduceCtorEq, ↓reduceIte, tyb, tkV, tkH, gR, ldb, hi', hgd, hw, hq, q1, c1, ih', takM, nb]
theorem t90z : (eok Tryd.prog 90 ((zs 8).map (AV.int .u64)) = true) ∧ (mkE Tryd.prog 90 ((zs 8).map (AV.int .u64)) = .agg ((zs 8).map (AV.int .u64))) := by
  have h := ty90
  exact ⟨h.2.2.2.2.2.1, h.2.2.2.2.2.2.1⟩
theorem take8 {l : List Int} (h : l.length = 8) : List.take 8 (l.map (AV.int .u64)) = l.map (AV.int .u64) := List.take_of_length_le (by simp [h])
theorem put8 {l : List Int} (h : l.length = 8) : putl (.agg ((zs 8).map (AV.int .u64))) 0 (l.map (AV.int .u64)) = .agg (l.map (AV.int .u64)) := by
  match l, h with
  | [a, b, c, d, e, f, g, h], _ => rfl
def takW (g : List Int) (s : Int) (cs : List Int) : List Int := takM g (nb s) 0 cs (zs 8)
theorem taken_ev {g cs : List Int} {s : Int} (hg : g.length = 4008) (hs : 0 ≤ s ∧ s < 500) (hl : cs.length ≤ 512) (hc : ∀ c ∈ cs, c < 512) :
    E.F 50 [gR g, .ro 1 (cs.map (AV.int .i64)), .int .i64 s] [] = some ((.agg ((takW g s cs).map (AV.int .u64)), []), True) := by
  have h := taken_loop hg hs hl hc cs [] (zs 8) rfl (zs_len 8)
  have hlt : (takW g s cs).length = 8 := by simp [takW, takM_len, zs_len]
  simp only [List.length_nil, Int.natCast_zero, tkV, tkH, gR] at h
  have k1 := take8 hlt
  have k2 := put8 hlt
  simp only [takW] at k1 k2
  rw [e50]
  simp (maxSteps := 100000000) only [ivc, anf, vlen, vbuiltin, salloc, eq_self, Nat.reduceEqDiff, Nat.reduceLT, Nat.reduceLeDiff, Nat.reduceAdd, Nat.reduceBEq, reduceCtorEq, ↓reduceIte, tyb, ↓zrep, zs_len, t90z, gR, ldb, h, takW, k1, k2]
  simp only [takW] at hlt
  exact some_true (by rw [hlt]; omega)
end Go.Proofs.YtikppcfabnnhfaaDoor
