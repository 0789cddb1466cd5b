/- Grow. -/
import Derived.Test.YtikppcfabnnhfaaDoorCNC22
namespace Go.Proofs.YtikppcfabnnhfaaDoor
open Go Go.Aw
set_option linter.unusedSimpArgs false
set_option linter.unusedVariables false
set_option maxRecDepth 100000
set_option maxHeartbeats 40000000
def gwM (g : List Int) : List Et → List Et → List Int → List Int → Option (List Int × List Int)
  | [], _, out, chg => some (out, chg)
  | x :: r, p, out, chg =>
    if 0 ≤ colAt out x.s ∧ (p.any fun e => colAt out e.s == colAt out x.s) = false then gwM g r (p ++ [x]) out chg
    else if 500 ≤ leastL (takW g x.s out) 0 then none
    else gwM g r (p ++ [x]) (out.set x.s.toNat (leastL (takW g x.s out) 0)) (if 0 ≤ colAt out x.s then chg ++ [x.s] else chg)
def gwV (cl : List Et) (n : Nat) (i : Int) (k : Nat) : List AV := [.ro 2 (cl.map enV), .sl 60000 0 0, .sl 60001 0 k, .int .i64 0, .ptr 60002 0 0, .ptr 60003 0 0, .ro 2 (cl.map enV), .int .i64 cl.length, .int .i64 i]
def gwH (g out chg : List Int) : HL := [(60000, iR []), (60001, iR chg), (60002, gO g), (60003, ⟨true, 1, [.sl 60004 0 out.length]⟩), (60004, iR out)]
theorem gw_loop {g : List Int} {cl : List Et} (hg : g.length = 4008) (hcl : cl.length ≤ 100) : ∀ (r m : List Et) (out chg : List Int), cl = m ++ r → out.length ≤ 500 → (∀ c ∈ out, c < 500) → (∀ e ∈ cl, 0 ≤ e.s ∧ e.s < out.length) → chg.length ≤ m.length →
    ∀ o' c', gwM g r m out chg = some (o', c') → E.L 17 13 (gwV cl out.length m.length chg.length) (gwH g out chg) = some ((.exit 0, gwV cl out.length cl.length c'.length, gwH g o' c'), True) := by
  intro r
  induction r with
  | nil =>
    intro m out chg h ho hc hs hl o' c' hr
    cases hr
    rw [List.append_nil] at h
    have q : ((cl.length : Int) < cl.length) = False := eq_false (by omega)
    rw [← h, l17_13]
    simp (maxSteps := 100000000) only [ivc, anf, nilR, eq_self, Nat.reduceEqDiff, Nat.reduceLT, Nat.reduceLeDiff, Nat.reduceAdd, Nat.reduceBEq, reduceCtorEq, ↓reduceIte, tyb, gwV, gwH, gO, iR, ldb, q]
  | cons x r ih =>
    intro m out chg h ho hc hs hl o' c' hr
    have hn : m.length + (r.length + 1) = cl.length := by rw [h]; simp
    have hi' : (m.length : Int) < cl.length := by omega
    have hg0 := getD_map (f := enV) (show cl[m.length]? = some x by rw [h]; simp)
    have hw : IntKind.i64.wrap ((m.length : Int) + 1) = m.length + 1 := wrap_id (by omega) (by omega)
    have hc0 : (0 ≤ (m.length : Int)) = True := eq_true (by omega)
    have hx := hs x (by rw [h]; simp)
    have q := eq_true hx
    have k1 := getI (l := out) (i := x.s.toNat) (by omega)
    have htk : cl.take m.length = m := by rw [h]; simp
    have htm : (cl.map enV).take m.length = m.map enV := by rw [← List.map_take, htk]
    have q5 : (0 ≤ (m.length : Int) ∧ (m.length : Int) ≤ cl.length) = True := eq_true (by omega)
    have a := any48_ev (l := m) (out := out) (c := colAt out x.s) (by omega) (fun e he => hs e (by rw [h]; simp [he]))
    rw [gwM] at hr
    by_cases b1 : 0 ≤ colAt out x.s ∧ (m.any fun e => colAt out e.s == colAt out x.s) = false
    · rw [if_pos b1] at hr
      have ih' := ih (m ++ [x]) out chg (by simp [h]) ho hc hs (by simp; omega) o' c' hr
      simp only [List.length_append, List.length_cons, List.length_nil, Nat.zero_add, Int.natCast_add, Int.cast_ofNat_Int, gwV, gwH, gO, iR, List.map_nil] at ih'
      have b11 := b1.1
      rw [b1.2] at a
      simp only [colAt] at a b11
      rw [l17_13]
      simp (maxSteps := 100000000) only [ivc, anf, vop, vslice, nilR, salloc, eq_self, Nat.reduceEqDiff, Nat.reduceLT, Nat.reduceLeDiff, Nat.reduceAdd, Nat.reduceBEq, Int.reduceLE, Int.reduceToNat, reduceCtorEq, implies_true, ↓reduceIte, tyb, gwV, gwH, gO, iR, enV, ldb, hi', hg0, hw, hc0, q, k1, htm, a, b11, ih']
      exact some_true (by omega)
    · rw [if_neg b1] at hr
      split at hr
      · cases hr
      rename_i b2
      have tk := taken_ev (g := g) (cs := out) (s := x.s) hg ⟨hx.1, by omega⟩ (by omega) (fun c h => by have := hc c h; omega)
      have hT8 : (takW g x.s out).length = 8 := takW_len
      generalize takW g x.s out = T at hr tk hT8 b2
      have le := least_ev hT8
      generalize leastL T 0 = n at hr le b2
      have t1 := take8 hT8
      have t2 := put8 hT8
      have ih' := ih (m ++ [x]) (out.set x.s.toNat n) (if 0 ≤ colAt out x.s then chg ++ [x.s] else chg) (by simp [h]) (by rw [List.length_set]; exact ho) (fun c hcc => by
        rcases List.mem_or_eq_of_mem_set hcc with hcc | hcc
        · exact hc c hcc
        · omega) (by rw [List.length_set]; exact hs) (by split <;> simp <;> omega) o' c' hr
      simp only [gR] at tk
      by_cases b3 : 0 ≤ colAt out x.s
      · have b4 : (m.any fun e => colAt out e.s == colAt out x.s) = true := by
          cases hh : (m.any fun e => colAt out e.s == colAt out x.s) with
          | true => rfl
          | false => exact absurd ⟨b3, hh⟩ b1
        rw [if_pos b3] at ih'
        simp only [List.length_append, List.length_cons, List.length_nil, Nat.zero_add, Int.natCast_add, Int.cast_ofNat_Int, gwV, gwH, gO, iR, List.map_nil, List.length_set, List.map_append, List.map_cons] at ih'
        rw [b4] at a
        simp only [colAt] at a b3
        rw [l17_13]
        simp (maxSteps := 100000000) only [ivc, anf, vop, vslice, nilR, salloc, sappend, eq_self, Nat.reduceEqDiff, Nat.reduceLT, Nat.reduceLeDiff, Nat.reduceAdd, Nat.reduceMul, Nat.reduceBEq, Int.reduceLE, Int.reduceToNat, reduceCtorEq, implies_true, ↓reduceIte, tyb, ↓zrep, zs_len, t90z, gwV, gwH, gO, iR, enV, ldb, agg_flats, agg_imm, hi', hg0, hw, hc0, q, k1, htm, a, b2, b3, tk, hT8, t2, le, set_map, ih']
        exact some_true (by omega)
      · rw [if_neg b3] at ih'
        simp only [List.length_append, List.length_cons, List.length_nil, Nat.zero_add, Int.natCast_add, Int.cast_ofNat_Int, gwV, gwH, gO, iR, List.map_nil, List.length_set] at ih'
        simp only [colAt] at a b3
        rw [l17_13]
        simp (maxSteps := 100000000) only [ivc, anf, vop, vslice, nilR, salloc, eq_self, Nat.reduceEqDiff, Nat.reduceLT, Nat.reduceLeDiff, Nat.reduceAdd, Nat.reduceMul, Nat.reduceBEq, Int.reduceLE, Int.reduceToNat, reduceCtorEq, implies_true, ↓reduceIte, tyb, ↓zrep, zs_len, t90z, gwV, gwH, gO, iR, enV, ldb, agg_flats, agg_imm, hi', hg0, hw, hc0, q, k1, htm, a, b2, b3, tk, hT8, t2, le, set_map, ih']
        exact some_true (by omega)
end Go.Proofs.YtikppcfabnnhfaaDoor
