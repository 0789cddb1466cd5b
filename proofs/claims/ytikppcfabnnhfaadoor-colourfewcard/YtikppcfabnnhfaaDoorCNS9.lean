/- Plain: how many selectors are understood. -/
import Derived.Test.YtikppcfabnnhfaaDoorCNS8
namespace Go.Proofs.YtikppcfabnnhfaaDoor
open Go Go.Aw
set_option linter.unusedVariables false
set_option maxRecDepth 100000
set_option maxHeartbeats 4000000
theorem mk85 : mk 85 8 = 6148914691236517205 := by decide +kernel
theorem mk51 : mk 51 8 = 3689348814741910323 := by decide +kernel
theorem mk15 : mk 15 8 = 1085102592571150095 := by decide +kernel
theorem s1_le : ∀ u, u < 256 → s1 u ≤ 170 := by decide +kernel
theorem s12_le : ∀ u, u < 256 → s2 (s1 u) ≤ 68 := by decide +kernel
theorem dgB {c t u m : Nat} (h : c + 256 * t = u) (hc : c ≤ 8) (ht : t ≤ m) : u ≤ 8 + 256 * m := by omega
theorem dgD {c t u : Nat} (h : c + 256 * t = u) (hc : c ≤ 8) : u / 2 ^ 8 = t := by omega
theorem dgF {u s t : Nat} (h : u = s + 256 * t) (hc : s < 256) : u / 2 ^ 8 = t := by omega
theorem dgE {c0 c1 c2 t1 t2 t3 y : Nat} (h0 : c0 + 256 * t1 = y) (h1 : c1 + 256 * t2 = t1) (h2 : c2 + 256 * t3 = t2) (l0 : c0 ≤ 8) (l1 : c1 ≤ 8) (l2 : c2 ≤ 8) : (y + t1) / 2 ^ 16 = t2 + t3 := by
  have : y + t1 = (c0 + c1 + 256 * (c1 + c2)) + 2 ^ 16 * (t2 + t3) := by omega
  rw [this, Nat.add_mul_div_left _ _ (by omega), Nat.div_eq_of_lt (by omega), Nat.zero_add]
theorem dgS {c0 c1 c2 c3 t1 t2 t3 t4 y : Nat} (h0 : c0 + 256 * t1 = y) (h1 : c1 + 256 * t2 = t1) (h2 : c2 + 256 * t3 = t2) (h3 : c3 + 256 * t4 = t3) : y + t1 + (t2 + t3) = (c0 + c1 + c2 + c3) + 256 * (t1 + t2 + t3 + t4) := by omega
theorem dgT {c0 c1 c2 c3 t0 t1 t2 t3 t4 : Nat} (h0 : c0 + 256 * t1 = t0) (h1 : c1 + 256 * t2 = t1) (h2 : c2 + 256 * t3 = t2) (h3 : c3 + 256 * t4 = t3) : t0 + t1 + t2 + t3 = (c0 + c1 + c2 + c3) + 256 * (t1 + t2 + t3 + t4) := by omega
theorem dgU {c0 c1 c2 c3 t0 t1 t2 : Nat} (h0 : c0 + 256 * t1 = t0) (h1 : c1 + 256 * t2 = t1) (h2 : c2 + 256 * c3 = t2) : t0 + t1 + t2 + c3 = (c0 + c1 + c2 + c3) + 256 * (t1 + t2 + c3) := by omega
theorem dgV {w u s t a b : Nat} (h0 : w = s + 256 * a) (h4 : u = t + 256 * b) (h : s + t < 128) : (w + u) % 128 = s + t := by omega
theorem ones_nat {x : Nat} (hx : x < 18446744073709551616) : onesW x = (pcn 64 x : Nat) := by
  unfold onesW on6 on5 on4
  have a1 : on1 x = (byB s1 8 x : Nat) := by
    unfold on1
    rw [show min 1 IntKind.u64.bits = 1 from rfl, fdivN, show (6148914691236517205 : Int) = ((6148914691236517205 : Nat) : Int) from rfl, and_nat (by omega) (by omega), and_nat (by omega) (by omega), ← mk85, ← Int.natCast_add, show 2 ^ 1 = 2 from rfl, stage1]
    have := byB_lt s1_le (n := 8) (x := x)
    rw [show mk 170 8 = 12297829382473034410 by decide +kernel] at this
    exact wrapN (by omega)
  have b1 := byB_lt s1_le (n := 8) (x := x)
  rw [show mk 170 8 = 12297829382473034410 by decide +kernel] at b1
  have a2 : on2 (on1 x) = (byB (fun u => s2 (s1 u)) 8 x : Nat) := by
    rw [a1]
    unfold on2
    rw [show min 2 IntKind.u64.bits = 2 from rfl, fdivN, show (3689348814741910323 : Int) = ((3689348814741910323 : Nat) : Int) from rfl, and_nat (by omega) (by omega), and_nat (by omega) (by omega), ← mk51, ← Int.natCast_add, show 2 ^ 2 = 4 from rfl, stage2, byB_comp s1_lt]
    have := byB_lt s12_le (n := 8) (x := x)
    rw [show mk 68 8 = 4919131752989213764 by decide +kernel] at this
    exact wrapN (by omega)
  have b2 := byB_lt s12_le (n := 8) (x := x)
  rw [show mk 68 8 = 4919131752989213764 by decide +kernel] at b2
  have a3 : on3 (on2 (on1 x)) = (byB (pcn 8) 8 x : Nat) := by
    rw [a2]
    unfold on3
    rw [show min 4 IntKind.u64.bits = 4 from rfl, fdivN, show (1085102592571150095 : Int) = ((1085102592571150095 : Nat) : Int) from rfl, ← Int.natCast_add, wrapN (by omega), and_nat (by omega) (by omega), ← mk15, show 2 ^ 4 = 16 from rfl, stage3 d4, byB_congr s_pc]
  rw [a3]
  clear a1 a2 a3 b1 b2
  have e : pcn 64 x = pcn 8 (x % 256) + pcn 8 (x / 256 % 256) + pcn 8 (x / 256 / 256 % 256) + pcn 8 (x / 256 / 256 / 256 % 256) + pcn 8 (x / 256 / 256 / 256 / 256 % 256) + pcn 8 (x / 256 / 256 / 256 / 256 / 256 % 256) + pcn 8 (x / 256 / 256 / 256 / 256 / 256 / 256 % 256) + pcn 8 (x / 256 / 256 / 256 / 256 / 256 / 256 / 256 % 256) := by
    have m8 : ∀ y, pcn 8 (y % 256) = pcn 8 y := fun y => pcn_mod (a := 8)
    have st : ∀ b y, pcn (8 + b) y = pcn 8 y + pcn b (y / 256) := fun b y => pcn_add (a := 8)
    rw [show (64 : Nat) = 8 + (8 + (8 + (8 + (8 + (8 + (8 + 8)))))) from rfl, st, st, st, st, st, st, st]
    simp only [m8]
    omega
  rw [e]
  simp only [byB, Nat.mul_zero, Nat.add_zero]
  have l0 := pcn_le (n := 8) (x := x % 256)
  have l1 := pcn_le (n := 8) (x := x / 256 % 256)
  have l2 := pcn_le (n := 8) (x := x / 256 / 256 % 256)
  have l3 := pcn_le (n := 8) (x := x / 256 / 256 / 256 % 256)
  have l4 := pcn_le (n := 8) (x := x / 256 / 256 / 256 / 256 % 256)
  have l5 := pcn_le (n := 8) (x := x / 256 / 256 / 256 / 256 / 256 % 256)
  have l6 := pcn_le (n := 8) (x := x / 256 / 256 / 256 / 256 / 256 / 256 % 256)
  have l7 := pcn_le (n := 8) (x := x / 256 / 256 / 256 / 256 / 256 / 256 / 256 % 256)
  generalize pcn 8 (x % 256) = c0 at l0 ⊢
  generalize pcn 8 (x / 256 % 256) = c1 at l1 ⊢
  generalize pcn 8 (x / 256 / 256 % 256) = c2 at l2 ⊢
  generalize pcn 8 (x / 256 / 256 / 256 % 256) = c3 at l3 ⊢
  generalize pcn 8 (x / 256 / 256 / 256 / 256 % 256) = c4 at l4 ⊢
  generalize pcn 8 (x / 256 / 256 / 256 / 256 / 256 % 256) = c5 at l5 ⊢
  generalize pcn 8 (x / 256 / 256 / 256 / 256 / 256 / 256 % 256) = c6 at l6 ⊢
  generalize pcn 8 (x / 256 / 256 / 256 / 256 / 256 / 256 / 256 % 256) = c7 at l7 ⊢
  clear e hx x
  rw [show min 8 IntKind.u64.bits = 8 from rfl, show min 16 IntKind.u64.bits = 16 from rfl, show min 32 IntKind.u64.bits = 32 from rfl]
  generalize h6 : c6 + 256 * c7 = t6
  generalize h5 : c5 + 256 * t6 = t5
  generalize h4 : c4 + 256 * t5 = t4
  generalize h3 : c3 + 256 * t4 = t3
  generalize h2 : c2 + 256 * t3 = t2
  generalize h1 : c1 + 256 * t2 = t1
  generalize h0 : c0 + 256 * t1 = y
  have b6 := dgB h6 l6 l7
  have b5 := dgB h5 l5 b6
  have b4 := dgB h4 l4 b5
  have b3 := dgB h3 l3 b4
  have b2 := dgB h2 l2 b3
  have b1 := dgB h1 l1 b2
  have b0 := dgB h0 l0 b1
  simp only [Nat.reduceMul, Nat.reduceAdd] at b6 b5 b4 b3 b2 b1 b0
  have d1 : y / 2 ^ 8 = t1 := dgD h0 l0
  have d2 : (y + t1) / 2 ^ 16 = t2 + t3 := dgE h0 h1 h2 l0 l1 l2
  have e0 : y + t1 + (t2 + t3) = (c0 + c1 + c2 + c3) + 256 * (t1 + t2 + t3 + t4) := dgS h0 h1 h2 h3
  have e1 := dgT h1 h2 h3 h4
  have e2 := dgT h2 h3 h4 h5
  have e3 := dgT h3 h4 h5 h6
  have e4 : t4 + t5 + t6 + c7 = (c4 + c5 + c6 + c7) + 256 * (t5 + t6 + c7) := dgU h4 h5 h6
  have wb : y + t1 + (t2 + t3) ≤ 600000000000000000 := by clear d1 d2 e0 e1 e2 e3 e4 h0 h1 h2 h3 h4 h5 h6; omega
  have w5 : t5 + t6 + c7 ≤ 600000 := by clear d1 d2 e0 e1 e2 e3 e4 h0 h1 h2 h3 h4 h5 h6; omega
  have w1 : t1 + t2 + t3 + t4 ≤ 3000000000000000 := by clear d1 d2 e0 e1 e2 e3 e4 h0 h1 h2 h3 h4 h5 h6; omega
  have yb : y < 18446744073709551616 ∧ y + t1 < 18446744073709551616 := by clear d1 d2 e0 e1 e2 e3 e4 h0 h1 h2 h3 h4 h5 h6; omega
  rw [fdivN, d1, ← Int.natCast_add, wrapN yb.2, fdivN, d2, ← Int.natCast_add, wrapN (by clear d1 d2 e0 e1 e2 e3 e4 h0 h1 h2 h3 h4 h5 h6; omega)]
  clear h0 h1 h2 h3 h4 h5 h6 b0 b1 b2 b3 b4 b5 b6 d1 d2 yb
  generalize t5 + t6 + c7 = u5 at e4 w5
  generalize t4 + t5 + t6 + c7 = u4 at e3 e4
  generalize t3 + t4 + t5 + t6 = u3 at e2 e3
  generalize t2 + t3 + t4 + t5 = u2 at e1 e2
  generalize t1 + t2 + t3 + t4 = u1 at e0 e1 w1
  generalize y + t1 + (t2 + t3) = w at e0 wb ⊢
  have d3 : w / 2 ^ 32 = u4 := by
    have f3 : w / 2 ^ 8 = u1 := dgF e0 (by clear e0 e1 e2 e3 e4; omega)
    have f4 : u1 / 2 ^ 8 = u2 := dgF e1 (by clear e0 e1 e2 e3 e4; omega)
    have f5 : u2 / 2 ^ 8 = u3 := dgF e2 (by clear e0 e1 e2 e3 e4; omega)
    have f6 : u3 / 2 ^ 8 = u4 := dgF e3 (by clear e0 e1 e2 e3 e4; omega)
    rw [show (2 : Nat) ^ 32 = 2 ^ 8 * 2 ^ 8 * 2 ^ 8 * 2 ^ 8 from rfl, ← Nat.div_div_eq_div_mul, ← Nat.div_div_eq_div_mul, ← Nat.div_div_eq_div_mul, f3, f4, f5, f6]
  rw [fdivN, d3, ← Int.natCast_add]
  clear d3 e1 e2 e3
  have ub : w + u4 < 9223372036854775808 := by omega
  have hv' : (w + u4) % 128 = c0 + c1 + c2 + c3 + c4 + c5 + c6 + c7 := (dgV e0 e4 (by clear e0 e4; omega)).trans (by clear e0 e4; omega)
  rw [wrapN (by clear e0 e4 hv'; omega)]
  generalize w + u4 = v at ub hv' ⊢
  have hvb := ub
  clear e0 e4 l0 l1 l2 l3 l4 l5 l6 l7
  have hi : IntKind.i64.wrap (v : Int) = v := wrap_id (by omega) (by omega)
  rw [hi, ← hv', ← and127]
  unfold bitsI
  simp only
  rw [BitVec.toNat_and, show IntKind.i64.bits = 64 from rfl]
  have t1 : (BitVec.ofInt 64 (v : Int)).toNat = v := by
    rw [BitVec.toNat_ofInt]
    show ((v : Int) % ((2 ^ 64 : Nat) : Int)).toNat = v
    rw [Int.emod_eq_of_lt (by omega) (by omega)]
    rfl
  have t2 : (BitVec.ofInt 64 (127 : Int)).toNat = 127 := by decide +kernel
  rw [t1, t2]
  have : v &&& 127 ≤ 127 := Nat.and_le_right
  exact wrap_id (by omega) (by omega)
theorem knI_app {g : List Int} : ∀ {k1 k2 : Nat} {a : Int}, knI g (k1 + k2) a = knI g k1 a ++ knI g k2 (a + k1)
  | 0, k2, a => by simp [knI]
  | k1 + 1, k2, a => by
    rw [show k1 + 1 + k2 = (k1 + k2) + 1 by omega, knI, knI_app, knI, List.append_assoc, show a + 1 + (k1 : Int) = a + ((k1 + 1 : Nat) : Int) by omega]
theorem kn_word {g : List Int} {i : Nat} {x : Nat} (hx : x < 18446744073709551616) (hg : g.getD i 0 = x) : ∀ {k j : Nat}, j + k = 64 → (knI g k ((64 * i + j : Nat) : Int)).length = pcn k (x / 2 ^ j)
  | 0, j, _ => rfl
  | k + 1, j, h => by
    have ih := kn_word hx hg (k := k) (j := j + 1) (by omega)
    have e1 : (((64 * i + j : Nat) : Int) / 64).toNat = i := by omega
    have e2 : ((64 * i + j : Nat) : Int) % 64 = j := by omega
    have hb : hasW g 0 ((64 * i + j : Nat) : Int) = x.testBit j := by
      unfold hasW
      rw [e1, e2, Nat.zero_add, hg, bitW_nat hx (by omega) (by omega)]
      simp
    rw [knI, List.length_append, show ((64 * i + j : Nat) : Int) + 1 = ((64 * i + (j + 1) : Nat) : Int) by omega, ih, hb, pcn, Nat.testBit_eq_decide_div_mod_eq, Nat.div_div_eq_div_mul, ← Nat.pow_succ]
    congr 1
    have := Nat.mod_two_eq_zero_or_one (x / 2 ^ j)
    rcases this with h | h <;> simp [h]
theorem cnt_kn {g : List Int} (hg : allR g) : ∀ {n : Nat}, cntM g n = ((knI g (64 * n) 0).length : Int)
  | 0 => rfl
  | n + 1 => by
    obtain ⟨x, hx, hb⟩ := u64nat (allR_getD hg n)
    rw [cntM, cnt_kn hg, show 64 * (n + 1) = 64 * n + 64 by omega, knI_app, List.length_append, hx, ones_nat hb]
    have := kn_word hb hx (k := 64) (j := 0) rfl
    rw [Nat.add_zero, Nat.pow_zero, Nat.div_one] at this
    rw [Int.zero_add, this]
    omega
/-- **How many are understood.** -/
theorem cnt_w {w : Wd} (h : clsok w.classes) : cntM (graphW w) 8 = ((knW (graphW w)).length : Int) := by
  have g := gok_W (w := w)
  rw [cnt_kn g.2, show 64 * 8 = 500 + 12 from rfl, knI_app, List.length_append]
  have : knI (graphW w) 12 (0 + (500 : Nat)) = [] := by
    refine List.eq_nil_iff_forall_not_mem.2 fun x hx => ?_
    obtain ⟨h1, h2, h3⟩ := knI_mem.1 hx
    obtain ⟨c, hc, hm⟩ := (known5W ⟨by omega, by omega⟩ h).1 h3
    have := kn_sel h ⟨c, hc, hm⟩
    unfold selN at this
    omega
  rw [this]
  rfl
theorem len_of_mem {l k : List Int} (hl : l.Nodup) (hk : k.Nodup) (h : ∀ x, x ∈ l ↔ x ∈ k) : l.length = k.length :=
  Nat.le_antisymm (List.Nodup.length_le_of_subset hl fun x hx => (h x).1 hx) (List.Nodup.length_le_of_subset hk fun x hx => (h x).2 hx)
theorem cnt_same {v w : Wd} (hv : clsok v.classes) (hw : clsok w.classes) (h : ∀ c, c ∈ v.classes ↔ c ∈ w.classes) : cntM (graphW v) 8 = cntM (graphW w) 8 := by
  rw [cnt_w hv, cnt_w hw]
  congr 1
  refine len_of_mem knW_nd knW_nd fun x => ?_
  rw [knW_mem, knW_mem]
  refine and_congr_right fun hx => ?_
  rw [knownW hx hv, knownW hx hw]
  exact ⟨fun ⟨c, hc, hm⟩ => ⟨c, (h c).1 hc, hm⟩, fun ⟨c, hc, hm⟩ => ⟨c, (h c).2 hc, hm⟩⟩
end Go.Proofs.YtikppcfabnnhfaaDoor
