/- Plain: how many bits a word has. -/
import Derived.Test.YtikppcfabnnhfaaDoorCNS7
namespace Go.Proofs.YtikppcfabnnhfaaDoor
open Go Go.Aw
set_option linter.unusedVariables false
set_option maxRecDepth 100000
def pcn : Nat → Nat → Nat
  | 0, _ => 0
  | n + 1, x => x % 2 + pcn n (x / 2)
/-- Byte by byte. -/
def byB (f : Nat → Nat) : Nat → Nat → Nat
  | 0, _ => 0
  | n + 1, x => f (x % 256) + 256 * byB f n (x / 256)
def mk (c : Nat) : Nat → Nat
  | 0 => 0
  | n + 1 => c + 256 * mk c n
theorem and_byte {x c m : Nat} (hc : c < 256) : x &&& (c + 256 * m) = (x % 256 &&& c) + 256 * (x / 256 &&& m) := by
  have e1 : (x % 256 &&& c) < 2 ^ 8 := Nat.lt_of_le_of_lt Nat.and_le_right (by omega)
  apply Nat.eq_of_testBit_eq
  intro i
  have hx : x = 2 ^ 8 * (x / 256) + x % 256 := by omega
  rw [Nat.testBit_and, show c + 256 * m = 2 ^ 8 * m + c by omega, Nat.testBit_two_pow_mul_add m (show c < 2 ^ 8 by omega), show (x % 256 &&& c) + 256 * (x / 256 &&& m) = 2 ^ 8 * (x / 256 &&& m) + (x % 256 &&& c) by omega, Nat.testBit_two_pow_mul_add _ e1]
  have ht : x.testBit i = if i < 8 then (x % 256).testBit i else (x / 256).testBit (i - 8) := by
    have := Nat.testBit_two_pow_mul_add (x / 256) (show x % 256 < 2 ^ 8 by omega) i
    rwa [← hx] at this
  rw [ht]
  split <;> simp [Nat.testBit_and]
theorem byB_mod {f : Nat → Nat} (hf : ∀ u, u < 256 → f u < 256) {n x : Nat} : byB f (n + 1) x % 256 = f (x % 256) := by
  have := hf (x % 256) (by omega)
  rw [byB]; omega
theorem byB_div {f : Nat → Nat} (hf : ∀ u, u < 256 → f u < 256) {n x : Nat} : byB f (n + 1) x / 256 = byB f n (x / 256) := by
  have := hf (x % 256) (by omega)
  rw [byB]; omega
theorem byB_comp {f g : Nat → Nat} (hf : ∀ u, u < 256 → f u < 256) : ∀ {n x : Nat}, byB g n (byB f n x) = byB (fun u => g (f u)) n x
  | 0, _ => rfl
  | n + 1, x => by
    rw [byB, byB_mod hf, byB_div hf, byB_comp hf]
    rfl
theorem byB_lt {f : Nat → Nat} {b : Nat} (hf : ∀ u, u < 256 → f u ≤ b) : ∀ {n x : Nat}, byB f n x ≤ mk b n
  | 0, _ => Nat.le_refl 0
  | n + 1, x => by
    have := hf (x % 256) (by omega)
    have := byB_lt hf (n := n) (x := x / 256)
    rw [byB, mk]; omega
def s1 (u : Nat) : Nat := (u / 2 &&& 85) + (u &&& 85)
def s2 (u : Nat) : Nat := (u / 4 &&& 51) + (u &&& 51)
def s3 (u : Nat) : Nat := (u / 16 + u) % 16
theorem h1 : ∀ u, u < 512 → u / 2 % 256 &&& 85 = (u % 256) / 2 &&& 85 := by decide +kernel
theorem h2 : ∀ u, u < 1024 → u / 4 % 256 &&& 51 = (u % 256) / 4 &&& 51 := by decide +kernel
theorem stage1 : ∀ {n x : Nat}, (x / 2 &&& mk 85 n) + (x &&& mk 85 n) = byB s1 n x
  | 0, x => by simp [mk, byB]
  | n + 1, x => by
    have a := h1 (x % 512) (by omega)
    rw [show x % 512 / 2 % 256 = x / 2 % 256 by omega, show x % 512 % 256 = x % 256 by omega] at a
    rw [mk, and_byte (by omega), and_byte (by omega), a, byB, ← stage1, s1, show x / 2 / 256 = x / 256 / 2 by omega]
    omega
theorem stage2 : ∀ {n x : Nat}, (x / 4 &&& mk 51 n) + (x &&& mk 51 n) = byB s2 n x
  | 0, x => by simp [mk, byB]
  | n + 1, x => by
    have a := h2 (x % 1024) (by omega)
    rw [show x % 1024 / 4 % 256 = x / 4 % 256 by omega, show x % 1024 % 256 = x % 256 by omega] at a
    rw [mk, and_byte (by omega), and_byte (by omega), a, byB, ← stage2, s2, show x / 4 / 256 = x / 256 / 4 by omega]
    omega
/-- Bytes of two digits that are at most 4. -/
def dig4 (u : Nat) : Prop := u % 16 ≤ 4 ∧ u / 16 ≤ 4
theorem h3 : ∀ v, v < 256 → v &&& 15 = v % 16 := by decide +kernel
theorem stage3 {f : Nat → Nat} (hf : ∀ u, u < 256 → dig4 (f u)) : ∀ {n x : Nat}, (byB f n x / 16 + byB f n x) &&& mk 15 n = byB (fun u => s3 (f u)) n x
  | 0, x => by simp [mk, byB]
  | n + 1, x => by
    have ih := stage3 hf (n := n) (x := x / 256)
    have d := hf (x % 256) (by omega)
    have hz : byB f n (x / 256) % 16 ≤ 4 := by
      cases n with
      | zero => rw [byB]; omega
      | succ n =>
        have d2 := hf (x / 256 % 256) (by omega)
        rw [byB]
        unfold dig4 at d2
        omega
    rw [mk, and_byte (by omega), byB, byB, s3, ← ih]
    generalize byB f n (x / 256) = q at hz
    generalize f (x % 256) = u at d
    unfold dig4 at d
    have e1 : ((u + 256 * q) / 16 + (u + 256 * q)) / 256 = q / 16 + q := by omega
    rw [e1, h3 _ (by omega)]
    omega
theorem d4 : ∀ u, u < 256 → (s2 (s1 u) % 16 ≤ 4 ∧ s2 (s1 u) / 16 ≤ 4) := by decide +kernel
theorem s1_lt : ∀ u, u < 256 → s1 u < 256 := by decide +kernel
theorem s_pc : ∀ u, u < 256 → s3 (s2 (s1 u)) = pcn 8 u := by decide +kernel
theorem byB_congr {f g : Nat → Nat} (h : ∀ u, u < 256 → f u = g u) : ∀ {n x : Nat}, byB f n x = byB g n x
  | 0, _ => rfl
  | n + 1, x => by rw [byB, byB, h _ (by omega), byB_congr h]
theorem pcn_add {b : Nat} : ∀ {a x : Nat}, pcn (a + b) x = pcn a x + pcn b (x / 2 ^ a)
  | 0, x => by simp [pcn]
  | a + 1, x => by
    rw [show a + 1 + b = (a + b) + 1 by omega, pcn, pcn_add, pcn, Nat.div_div_eq_div_mul, Nat.pow_succ, Nat.mul_comm 2]
    omega
theorem pcn_mod : ∀ {a x : Nat}, pcn a (x % 2 ^ a) = pcn a x
  | 0, _ => rfl
  | a + 1, x => by
    rw [pcn, pcn, Nat.mod_pow_succ]
    have e1 : (x % 2 ^ a + 2 ^ a * (x / 2 ^ a % 2)) % 2 = x % 2 ∧ pcn a ((x % 2 ^ a + 2 ^ a * (x / 2 ^ a % 2)) / 2) = pcn a (x / 2) := by
      have h := Nat.mod_pow_succ (b := 2) (x := x) (k := a)
      rw [← h]
      refine ⟨by rw [Nat.pow_succ]; exact Nat.mod_mul_left_mod _ _ _, ?_⟩
      rw [Nat.pow_succ, Nat.mul_comm, Nat.mod_mul_right_div_self, pcn_mod]
    rw [e1.1, e1.2]
theorem pcn_le : ∀ {n x : Nat}, pcn n x ≤ n
  | 0, _ => Nat.le_refl 0
  | n + 1, x => by
    have := pcn_le (n := n) (x := x / 2)
    rw [pcn]; omega
theorem and127 {y : Nat} : y &&& 127 = y % 128 := by
  have := Nat.and_two_pow_sub_one_eq_mod y 7
  simpa using this
theorem wrapN {y : Nat} (h : y < 18446744073709551616) : IntKind.u64.wrap (y : Int) = y := by
  show (y : Int) % 18446744073709551616 = _
  omega
theorem fdivN {y k : Nat} : (y : Int).fdiv (2 ^ k) = ((y / 2 ^ k : Nat) : Int) := by
  rw [Int.fdiv_eq_ediv_of_nonneg _ (Int.le_of_lt (Int.pow_pos (by omega)))]
  simp
end Go.Proofs.YtikppcfabnnhfaaDoor
