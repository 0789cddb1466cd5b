/- Plain: how many bits a word has. -/
import Derived.Test.YtikppcfabnnhfaaDoorCNS7
namespace Go.Proofs.YtikppcfabnnhfaaDoor
open Go Go.Aw
set_option linter.unusedVariables false
set_option maxRecDepth 100000
def mk (c : Nat) : Nat → Nat
  | 0 => 0
  | n + 1 => c + 256 * mk c n
def s1 (u : Nat) : Nat := (u / 2 &&& 85) + (u &&& 85)
def s2 (u : Nat) : Nat := (u / 4 &&& 51) + (u &&& 51)
def s3 (u : Nat) : Nat := (u / 16 + u) % 16
theorem h1 : ∀ u, u < 512 → u / 2 % 256 &&& 85 = (u % 256) / 2 &&& 85 := by decide +kernel
theorem h2 : ∀ u, u < 1024 → u / 4 % 256 &&& 51 = (u % 256) / 4 &&& 51 := by decide +kernel
theorem h3 : ∀ v, v < 256 → v &&& 15 = v % 16 := by decide +kernel
theorem d4 : ∀ u, u < 256 → (s2 (s1 u) % 16 ≤ 4 ∧ s2 (s1 u) / 16 ≤ 4) := by decide +kernel
end Go.Proofs.YtikppcfabnnhfaaDoor
