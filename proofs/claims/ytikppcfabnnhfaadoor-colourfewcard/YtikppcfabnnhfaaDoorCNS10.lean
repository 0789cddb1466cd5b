/- Plain: what a check takes; what ColourFew says. -/
import Derived.Test.YtikppcfabnnhfaaDoorCNS9
namespace Go.Proofs.YtikppcfabnnhfaaDoor
open Go Go.Aw
set_option linter.unusedVariables false
theorem ck_of_good {w : Wd} (g : Good w) : ckM w = 0 := by
  have h1 := g.nc
  have h2 := g.nb
  have h3 := g.nr
  have a1 : w.classes.any bigC = false := by
    rw [List.any_eq_false]
    intro c hc
    have := g.len c hc
    simp only [bigC, decide_eq_true_eq]
    omega
  have a2 : w.bodies.any bigB = false := by
    rw [List.any_eq_false]
    intro b hb
    have := g.bl b hb
    simp only [bigB, Bool.or_eq_true, decide_eq_true_eq]
    omega
  have a3 : ckCs w.bodies.length w.classes = 0 := ckCs_iff.2 fun c hc => ckC_none.2 ⟨g.ent c hc, g.asc c hc⟩
  have a4 : w.bodies.any (badB w.bodies.length w.classes.length) = false := by
    rw [List.any_eq_false]
    intro b hb
    have := g.br b hb
    simp only [badB, inR_all.2 this.1, inR_all.2 this.2.1, inR_all.2 this.2.2]
    decide
  unfold ckM
  rw [if_neg (by omega), a1, if_neg (by decide), a2, if_neg (by decide), if_neg (by simp [a3]), a4, if_neg (by decide), if_pos (inR_all.2 g.rr)]
def noB : Bd := ⟨[], [], []⟩
/-- The classes the other way round, and no bodies' words. -/
def revW (w : Wd) : Wd := ⟨w.classes.reverse, List.replicate w.bodies.length noB, []⟩
theorem rev_good {w : Wd} (g : Good w) : Good (revW w) where
  nc := by simpa [revW] using g.nc
  nb := by simpa [revW] using g.nb
  nr := by simp [revW]
  len c hc := g.len c (by simpa [revW] using hc)
  ent c hc e he := by
    have := g.ent c (by simpa [revW] using hc) e he
    simpa [revW] using this
  asc c hc := g.asc c (by simpa [revW] using hc)
  bl b hb := by
    have := List.eq_of_mem_replicate (show b ∈ List.replicate w.bodies.length noB from hb)
    subst this
    simp [noB]
  br b hb := by
    have := List.eq_of_mem_replicate (show b ∈ List.replicate w.bodies.length noB from hb)
    subst this
    simp [noB]
  rr x hx := by simp [revW] at hx
theorem rev_least {w : Wd} (g : Good w) : leastW (graphW (revW w)) = leastW (graphW w) :=
  Int.le_antisymm (least_mono (clsok_of (rev_good g)) (clsok_of g) fun c hc => by simpa [revW] using hc) (least_mono (clsok_of g) (clsok_of (rev_good g)) fun c hc => by simpa [revW] using hc)
theorem rev_cnt {w : Wd} (g : Good w) : cntM (graphW (revW w)) 8 = cntM (graphW w) 8 :=
  cnt_same (clsok_of (rev_good g)) (clsok_of g) fun c => by simp [revW]
/-- A class more. -/
def addC (w v : Wd) (mo : List Et) : Wd := ⟨w.classes ++ [mo], v.bodies, v.roots⟩
theorem add_least {w v : Wd} {mo : List Et} (g : Good w) (h : ckM (addC w v mo) = 0) : leastW (graphW w) ≤ leastW (graphW (addC w v mo)) :=
  least_mono (clsok_of g) (clsok_of (good_of h)) fun c hc => by simp [addC, hc]
end Go.Proofs.YtikppcfabnnhfaaDoor
