/- Grow: all. -/
import Derived.Test.YtikppcfabnnhfaaDoorCNC26
namespace Go.Proofs.YtikppcfabnnhfaaDoor
open Go Go.Aw
set_option linter.unusedSimpArgs false
set_option linter.unusedVariables false
set_option maxRecDepth 100000
set_option maxHeartbeats 40000000
def moreW (w : Wd) (cl : List Et) : Wd := ⟨w.classes ++ [cl], w.bodies, w.roots⟩
def ms0 (w : Wd) (cl : List Et) (cs : List Int) : List Int := cs ++ ms (szM (graphW (moreW w cl)) 500 - cs.length)
theorem grow_ev {w : Wd} {cs : List Int} {cl : List Et} {o' c' : List Int} (hwl : w.classes.length ≤ 1000) (h1 : ckM w = 0) (ok : okW w) (h2 : ccW (graphW w) cs = 0) (h3 : ckM (moreW w cl) = 0) (ok2 : okW (moreW w cl)) (hsz : cs.length ≤ szM (graphW (moreW w cl)) 500) (hcs : ∀ c ∈ cs, c < 500) (hs : ∀ e ∈ cl, 0 ≤ e.s ∧ e.s < szM (graphW (moreW w cl)) 500)
    (hr : gwM (graphW (moreW w cl)) cl [] (ms0 w cl cs) [] = some (o', c')) :
    E.F 17 [wdV w, .ro 1 (cs.map (AV.int .i64)), .ro 2 (cl.map enV)] [] = some ((.tup [.ro 1 (o'.map (AV.int .i64)), .ro 1 (c'.map (AV.int .i64)), .int .i64 0], []), True) := by
  have a1 := cc_ev (w := w) (cs := cs) (fun _ => ok)
  rw [if_pos h1, h2] at a1
  have a2 := clone45_ev (l := w.classes) (by omega)
  have a3 := check_ev (w := moreW w cl)
  rw [h3] at a3
  have a4 := graph_ev ok2
  have hg : (graphW (moreW w cl)).length = 4008 := graphW_len
  have hcl : cl.length ≤ 100 := (ok2.2 cl (by simp [moreW])).1
  have hz := szM_le (graphW (moreW w cl)) 500
  have a5 := clone46_ev (l := cs) (by omega)
  unfold ms0 at hr
  generalize graphW (moreW w cl) = g at a4 hg hr hsz hs hz
  have a6 := size_ev hg
  generalize szM g 500 = z at a6 hr hsz hs hz
  have a7 := rep_ms (n := z - cs.length) (by omega)
  have e1 : ((z - cs.length : Nat) : Int) = (z : Int) - cs.length := by omega
  have hol : (cs ++ ms (z - cs.length)).length = z := by rw [List.length_append, ms_len]; omega
  have lp := gw_loop hg hcl cl [] (cs ++ ms (z - cs.length)) [] rfl (by omega) (fun c h => by
    rcases List.mem_append.1 h with h | h
    · exact hcs c h
    · have := List.eq_of_mem_replicate h
      omega) (fun e he => by rw [hol]; exact hs e he) (Nat.le_refl _) o' c' hr
  rw [e1] at a7
  have hml : (ms (z - cs.length)).length = z - cs.length := ms_len
  generalize ms (z - cs.length) = M at a7 lp hml
  have hw : IntKind.i64.wrap ((z : Int) - cs.length) = z - cs.length := wrap_id (by omega) (by omega)
  have e2 : cs.length + M.length = z := by omega
  have e3 : cs.length + (z - cs.length) = z := by omega
  have tkM : List.take (z - cs.length) (M.map (AV.int .i64)) = M.map (AV.int .i64) := List.take_of_length_le (by simp [hml])
  have e4 : ((0 : Int) ≤ (z : Int) - cs.length) = True := eq_true (by omega)
  simp only [wdV] at a1
  simp only [wdV, moreW, clV, List.map_append, List.map_cons, List.map_nil] at a3 a4
  simp only [gwV, gwH, gO, gR, iR, List.length_nil, List.map_nil, Int.natCast_zero, List.length_append, List.map_append] at a4 a5 a6 a7 lp
  rw [e17]
  simp (maxSteps := 100000000) only [ivc, anf, vop, vlen, vbuiltin, nilR, salloc, sappend, eq_self, Nat.reduceEqDiff, Nat.reduceLT, Nat.reduceLeDiff, Nat.reduceAdd, Nat.reduceMul, Nat.reduceBEq, Int.reduceNeg, reduceCtorEq, ↓reduceIte, tyb, wdV, ldb, agg_imm, a1, a2, a3, a4, a5, a6, a7, lp, hw, tkM]
  exact some_true (by omega)
end Go.Proofs.YtikppcfabnnhfaaDoor
