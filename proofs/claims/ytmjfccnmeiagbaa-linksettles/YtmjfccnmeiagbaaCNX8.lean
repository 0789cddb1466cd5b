/- A line: all acts; what it tells. -/
import Derived.Test.YtmjfccnmeiagbaaCNX7
import Derived.Test.YtmjfccnmeiagbaaCNX3
namespace Go.Proofs.Ytmjfccnmeiagbaa
open Go Go.Aw
set_option linter.unusedSimpArgs false
set_option linter.unusedVariables false
set_option maxRecDepth 100000
set_option maxHeartbeats 40000000
def sendL (m : Int) (l : Ln) (z : Bool) (t : ByteArray) : Ln × Int :=
  if z then ({ l with e0 := (sendM m l.e0 t).1, u1 := l.u1 ++ (sendM m l.e0 t).2.1 }, (sendM m l.e0 t).2.2)
  else ({ l with e1 := (sendM m l.e1 t).1, u0 := l.u0 ++ (sendM m l.e1 t).2.1 }, (sendM m l.e1 t).2.2)
def carry0 (l : Ln) : Ln × Int := match l.u0 with
  | [] => (l, 0)
  | f :: u => if (takeM l.e0 f).2.2.2 = 400 then (cutM { l with e0 := (takeM l.e0 f).1 }, 400)
    else ({ l with e0 := (takeM l.e0 f).1, u0 := u, d0 := l.d0 ++ (takeM l.e0 f).2.1, u1 := l.u1 ++ (takeM l.e0 f).2.2.1 }, (takeM l.e0 f).2.2.2)
def carry1 (l : Ln) : Ln × Int := match l.u1 with
  | [] => (l, 0)
  | f :: u => if (takeM l.e1 f).2.2.2 = 400 then (cutM { l with e1 := (takeM l.e1 f).1 }, 400)
    else ({ l with e1 := (takeM l.e1 f).1, u1 := u, d1 := l.d1 ++ (takeM l.e1 f).2.1, u0 := l.u0 ++ (takeM l.e1 f).2.2.1 }, (takeM l.e1 f).2.2.2)
def connL (l : Ln) : Ln := if l.up then l else { l with e0 := (connM l.e0).1, e1 := (connM l.e1).1, u1 := l.u1 ++ (connM l.e0).2.1, u0 := l.u0 ++ (connM l.e1).2.1, up := true }
def doM (m : Int) (l : Ln) (k n : Int) (t : ByteArray) : Ln × Int :=
  if k = 1 then sendL m l (n.tmod 2 = 0) t
  else if k = 2 then (if n.tmod 2 = 0 then carry0 l else carry1 l)
  else if k = 3 then (cutM l, 0)
  else if k = 4 then (connL l, 0)
  else (l, 1)
structure LInv (m N : Int) (l : Ln) : Prop where
  i0 : Inv m N l.e0
  i1 : Inv m N l.e1
  a0 : (l.u0.length : Int) ≤ 100 * N
  a1 : (l.u1.length : Int) ≤ 100 * N
  b0 : (l.d0.length : Int) ≤ N
  b1 : (l.d1.length : Int) ≤ N
  dn : l.up = false → l.e0.st = 0 ∧ l.e1.st = 0 ∧ l.u0 = [] ∧ l.u1 = []
  un : l.up = true → ¬ l.e0.st = 0 ∧ ¬ l.e1.st = 0
theorem take_code {e : En} {f : Fr} (h : ¬ e.st = 0) : ((takeM e f).2.2.2 = 0 ∧ ¬ (takeM e f).1.st = 0) ∨ (takeM e f).2.2.2 = 400 := by
  unfold takeM
  rw [if_neg h]
  split
  · exact .inr rfl
  split
  · exact .inl ⟨rfl, by simp⟩
  split
  · exact .inl ⟨rfl, h⟩
  split
  · exact .inl ⟨rfl, h⟩
  split
  · refine .inl ⟨rfl, ?_⟩
    simp only
    split
    · exact h
    · exact h
  · exact .inr rfl
theorem send_st {m : Int} {e : En} {t : ByteArray} : (sendM m e t).1.st = e.st ∧ (e.st = 0 → (sendM m e t).2.1 = []) := by
  unfold sendM
  split
  · exact ⟨rfl, fun _ => rfl⟩
  · split
    · exact ⟨rfl, fun _ => rfl⟩
    · refine ⟨rfl, fun h => ?_⟩
      simp only
      rw [if_neg (by omega)]
theorem LInv.mono {m N : Int} {l : Ln} (hN : 0 ≤ N) (h : LInv m N l) : LInv m (N + 1) l := by
  obtain ⟨i0, i1, a0, a1, b0, b1, dn, un⟩ := h
  exact ⟨i0.mono, i1.mono, by omega, by omega, by omega, by omega, dn, un⟩
theorem linv_cut {m N : Int} {l : Ln} (hN : 0 ≤ N) (h0 : Inv m (N + 1) (breakM l.e0)) (h1 : Inv m (N + 1) (breakM l.e1)) (b0 : (l.d0.length : Int) ≤ N) (b1 : (l.d1.length : Int) ≤ N) : LInv m (N + 1) (cutM l) :=
  ⟨h0, h1, by simp [cutM]; omega, by simp [cutM]; omega, by simp [cutM]; omega, by simp [cutM]; omega, fun _ => ⟨rfl, rfl, rfl, rfl⟩, fun h => by cases h⟩
theorem Inv.brk {m N : Int} {e : En} (h : Inv m N e) : Inv m N (breakM e) := h.st (by simp) (by simp)
theorem linv_do {m N : Int} {l : Ln} {k n : Int} {t : ByteArray} (hN : 0 ≤ N) (h : LInv m N l) : LInv m (N + 1) (doM m l k n t).1 := by
  have hm := h.mono hN
  obtain ⟨i0, i1, a0, a1, b0, b1, dn, un⟩ := h
  unfold doM
  split
  · unfold sendL
    split
    · obtain ⟨s1, s2⟩ := inv_send (t := t) i0
      obtain ⟨t1, t2⟩ := send_st (m := m) (e := l.e0) (t := t)
      refine ⟨s1, i1.mono, by simp; omega, by simp; omega, by simp; omega, by simp; omega, fun h => ?_, fun h => ?_⟩
      · obtain ⟨x1, x2, x3, x4⟩ := dn h
        exact ⟨by simp [t1, x1], x2, x3, by simp [x4, t2 x1]⟩
      · exact ⟨by simpa [t1] using (un h).1, (un h).2⟩
    · obtain ⟨s1, s2⟩ := inv_send (t := t) i1
      obtain ⟨t1, t2⟩ := send_st (m := m) (e := l.e1) (t := t)
      refine ⟨i0.mono, s1, by simp; omega, by simp; omega, by simp; omega, by simp; omega, fun h => ?_, fun h => ?_⟩
      · obtain ⟨x1, x2, x3, x4⟩ := dn h
        exact ⟨x1, by simp [t1, x2], by simp [x3, t2 x2], x4⟩
      · exact ⟨(un h).1, by simpa [t1] using (un h).2⟩
  split
  · split
    · unfold carry0
      split
      · exact hm
      · rename_i f u hu
        obtain ⟨s1, s2, s3⟩ := inv_take (f := f) i0
        split
        · exact linv_cut hN s1.brk i1.mono.brk b0 b1
        · rename_i hc
          have hup : l.up = true := by
            cases hh : l.up with
            | true => rfl
            | false => have := (dn hh).2.2.1; rw [hu] at this; cases this
          obtain ⟨y0, y1⟩ := un hup
          rcases take_code (f := f) y0 with z | z
          · rw [hu] at a0
            refine ⟨s1, i1.mono, by simp at a0 ⊢; omega, by simp; omega, by simp; omega, by simp; omega, fun h => ?_, fun h => ⟨z.2, y1⟩⟩
            rw [show l.up = false from h] at hup; cases hup
          · exact absurd z hc
    · unfold carry1
      split
      · exact hm
      · rename_i f u hu
        obtain ⟨s1, s2, s3⟩ := inv_take (f := f) i1
        split
        · exact linv_cut hN i0.mono.brk s1.brk b0 b1
        · rename_i hc
          have hup : l.up = true := by
            cases hh : l.up with
            | true => rfl
            | false => have := (dn hh).2.2.2; rw [hu] at this; cases this
          obtain ⟨y0, y1⟩ := un hup
          rcases take_code (f := f) y1 with z | z
          · rw [hu] at a1
            refine ⟨i0.mono, s1, by simp; omega, by simp at a1 ⊢; omega, by simp; omega, by simp; omega, fun h => ?_, fun h => ⟨y0, z.2⟩⟩
            rw [show l.up = false from h] at hup; cases hup
          · exact absurd z hc
  split
  · exact linv_cut hN i0.mono.brk i1.mono.brk b0 b1
  split
  · simp only
    unfold connL
    split
    · exact hm
    · rename_i hup
      have hup : l.up = false := by simpa using hup
      obtain ⟨x1, x2, x3, x4⟩ := dn hup
      obtain ⟨s1, s2⟩ := inv_conn i0
      obtain ⟨s3, s4⟩ := inv_conn i1
      refine ⟨s1, s3, by simp; omega, by simp; omega, by simp; omega, by simp; omega, fun h => (by cases h), fun _ => ⟨?_, ?_⟩⟩
      · simp [connM, x1]
      · simp [connM, x2]
  · exact hm
end Go.Proofs.Ytmjfccnmeiagbaa
