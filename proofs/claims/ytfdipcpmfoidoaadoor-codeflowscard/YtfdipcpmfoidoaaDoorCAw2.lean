/- A framework of the hand for programs over the model: abstract values, an interpreter, that it is sound. Own work. -/
import Derived.Laws.Tables
import Derived.Laws.Append
import Derived.Deep.Quiet
import Derived.Test.YtfdipcpmfoidoaaDoorCAw1
/- Stores of whole values. Own work. -/
namespace Go.Aw
open Go
def putl (e : AV) (c : Nat) : List AV -> AV
 | [] => e
 | x :: r => putl (put1 e c x) (c + 1) r
def tSz (P : Program) (t : TypeId) : Option Nat := (P.info? t).map (·.size)
def stcells (P : Program) (t : TypeId) (v : AV) : Option (List AV × Prop) :=
 match tLoad P t with
 | some none => if v.single && tSz P t == some 1 then some ([v], True) else none
 | some (some n) => match v with
  | .agg cs => some (cs, cs.length = n)
  | _ => none
 | none => none
def vstore (P : Program) (H : Hp) (t : TypeId) (x v : AV) : Option (Hp × Prop) :=
 match x with
 | .ptr o i c => match H o, stcells P t v with
  | some ob, some (xs, φ) => some (upd H o (some { ob with es := ob.es.set i (putl (ob.es.getD i .junk) c xs) }), φ /\ c + xs.length ≤ ob.sz)
  | _, _ => none
 | _ => none
theorem upd_self {H : Hp} {o : Nat} {ob : Ob} (h : H o = some ob) : upd H o (some ob) = H := by
 funext p
 by_cases e : p = o
 ·subst e; rw [upd_same, h]
 ·rw [upd_ne _ _ e]
theorem upd_upd {α : Type} (f : Nat -> α) (d : Nat) (x y : α) : upd (upd f d x) d y = upd f d y := by
 funext p
 by_cases e : p = d
 ·subst e; simp [upd_same]
 ·simp [upd_ne _ _ e]
section
variable {cx : Cx} {κ : Kz} {s : St} {a : Act} {w : World} {P : Program}
theorem RelK.rv_setCell (R : RelK cx κ s a w) {o i c b base n : Nat} {ob : Ob} {e : AV} (hH : s.H o = some ob) (hμ : κ.μ o = some (b, base, n)) (k : Nat) (v : Value) {y : AV} {u : Value} (h : RV κ s.H w y u) :
  RV κ (upd s.H o (some { ob with es := ob.es.set i (put1 e c y) })) (w.setCell ⟨b, k, none⟩ v) y u /\
  ∀ e', RV κ (upd s.H o (some { ob with es := ob.es.set i e' })) (w.setCell ⟨b, k, none⟩ v) y u := by
 have hb : ¬ κ.im b := by
  obtain ⟨_, h⟩ := R.rep o ob hH
  rcases h with ⟨h1, _⟩ | ⟨b', base', cs, el, e1, e2, _⟩ | h
  ·rw [h1] at hμ; cases hμ
  ·rw [e1] at hμ; cases hμ; exact e2
  ·obtain ⟨_, _, _, _, _, e2⟩ := h.lies hμ
   exact e2
 have key : ∀ e', RV κ (upd s.H o (some { ob with es := ob.es.set i e' })) (w.setCell ⟨b, k, none⟩ v) y u := fun e' =>
  RV.mono (fun _ h => h) (fun b2 hb2 => setCell_heap_ne v (fun e => hb (by rw [<- e]; exact hb2))) (fun o2 ob2 ho => by
   by_cases hoo : o2 = o
   ·subst hoo
    rw [hH] at ho
    cases ho
    exact ⟨_, upd_same _ _ _, rfl, rfl, by simp, rfl⟩
   ·exact ⟨ob2, by rw [upd_ne _ _ hoo]; exact ho, rfl, rfl, Nat.le_refl _, rfl⟩) h
 exact ⟨key _, key⟩
theorem one_not_agg {H : Hp} {x : AV} {u : Value} (h : RV κ H w x u) (h1 : u.oneCell' = true) : x.cells = [x] := by
 cases h with
 | agg => simp [Value.oneCell'] at h1
 | tup => simp [Value.oneCell'] at h1
 | imm h => cases h <;> rfl
 | _ => rfl
theorem store_cells {o i b base n : Nat} (c0 : Nat) : ∀ (xs : List AV) (vs : List Value) (k : Nat) (s : St) (w : World) (ob : Ob) (e : AV), RelK cx κ s a w -> s.H o = some ob -> κ.μ o = some (b, base, n) -> ob.es[i]? = some e -> c0 + k + xs.length ≤ ob.sz ->
  vs.length = xs.length -> (∀ (j : Nat) (x : AV) (u : Value), xs[j]? = some x -> vs[j]? = some u -> RV κ s.H w x u /\ u.oneCell' = true) ->
  ∃ w', (storeCells ⟨b, base + i * ob.sz + c0, none⟩ vs k).run P w = .ok () w' /\ RelK cx κ { s with H := upd s.H o (some { ob with es := ob.es.set i (putl e (c0 + k) xs) }) } a w'
 | [], [], k, s, w, ob, e, R, hH, hμ, he, _, _, _ => by
  refine ⟨w, rfl, ?_⟩
  have h1 : ob.es.set i e = ob.es := by
   apply List.ext_getElem?
   intro j
   rw [List.getElem?_set]
   split
   ·rename_i hij
    subst hij
    have := (List.getElem?_eq_some_iff.1 he).1
    rw [if_pos this, he]
   ·rfl
  simp only [putl, h1, upd_self hH]
  exact R
 | [], _ :: _, _, _, _, _, _, _, _, _, _, _, hl, _ => by simp at hl
 | _ :: _, [], _, _, _, _, _, _, _, _, _, _, hl, _ => by simp at hl
 | x :: xs, v :: vs, k, s, w, ob, e, R, hH, hμ, he, hc, hl, hr => by
  obtain ⟨hx, h1⟩ := hr 0 x v rfl rfl
  obtain ⟨h0, _⟩ := R.rep o ob hH
  have hlen : c0 + k < e.cells.length := by rw [h0 i e he]; simp at hc; omega
  have hx0 := List.getElem?_eq_getElem hlen
  obtain ⟨u0, g1, g2, g3, g4⟩ := R.at_cell hH hμ he hx0
  have R' := R.setCell hH hμ he hx0 (one_not_agg hx h1) hx h1
  have he' : (ob.es.set i (put1 e (c0 + k) x))[i]? = some (put1 e (c0 + k) x) := by
   rw [List.getElem?_set]
   have := (List.getElem?_eq_some_iff.1 he).1
   simp [this]
  obtain ⟨w', f1, f2⟩ := store_cells c0 xs vs (k + 1) { s with H := upd s.H o (some { ob with es := ob.es.set i (put1 e (c0 + k) x) }) } (w.setCell ⟨b, base + i * ob.sz + (c0 + k), none⟩ v)
   {ob with es := ob.es.set i (put1 e (c0 + k) x) } (put1 e (c0 + k) x) R' (upd_same _ _ _) hμ he' (by simp at hc ⊢; omega) (by simpa using hl)
   (fun j y u hy hu => ⟨(R.rv_setCell (e := e) (c := 0) hH hμ _ v (hr (j + 1) y u hy hu).1).2 _, (hr (j + 1) y u hy hu).2⟩)
  refine ⟨w', ?_, ?_⟩
  ·simp only [storeCells, Sem.run_bind]
   rw [Addr.add_lit, run_store _ _ _ _ _ h1, show base + i * ob.sz + c0 + k = base + i * ob.sz + (c0 + k) by omega, g1]
   simp only [g4, Bool.false_eq_true, if_false, Result.andThen_ok]
   exact f1
  ·simp only [upd_upd, List.set_set] at f2
   simp only [putl]
   exact f2
theorem vstore_sound (R : RelK cx κ s a w) {t : TypeId} {x v : AV} {H' : Hp} {φ : Prop} (h : vstore cx.P s.H t x v = some (H', φ)) (hφ : φ) {vx vv : Value} (hx : RV κ s.H w x vx) (hv : RV κ s.H w v vv) :
  ∃ w', (Instr.storeAt t vx vv).run cx.P w = .ok () w' /\ RelK cx κ { s with H := H' } a w' := by
 unfold vstore at h
 split at h
 case h_2 => cases h
 rename_i o i c
 split at h
 case h_2 => cases h
 rename_i ob xs φ' hob hst
 cases h
 obtain ⟨hφ, hc⟩ := hφ
 cases hx with
 | imm h => cases h
 | ptr _ _ _ ob' b base n hH hμ hlt =>
  rw [hob] at hH
  cases hH
  have he : ob.es[i]? = some (ob.es.getD i .junk) := by rw [List.getD_eq_getElem?_getD, List.getElem?_eq_getElem hlt]; rfl
  have hvc : v.storable = true /\ v.cells = xs /\ ∃ n, (sizeOf t).run cx.P w = .ok n w /\ xs.length = n := by
   unfold stcells at hst
   split at hst
   ·rename_i hl
    split at hst
    ·rename_i hs
     cases hst
     simp only [Bool.and_eq_true, beq_iff_eq] at hs
     obtain ⟨i, h1, h2⟩ := Option.map_eq_some_iff.1 (show (cx.P.info? t).map (·.size) = some 1 from hs.2)
     exact ⟨by cases v <;> simp_all [AV.storable, AV.single], AV.single_cells hs.1, 1, h2 ▸ run_sizeOf h1, rfl⟩
    ·cases hst
   ·rename_i m hl
    split at hst
    ·cases hst
     exact ⟨rfl, rfl, m, (tLoad_agg hl).2, hφ⟩
    ·cases hst
   ·cases hst
  obtain ⟨hst', hcs, m, hsz, hm⟩ := hvc
  obtain ⟨c1, c2⟩ := hv.cells hst'
  rw [hcs] at c1 c2
  obtain ⟨w', f1, f2⟩ := store_cells (P := cx.P) c xs vv.cells.toList 0 s w ob _ R hob hμ he (by omega) (by simpa using c1) (fun j y u hy hu => by
   obtain ⟨u', k1, k2, k3⟩ := c2 j y hy
   rw [Array.getElem?_toList] at hu
   rw [k1] at hu
   cases hu
   exact ⟨k2, k3⟩)
  refine ⟨w', ?_, f2⟩
  simp only [Instr.storeAt, Instr.sureAddr, pure_bind, storeVar, Sem.run_bind, hsz, Result.andThen_ok]
  rw [if_neg (by omega)]
  exact f1
end
end Go.Aw

/- append. Own work. -/
namespace Go.Aw
open Go
section
variable {cx : Cx} {κ : Kz} {s : St} {a : Act} {w w' : World} {P : Program}
theorem RelK.block_free (R : RelK cx κ s a w) {b : Nat} (hcb : ∀ ds, w.heap[b]? ≠ some (.deferred ds)) (him : ¬ κ.im b) (hM : cx.M b \/ cx.w0.heap.size ≤ b) (hno : ∀ o ob x, s.H o = some ob -> κ.μ o = some x -> x.1 ≠ b)
  (hos : w'.os = w.os) (ht : w'.tape = w.tape) (ho : w'.output = w.output) (hs : w'.heap.size = w.heap.size) (hb : ∀ b', b' ≠ b -> w'.heap[b']? = w.heap[b']?) : RelK cx κ s a w' := by
 have hm : ∀ {x : AV} {v : Value}, RV κ s.H w x v -> RV κ s.H w' x v := fun h => h.mono (fun _ h => h) (fun b' hb' => hb b' (fun e => him (e ▸ hb'))) (Same.refl _ _)
 refine ⟨fun o ob hH => ?_, R.inj, fun t => hm (R.env t), R.size, ⟨R.defers.1.mono fun D _ h => by rw [hb D fun e => hcb _ (e ▸ h)]; exact h, R.defers.2⟩, hos.trans R.os, ht.trans R.tape, ho.trans R.output, by rw [hs]; exact R.le, fun b' hlt hM' => ?_, R.own, R.im0,
  fun b' hb' => by rw [hs]; exact R.imlt b' hb', R.imnew, R.pin, R.pinlo, fun g => hm (R.glob g)⟩
 ·obtain ⟨h0, h⟩ := R.rep o ob hH
  refine ⟨h0, ?_⟩
  rcases h with h | ⟨b', base, cs, el, e1, e2, e3, e4, e5⟩ | h
  ·exact .inl h
  ·refine .inr (.inl ⟨b', base, cs, el, e1, e2, by rw [hb b' (hno o ob _ hH e1)]; exact e3, e4, fun i e j x hi hj => ?_⟩)
   obtain ⟨v, g1, g2, g3⟩ := e5 i e j x hi hj
   exact ⟨v, g1, hm g2, g3⟩
  ·exact .inr (.inr (h.same rfl (fun _ _ h => h) (fun x hx => hb _ (hno o ob _ hH hx)) hm))
 ·rw [hb b' (fun e => ?_)]
  ·exact R.block b' hlt hM'
  ·subst e
   rcases hM with h | h
   ·exact hM' h
   ·omega
theorem RelK.adopt (R : RelK cx κ s a w) {d b base sz : Nat} {es : List AV} {cs : Array Value} {el : TypeId} (hd : d < 100000) (hn : s.H d = none) (him : ¬ κ.im b) (hM : cx.M b \/ cx.w0.heap.size ≤ b)
  (hno : ∀ o ob x, s.H o = some ob -> κ.μ o = some x -> x.1 ≠ b) (hb : w.heap[b]? = some (.cells cs el (0, 0))) (hfit : base + es.length * sz ≤ cs.size)
  (hz : ∀ (i : Nat) (e : AV), es[i]? = some e -> e.cells.length = sz)
  (hc : ∀ (i : Nat) (e : AV) (j : Nat) (x : AV), es[i]? = some e -> e.cells[j]? = some x -> ∃ v, cs[base + i * sz + j]? = some v /\ RV κ s.H w x v /\ v.oneCell' = true) :
  RelK cx { κ with μ := upd κ.μ d (some (b, base, cs.size)) } { s with H := upd s.H d (some ⟨false, sz, es⟩) } a w := by
 have hm : ∀ {x : AV} {v : Value}, RV κ s.H w x v -> RV { κ with μ := upd κ.μ d (some (b, base, cs.size)) } (upd s.H d (some ⟨false, sz, es⟩)) w x v := fun h =>
  RV.mono (κ := κ) (κ' := { κ with μ := upd κ.μ d (some (b, base, cs.size)) }) (fun _ h => h) (fun _ _ => rfl) (fun o ob ho => by
   have hne : o ≠ d := fun e => by rw [e, hn] at ho; cases ho
   exact ⟨ob, by rw [upd_ne _ _ hne]; exact ho, rfl, rfl, Nat.le_refl _, upd_ne _ _ hne⟩) h
 refine ⟨fun o ob hH => ?_, fun o o' ob1 ob2 x x' h1 h2 hx hx' he => ?_, fun t => hm (R.env t), R.size, R.defers, R.os, R.tape, R.output, R.le, R.block, fun o ob x ho hx => ?_, R.im0, R.imlt, R.imnew,
  fun o ob x hp ho => ?_, R.pinlo, fun g => hm (R.glob g)⟩
 ·by_cases hod : o = d
  ·subst hod
   simp only [upd_same, Option.some.injEq] at hH
   subst hH
   refine ⟨hz, .inr (.inl ⟨b, base, cs, el, upd_same _ _ _, him, hb, hfit, fun i e j x hi hj => ?_⟩)⟩
   obtain ⟨v, g1, g2, g3⟩ := hc i e j x hi hj
   exact ⟨v, g1, hm g2, g3⟩
  ·simp only [upd_ne _ _ hod] at hH
   obtain ⟨h0, h⟩ := R.rep o ob hH
   refine ⟨h0, ?_⟩
   rcases h with ⟨h1, h2, h3⟩ | ⟨b', base', cs', el', e1, e2, e3, e4, e5⟩ | h
   ·exact .inl ⟨by show upd κ.μ d _ o = none; rw [upd_ne _ _ hod]; exact h1, h2, h3⟩
   ·refine .inr (.inl ⟨b', base', cs', el', by show upd κ.μ d _ o = _; rw [upd_ne _ _ hod]; exact e1, e2, e3, e4, fun i e j x hi hj => ?_⟩)
    obtain ⟨v, g1, g2, g3⟩ := e5 i e j x hi hj
    exact ⟨v, g1, hm g2, g3⟩
   ·exact .inr (.inr (h.same (upd_ne _ _ hod) (fun _ _ h => h) (fun _ _ => rfl) hm))
 ·by_cases c1 : o = d <;> by_cases c2 : o' = d
  ·rw [c1, c2]
  ·subst c1
   simp only [upd_ne _ _ c2] at h2 hx'
   simp only [upd_same, Option.some.injEq] at hx
   subst hx
   exact absurd he.symm (hno o' ob2 x' h2 hx')
  ·subst c2
   simp only [upd_ne _ _ c1] at h1 hx
   simp only [upd_same, Option.some.injEq] at hx'
   subst hx'
   exact absurd he (hno o ob1 x h1 hx)
  ·simp only [upd_ne _ _ c1] at h1 hx
   simp only [upd_ne _ _ c2] at h2 hx'
   exact R.inj o o' ob1 ob2 x x' h1 h2 hx hx' he
 ·by_cases c1 : o = d
  ·subst c1
   simp only [upd_same, Option.some.injEq] at hx
   subst hx
   exact hM
  ·simp only [upd_ne _ _ c1] at ho hx
   exact R.own o ob x ho hx
 ·have h1 : o ≠ d := fun e => by have := R.pinlo o x hp; omega
  simp only [upd_ne _ _ h1] at ho
  show upd κ.μ d _ o = _
  rw [upd_ne _ _ h1]
  exact R.pin o ob x hp ho
theorem RelK.adopt_nil (R : RelK cx κ s a w) {d : Nat} (sz : Nat) (hd : d < 100000) (hn : s.H d = none) : RelK cx { κ with μ := upd κ.μ d none } { s with H := upd s.H d (some ⟨false, sz, []⟩) } a w := by
 have hm : ∀ {x : AV} {v : Value}, RV κ s.H w x v -> RV { κ with μ := upd κ.μ d none } (upd s.H d (some ⟨false, sz, []⟩)) w x v := fun h =>
  RV.mono (κ := κ) (κ' := { κ with μ := upd κ.μ d none }) (fun _ h => h) (fun _ _ => rfl) (fun o ob ho => by
   have hne : o ≠ d := fun e => by rw [e, hn] at ho; cases ho
   exact ⟨ob, by rw [upd_ne _ _ hne]; exact ho, rfl, rfl, Nat.le_refl _, upd_ne _ _ hne⟩) h
 refine ⟨fun o ob hH => ?_, fun o o' ob1 ob2 x x' h1 h2 hx hx' he => ?_, fun t => hm (R.env t), R.size, R.defers, R.os, R.tape, R.output, R.le, R.block, fun o ob x ho hx => ?_, R.im0, R.imlt, R.imnew,
  fun o ob x hp ho => ?_, R.pinlo, fun g => hm (R.glob g)⟩
 ·by_cases hod : o = d
  ·subst hod
   simp only [upd_same, Option.some.injEq] at hH
   subst hH
   exact ⟨by simp, .inl ⟨upd_same _ _ _, rfl, rfl⟩⟩
  ·simp only [upd_ne _ _ hod] at hH
   obtain ⟨h0, h⟩ := R.rep o ob hH
   refine ⟨h0, ?_⟩
   rcases h with ⟨h1, h2, h3⟩ | ⟨b', base', cs', el', e1, e2, e3, e4, e5⟩ | h
   ·exact .inl ⟨by show upd κ.μ d _ o = none; rw [upd_ne _ _ hod]; exact h1, h2, h3⟩
   ·refine .inr (.inl ⟨b', base', cs', el', by show upd κ.μ d _ o = _; rw [upd_ne _ _ hod]; exact e1, e2, e3, e4, fun i e j x hi hj => ?_⟩)
    obtain ⟨v, g1, g2, g3⟩ := e5 i e j x hi hj
    exact ⟨v, g1, hm g2, g3⟩
   ·exact .inr (.inr (h.same (upd_ne _ _ hod) (fun _ _ h => h) (fun _ _ => rfl) hm))
 ·by_cases c1 : o = d
  ·subst c1; simp only [upd_same] at hx; cases hx
  ·by_cases c2 : o' = d
   ·subst c2; simp only [upd_same] at hx'; cases hx'
   ·simp only [upd_ne _ _ c1] at h1 hx
    simp only [upd_ne _ _ c2] at h2 hx'
    exact R.inj o o' ob1 ob2 x x' h1 h2 hx hx' he
 ·by_cases c1 : o = d
  ·subst c1; simp only [upd_same] at hx; cases hx
  ·simp only [upd_ne _ _ c1] at ho hx
   exact R.own o ob x ho hx
 ·have h1 : o ≠ d := fun e => by have := R.pinlo o x hp; omega
  simp only [upd_ne _ _ h1] at ho
  show upd κ.μ d _ o = _
  rw [upd_ne _ _ h1]
  exact R.pin o ob x hp ho
end
/-! ### What append and copy read -/
def bytesE (s : ByteArray) : List AV := s.data.toList.map fun b => .int .u8 b.toNat
def srcE (H : Hp) (sz : Nat) (x : AV) : Option (List AV × Prop) :=
 match x with
 | .ro z es => some (es, z = sz)
 | .nilsl => some ([], True)
 | .sl o lo len => match H o with
  | some ob => some ((ob.es.drop lo).take len, ob.sz = sz)
  | none => none
 | .str s => some (bytesE s, sz = 1)
 | .asl o i c len esz => match H o with
  | some ob => if esz = 1 then some (((ob.es.getD i .junk).cells.drop c).take len, sz = 1) else none
  | none => none
 | _ => none
section
variable {cx : Cx} {κ : Kz} {s : St} {a : Act} {w w' : World} {P : Program}
theorem range_div {n sz k : Nat} (h : k < n * sz) : k / sz < n /\ k % sz < sz /\ (k / sz) * sz + k % sz = k := by
 have hs : 0 < sz := by
  rcases Nat.eq_zero_or_pos sz with h0 | h0
  ·subst h0; simp at h
  ·exact h0
 exact ⟨Nat.div_lt_of_lt_mul (by rwa [Nat.mul_comm]), Nat.mod_lt _ hs, by rw [Nat.mul_comm]; exact Nat.div_add_mod k sz⟩
theorem first_cells {H : Hp} {sz b off cap : Nat} {es : List AV} {A : Option Addr} (hA : 0 < es.length -> A = some ⟨b, off, none⟩) (hz : ∀ (i : Nat) (e : AV), es[i]? = some e -> e.cells.length = sz)
  (hc : ∀ (i : Nat) (e : AV) (j : Nat) (x : AV), es[i]? = some e -> e.cells[j]? = some x -> ∃ v, w.cell? ⟨b, off + i * sz + j, none⟩ = some v /\ RV κ H w x v /\ v.oneCell' = true) :
  ∃ us : List Value, (∀ w2 : World, w2.heap = w.heap -> (Builtin.firstCells sz es.length (.slice A es.length cap)).run P w2 = .ok us.toArray w2) /\ us.length = es.length * sz /\ Cov κ H w sz es us.toArray := by
 rcases Nat.eq_zero_or_pos es.length with h0 | hpos
 ·have : es = [] := List.eq_nil_of_length_eq_zero h0
  subst this
  refine ⟨[], fun w2 _ => ?_, by simp, ⟨by simp, by simp⟩⟩
  cases A with
  | none => simp [Builtin.firstCells]
  | some ad => simp [Builtin.firstCells, loadCells, loadCellsFrom]
 ·have hA := hA hpos
  subst hA
  let f : Nat -> Value := fun k => (w.cell? ⟨b, off + k, none⟩).getD undef
  have hk : ∀ k, k < es.length * sz -> ∃ v, w.cell? ⟨b, off + k, none⟩ = some v := fun k hk => by
   obtain ⟨h1, h2, h3⟩ := range_div hk
   have he := List.getElem?_eq_getElem h1
   obtain ⟨v, g, _⟩ := hc (k / sz) _ (k % sz) _ he (List.getElem?_eq_getElem (by rw [hz _ _ he]; exact h2))
   rw [show off + k / sz * sz + k % sz = off + k by omega] at g
   exact ⟨v, g⟩
  refine ⟨(List.range (es.length * sz)).map f, fun w2 hw2 => ?_, by simp, ⟨hz, fun i e j x hi hj => ?_⟩⟩
  ·simp only [Builtin.firstCells]
   refine run_loadCells w2 _ _ f (fun j hj => ?_)
   obtain ⟨v, g⟩ := hk j hj
   rw [Addr.add_lit]
   show w2.cell? ⟨b, off + j, none⟩ = some ((w.cell? ⟨b, off + j, none⟩).getD undef)
   rw [heap_cell (w := w) (by rw [hw2]), g]
   rfl
  ·obtain ⟨v, g1, g2, g3⟩ := hc i e j x hi hj
   refine ⟨v, ?_, g2, g3⟩
   have h1 : i < es.length := (List.getElem?_eq_some_iff.1 hi).1
   have h2 : j < sz := by rw [<- hz i e hi]; exact (List.getElem?_eq_some_iff.1 hj).1
   have hlt : i * sz + j < es.length * sz := by
    have : (i + 1) * sz ≤ es.length * sz := Nat.mul_le_mul_right _ h1
    rw [Nat.succ_mul] at this
    omega
   rw [List.getElem?_toArray, List.getElem?_map, List.getElem?_range hlt]
   simp only [Option.map_some, f, <- Nat.add_assoc, g1, Option.getD_some]
theorem src_sound (R : RelK cx κ s a w) {sz : Nat} {x : AV} {ys : List AV} {φ : Prop} (h : srcE s.H sz x = some (ys, φ)) (hφ : φ) {vx : Value} (hx : RV κ s.H w x vx) :
  (∀ w2 : World, (Builtin.lenOf vx).run P w2 = .ok ys.length w2) /\
  ∃ us : List Value, (∀ w2 : World, w2.heap = w.heap -> (Builtin.firstCells sz ys.length vx).run P w2 = .ok us.toArray w2) /\ us.length = ys.length * sz /\ Cov κ s.H w sz ys us.toArray := by
 unfold srcE at h
 split at h
 ·rename_i z es
  cases h
  subst hφ
  cases hx with
  | imm h =>
   cases h with
   | ro _ _ A cap b off vs hA hcap hz hc hr =>
    refine ⟨fun w2 => rfl, first_cells (b := b) (off := off) (fun h => (hA h).1) hz (fun i e j x hi hj => ⟨vs i j, hc i e j x hi hj, .imm (hr i e j x hi hj), (hr i e j x hi hj).one⟩)⟩
 ·cases h
  obtain rfl := hx.nilsl_inv
  exact ⟨fun w2 => rfl, [], fun w2 _ => by simp [Builtin.firstCells], by simp, ⟨by simp, by simp⟩⟩
 ·rename_i o lo len
  split at h
  case h_2 => cases h
  rename_i ob hob
  cases h
  subst hφ
  cases hx with
  | imm h => cases h
  | sl _ _ _ ob' A cap hH hbox hlen hcap hA =>
   rw [hob] at hH
   cases hH
   have hl : ((ob.es.drop lo).take len).length = len := by rw [List.length_take, List.length_drop]; omega
   have hg : ∀ (i : Nat) (e : AV), ((ob.es.drop lo).take len)[i]? = some e -> ob.es[lo + i]? = some e := fun i e hi => by
    rw [List.getElem?_take] at hi
    split at hi
    ·rwa [List.getElem?_drop] at hi
    ·cases hi
   obtain ⟨h0, _⟩ := R.rep o ob hob
   rcases hA with hA | ⟨b, base, n, e1, e2, e3⟩
   ·have hl0 : len = 0 := by omega
    subst hl0
    have := first_cells (P := P) (κ := κ) (H := s.H) (w := w) (sz := ob.sz) (b := 0) (off := 0) (cap := cap) (es := (ob.es.drop lo).take 0) (A := A) (by simp) (by simp) (by simp)
    rw [hl] at this ⊢
    exact ⟨fun w2 => rfl, this⟩
   ·have := first_cells (P := P) (κ := κ) (H := s.H) (w := w) (sz := ob.sz) (b := b) (off := base + lo * ob.sz) (cap := cap) (es := (ob.es.drop lo).take len) (A := A) (fun _ => e2) (fun i e hi => h0 _ e (hg i e hi)) (fun i e j x hi hj => by
     obtain ⟨v, g1, g2, g3, _⟩ := R.at_cell hob e1 (hg i e hi) hj
     refine ⟨v, ?_, g2, g3⟩
     rwa [show base + lo * ob.sz + i * ob.sz + j = base + (lo + i) * ob.sz + j by rw [Nat.add_mul]; omega])
    rw [hl] at this ⊢
    exact ⟨fun w2 => rfl, this⟩
 ·rename_i b
  cases h
  subst hφ
  obtain rfl := hx.str_inv
  refine ⟨fun w2 => by simp [Builtin.lenOf, bytesE], (bytesE b).map fun x => match x with | .int k n => .int k n | _ => undef, fun w2 _ => ?_, by simp, ⟨fun i e hi => ?_, fun i e j x hi hj => ?_⟩⟩
  ·simp [Builtin.firstCells, bytesE]
   apply Array.ext'
   simp [Function.comp_def]
  ·simp only [bytesE, List.getElem?_map] at hi
   obtain ⟨y, _, rfl⟩ := Option.map_eq_some_iff.1 hi
   rfl
  ·simp only [bytesE, List.getElem?_map] at hi
   obtain ⟨y, hy, rfl⟩ := Option.map_eq_some_iff.1 hi
   cases j with
   | zero =>
    cases hj
    refine ⟨.int .u8 y.toNat, ?_, .int _ _, rfl⟩
    simp [bytesE, hy]
   | succ j => simp [AV.cells] at hj
 ·rename_i o i c len esz
  split at h
  case h_2 => cases h
  rename_i ob hob
  split at h
  case isFalse => cases h
  rename_i he1
  subst he1
  cases h
  subst hφ
  cases hx with
  | imm h => cases h
  | asl _ _ _ _ _ ob' A cap b base n hH hμ hlt hlen hcap hA =>
   rw [hob] at hH
   cases hH
   have he : ob.es[i]? = some (ob.es.getD i .junk) := by rw [List.getD_eq_getElem?_getD, List.getElem?_eq_getElem hlt]; rfl
   obtain ⟨h0, _⟩ := R.rep o ob hob
   have hsz := h0 i _ he
   have hl : (((ob.es.getD i .junk).cells.drop c).take len).length = len := by rw [List.length_take, List.length_drop, hsz]; omega
   have hg : ∀ (k : Nat) (x : AV), (((ob.es.getD i .junk).cells.drop c).take len)[k]? = some x -> (ob.es.getD i .junk).cells[c + k]? = some x := fun k x hk => by
    rw [List.getElem?_take] at hk
    split at hk
    ·rwa [List.getElem?_drop] at hk
    ·cases hk
   have hone : ∀ (k : Nat) (x : AV), (((ob.es.getD i .junk).cells.drop c).take len)[k]? = some x -> x.cells = [x] := fun k x hk => by
    obtain ⟨v, g1, g2, g3, _⟩ := R.at_cell hob hμ he (hg k x hk)
    exact one_not_agg g2 g3
   have := first_cells (P := P) (κ := κ) (H := s.H) (w := w) (sz := 1) (b := b) (off := base + i * ob.sz + c) (cap := cap) (es := ((ob.es.getD i .junk).cells.drop c).take len) (A := A)
    (fun hp => by rw [hl] at hp; exact hA.resolve_left (by omega)) (fun k e hk => by rw [hone k e hk]; rfl) (fun k e j x hk hj => by
     rw [hone k e hk] at hj
     cases j with
     | zero =>
      cases hj
      obtain ⟨v, g1, g2, g3, _⟩ := R.at_cell hob hμ he (hg k e hk)
      refine ⟨v, ?_, g2, g3⟩
      rwa [show base + i * ob.sz + c + k * 1 + 0 = base + i * ob.sz + (c + k) by omega]
     | succ j => simp at hj)
   rw [hl] at this ⊢
   exact ⟨fun w2 => rfl, this⟩
 ·cases h
def vappend (P : Program) (s : St) (t : TypeId) (d : Nat) (x y : AV) : Option (St × AV × Prop) :=
 match tSliceElem P t with
 | none => none
 | some e => match tZero P e with
  | none => none
  | some zs => match srcE s.H zs.length y with
   | none => none
   | some (ys, φ) => match x with
    | .nilsl => some ({ s with H := upd s.H d (some ⟨false, zs.length, ys⟩) }, .sl d 0 ys.length, φ /\ s.H d = none /\ ys.length * P.bytesOf e ≤ 140737488355328 /\ ys.length ≤ 9223372036854775807)
    | .sl o lo len => match s.H o with
     | none => none
     | some ob =>
      some ({ s.drop o with H := upd (s.drop o).H d (some ⟨false, zs.length, (ob.es.drop lo).take len ++ ys⟩) }, .sl d 0 (len + ys.length),
       φ /\ (d = o \/ s.H d = none) /\ ob.sz = zs.length /\ (∀ e ∈ (ob.es.drop lo).take len ++ ys, kill o e = e) /\ (len + ys.length) * P.bytesOf e ≤ 140737488355328 /\ len + ys.length ≤ 9223372036854775807)
    | _ => none
theorem size_zc (z : Array Value) (n : Nat) : (Builtin.zeroCells z n).size = n * z.size := by simp [Builtin.zeroCells]
theorem cov_app {H : Hp} {sz : Nat} {es ys : List AV} {us vs : List Value} (hu : us.length = es.length * sz) (h1 : Cov κ H w sz es us.toArray) (h2 : Cov κ H w sz ys vs.toArray) (rest : Array Value) : Cov κ H w sz (es ++ ys) (us.toArray ++ vs.toArray ++ rest) := by
 have hlen : ∀ (i : Nat) (e : AV) (j : Nat) (x : AV), es[i]? = some e -> e.cells[j]? = some x -> i * sz + j < us.length := fun i e j x hi hj => by
  have a1 : i < es.length := (List.getElem?_eq_some_iff.1 hi).1
  have a2 : j < sz := by rw [<- h1.1 i e hi]; exact (List.getElem?_eq_some_iff.1 hj).1
  have : (i + 1) * sz ≤ es.length * sz := Nat.mul_le_mul_right _ a1
  rw [Nat.succ_mul] at this
  omega
 refine ⟨fun i e hi => ?_, fun i e j x hi hj => ?_⟩
 ·rw [List.getElem?_append] at hi
  split at hi
  ·exact h1.1 i e hi
  ·exact h2.1 _ e hi
 ·rw [List.getElem?_append] at hi
  split at hi
  ·obtain ⟨v, g1, g2, g3⟩ := h1.2 i e j x hi hj
   have hl := hlen i e j x hi hj
   refine ⟨v, ?_, g2, g3⟩
   rw [Array.append_assoc, Array.getElem?_append_left (by simpa using hl)]
   exact g1
  ·rename_i hge
   obtain ⟨v, g1, g2, g3⟩ := h2.2 _ e j x hi hj
   refine ⟨v, ?_, g2, g3⟩
   have hl : (i - es.length) * sz + j < vs.length := by
    have := (Array.getElem?_eq_some_iff.1 g1).1
    simpa using this
   have he : i * sz + j = us.length + ((i - es.length) * sz + j) := by
    have h3 : i * sz = es.length * sz + (i - es.length) * sz := by rw [<- Nat.add_mul]; congr 1; omega
    omega
   rw [Array.getElem?_append_left (by simp; omega), Array.getElem?_append_right (by simp; omega)]
   have h5 : i * sz + j - us.toArray.size = (i - es.length) * sz + j := by simp; omega
   rw [h5]
   exact g1
theorem cov_rv {H H' : Hp} {κ' : Kz} {w2 : World} {sz : Nat} {es : List AV} {cs : Array Value} (h : Cov κ H w sz es cs) (hm : ∀ {x : AV} {v : Value}, RV κ H w x v -> RV κ' H' w2 x v) : Cov κ' H' w2 sz es cs :=
 ⟨h.1, fun i e j x hi hj => by
  obtain ⟨v, g1, g2, g3⟩ := h.2 i e j x hi hj
  exact ⟨v, g1, hm g2, g3⟩⟩
theorem RelK.grown (R : RelK cx κ s a w) {d : Nat} (hd : d < 100000) (hn : s.H d = none) (el : TypeId) {sz cap : Nat} {es ys : List AV} {us vs : List Value} {zc : Array Value} (hz : zc.size = sz) (hu : us.length = es.length * sz) (hv : vs.length = ys.length * sz)
  (h1 : Cov κ s.H w sz es us.toArray) (h2 : Cov κ s.H w sz ys vs.toArray) (hcap : es.length + ys.length ≤ cap) :
  ∃ κ', RelK cx κ' { s with H := upd s.H d (some ⟨false, sz, es ++ ys⟩) } a (w.drew.alloc (.cells (us.toArray ++ vs.toArray ++ Builtin.zeroCells zc (cap - (es.length + ys.length))) el)) /\
   RV κ' (upd s.H d (some ⟨false, sz, es ++ ys⟩)) (w.drew.alloc (.cells (us.toArray ++ vs.toArray ++ Builtin.zeroCells zc (cap - (es.length + ys.length))) el)) (.sl d 0 (es.length + ys.length)) (.slice (some ⟨w.heap.size, 0, none⟩) (es.length + ys.length) cap) := by
 have R' : RelK cx κ s a w.drew := R.drew
 have hcov : Cov κ s.H w.drew sz (es ++ ys) (us.toArray ++ vs.toArray ++ Builtin.zeroCells zc (cap - (es.length + ys.length))) :=
  cov_rv (cov_app hu h1 h2 _) (fun h => RV.mono (w := w) (w' := w.drew) (fun _ h => h) (fun _ _ => rfl) (Same.refl _ _) h)
 have hs : (us.toArray ++ vs.toArray ++ Builtin.zeroCells zc (cap - (es.length + ys.length))).size = cap * sz := by
  simp only [Array.size_append, List.size_toArray, hu, hv, size_zc, hz]
  rw [<- Nat.add_mul, <- Nat.add_mul]
  congr 1
  omega
 have hle : (es.length + ys.length) * sz ≤ cap * sz := Nat.mul_le_mul_right _ hcap
 exact R'.row hd hn el (n := es.length + ys.length) (cap := cap) hcov (by rw [hs]; simpa using hle) (by simp) hcap (by rw [hs]; exact Nat.le_refl _)
theorem run_append_room' {t t2 e : TypeId} {i : TypeInfo} (hu : P.underlying t = some (.slice e)) (hi : P.info? e = some i) (ht2 : (∃ e, P.underlying t2 = some (.slice e)) \/ P.underlying t2 = some .string)
  {A : Option Addr} {sLen sCap n : Nat} {vy : Value} {us : Array Value} (hl : (Builtin.lenOf vy).run P w = .ok n w) (hf : (Builtin.firstCells i.size n vy).run P w = .ok us w) (hroom : sLen + n ≤ sCap) (ty : TypeId) :
  (Builtin.append_ #[t, t2] ty #[.slice A sLen sCap, vy]).run P w =
   match A with
   | some ad => ((storeCells (ad.add (sLen * i.size)) us.toList).run P w).andThen fun _ w' => .ok (.slice A (sLen + n) sCap) w'
   | none => .ok (.slice A (sLen + n) sCap) w := by
 rcases ht2 with ⟨e2, he2⟩ | he2 <;> cases A <;> simp [Builtin.append_, run_underlying hu, run_underlying he2, run_sizeOf hi, hl, hf, hroom]
theorem run_append_new' {t t2 e : TypeId} {i : TypeInfo} {z : Value} (hu : P.underlying t = some (.slice e)) (hi : P.info? e = some i) (hz : i.zero = some z) (ht2 : (∃ e, P.underlying t2 = some (.slice e)) \/ P.underlying t2 = some .string)
  {A : Option Addr} {sLen sCap n : Nat} {vy : Value} {us os : Array Value} (hl : (Builtin.lenOf vy).run P w = .ok n w) (hf : (Builtin.firstCells i.size n vy).run P w.drew = .ok us w.drew)
  (ho : (Builtin.firstCells i.size sLen (.slice A sLen sCap)).run P w.drew = .ok os w.drew) (hroom : sCap < sLen + n) (hb : (sLen + n) * i.bytes ≤ 140737488355328) (h63 : sLen + n ≤ 9223372036854775807) (ty : TypeId) :
  (Builtin.append_ #[t, t2] ty #[.slice A sLen sCap, vy]).run P w =
   .ok (.slice (some ⟨w.heap.size, 0, none⟩) (sLen + n) (grownCap w (sLen + n) sCap e)) (w.drew.alloc (.cells (os ++ us ++ Builtin.zeroCells z.cells (grownCap w (sLen + n) sCap e - (sLen + n))) e)) := by
 have hn : ¬ (sLen + n ≤ sCap) := by omega
 have h63' : ¬ (9223372036854775807 < ((sLen : Int) + (n : Int))) := by omega
 have h48' : ¬ (281474976710656 < Builtin.nextslicecap (sLen + n) sCap * i.bytes) := by have := growslice_fits (bytes := i.bytes) hroom hb; omega
 rcases ht2 with ⟨e2, he2⟩ | he2 <;> simp [Builtin.append_, run_underlying hu, run_underlying he2, run_sizeOf hi, run_typeInfo hi, run_zeroValue hi hz, hl, hf, ho, hn, h63', h48', Question.forced, newRow, grownCap]
theorem vappend_sound (R : RelK cx κ s a w) {t : TypeId} {d : Nat} (hd : d < 100000) {x y v : AV} {s' : St} {φ : Prop} (hG : ∀ o g, kill o (cx.G g) = cx.G g) (h : vappend cx.P s t d x y = some (s', v, φ)) (hφ : φ) {vx vy : Value} (hx : RV κ s.H w x vx) (hy : RV κ s.H w y vy)
  (t2 : TypeId) (ht2 : (∃ e, cx.P.underlying t2 = some (.slice e)) \/ cx.P.underlying t2 = some .string) (ty : TypeId) :
  ∃ u w' κ', (Builtin.append_ #[t, t2] ty #[vx, vy]).run cx.P w = .ok u w' /\ RelK cx κ' s' a w' /\ RV κ' s'.H w' v u := by
 unfold vappend at h
 split at h
 case h_1 => cases h
 rename_i e hte
 split at h
 case h_1 => cases h
 rename_i zs hz
 split at h
 case h_1 => cases h
 rename_i ys φ' hsrc
 have hu : cx.P.underlying t = some (.slice e) := by
  unfold tSliceElem at hte
  split at hte
  ·cases hte; assumption
  ·cases hte
 obtain ⟨i, z, h1, h2, h3, h4, h5, h6⟩ := tZero_spec hz
 have hby : cx.P.bytesOf e = i.bytes := by simp [Program.bytesOf, h1]
 split at h
 ·cases h
  obtain ⟨hφ, hn, hb, hle⟩ := hφ
  rw [hby] at hb
  obtain rfl := hx.nilsl_inv
  obtain ⟨hlen, us, hfc, hul, hcov⟩ := src_sound (P := cx.P) R hsrc hφ hy
  rcases Nat.eq_zero_or_pos ys.length with h0 | hpos
  ·have hys : ys = [] := List.eq_nil_of_length_eq_zero h0
   subst hys
   refine ⟨.slice none 0 0, w, _, ?_, R.adopt_nil zs.length hd hn, .sl d 0 0 ⟨false, zs.length, []⟩ none 0 (upd_same _ _ _) rfl (by simp) (Nat.le_refl _) (.inl rfl)⟩
   have := run_append_room' (P := cx.P) hu h1 ht2 (A := none) (sLen := 0) (sCap := 0) (hlen w) (by rw [<- h5]; exact hfc w rfl) (by simp) ty
   simpa using this
  ·have hrun := run_append_new' (P := cx.P) hu h1 h2 ht2 (A := none) (sLen := 0) (sCap := 0) (hlen w) (by rw [<- h5]; exact hfc w.drew rfl) (run_firstCells_none w.drew i.size 0 0 0) (by omega) (by simpa using hb) (by omega) ty
   have hg := R.grown hd hn e (sz := zs.length) (cap := grownCap w (0 + ys.length) 0 e) (es := []) (ys := ys) (us := []) (vs := us) (zc := z.cells) (by rw [h4, h5]) (by simp) hul ⟨by simp, by simp⟩ hcov (by simp [grownCap, Question.cut])
   obtain ⟨κ', g1, g2⟩ := hg
   simp only [List.length_nil, Nat.zero_add, List.nil_append] at g1 g2 hrun
   exact ⟨_, _, κ', hrun, g1, g2⟩
 ·rename_i o lo len
  split at h
  case h_1 => cases h
  rename_i ob hob
  cases h
  obtain ⟨hφ, hdo, hsz, hkill, hb, hle⟩ := hφ
  rw [hby] at hb
  obtain ⟨hlen, us, hfc, hul, hcov⟩ := src_sound (P := cx.P) R hsrc hφ hy
  obtain ⟨hlen0, os, hfc0, hul0, hcov0⟩ := src_sound (P := cx.P) (x := .sl o lo len) (ys := (ob.es.drop lo).take len) (sz := zs.length) (φ := ob.sz = zs.length) R (by simp [srcE, hob]) hsz hx
  have hRd := R.drop o (hG o)
  have hnd : (s.drop o).H d = none := by
   rcases hdo with rfl | hdo
   ·simp [St.drop, St.sub]
   ·simp [St.drop, St.sub, hdo]
  have hm : ∀ {x : AV} {v : Value}, RV κ s.H w x v -> RV κ (s.drop o).H w (kill o x) v := fun h =>
   RV.sub (κ' := κ) (fun _ h => h) (fun _ _ v _ => .junk v) (fun _ _ v _ => .junk v) (fun p ob hne hp => ⟨subOb o (fun _ _ => .junk) (fun _ _ => .junk) ob, by simp [St.drop, St.sub, hne, hp], rfl, rfl, by simp [subOb], rfl⟩) h
  have hcovk : ∀ {l : List AV} {cs : Array Value}, (∀ e ∈ l, kill o e = e) -> Cov κ s.H w zs.length l cs -> Cov κ (s.drop o).H w zs.length l cs := fun hk hc => ⟨hc.1, fun i e j x hi hj => by
   obtain ⟨v, g1, g2, g3⟩ := hc.2 i e j x hi hj
   refine ⟨v, g1, ?_, g3⟩
   have he := hk e (List.mem_of_getElem? hi)
   have hx' : kill o x = x := by
    have hcs : (kill o e).cells = e.cells.map (kill o) := cells_sub (fun _ _ => rfl) (fun _ _ => rfl) e
    rw [he] at hcs
    have : (e.cells.map (kill o))[j]? = some (kill o x) := by rw [List.getElem?_map, hj]; rfl
    rw [<- hcs, hj] at this
    exact (Option.some.inj this).symm
   have := hm g2
   rwa [hx'] at this⟩
  have hk1 : ∀ e ∈ (ob.es.drop lo).take len, kill o e = e := fun e he => hkill e (List.mem_append.2 (.inl he))
  have hk2 : ∀ e ∈ ys, kill o e = e := fun e he => hkill e (List.mem_append.2 (.inr he))
  cases hx with
  | imm h => cases h
  | sl _ _ _ ob' A cap hH hbox hln hcap hA =>
   rw [hob] at hH
   cases hH
   have hl : ((ob.es.drop lo).take len).length = len := by rw [List.length_take, List.length_drop]; omega
   by_cases hroom : len + ys.length ≤ cap
   ·have hrun := run_append_room' (P := cx.P) hu h1 ht2 (A := A) (sLen := len) (sCap := cap) (hlen w) (by rw [<- h5]; exact hfc w rfl) hroom ty
    rcases hA with hA | ⟨b, base, m, e1, e2, e3⟩
    ·have hl0 : len = 0 := by omega
     have hy0 : ys.length = 0 := by omega
     have hys : ys = [] := List.eq_nil_of_length_eq_zero hy0
     subst hys hl0
     have hus : us = [] := List.eq_nil_of_length_eq_zero (by simpa using hul)
     subst hus
     refine ⟨.slice A 0 cap, w, _, ?_, by simpa using hRd.adopt_nil zs.length hd hnd, ?_⟩
     ·cases A <;> simpa [storeCells] using hrun
     ·simpa using RV.sl (κ := { κ with μ := upd κ.μ d none }) (H := upd (s.drop o).H d (some ⟨false, zs.length, []⟩)) (w := w) d 0 0 ⟨false, zs.length, []⟩ A cap (upd_same _ _ _) rfl (by simp) (by omega) (.inl hA)
    ·subst e2
     simp only [Addr.add_lit] at hrun
     obtain ⟨_, hrep⟩ := R.rep o ob hob
     rcases hrep with ⟨q1, _⟩ | ⟨b', base', cs, el, q1, q2, q3, q4, q5⟩ | hmp
     ·rw [q1] at e1; cases e1
     case inr.inr =>
      obtain ⟨_, _, c, _, hh, _⟩ := hmp.lies e1
      simp only [Prod.mk.injEq] at hh
      omega
     rw [q1] at e1
     cases e1
     have hle2 : (lo + (len + ys.length)) * ob.sz ≤ (lo + cap) * ob.sz := Nat.mul_le_mul_right _ (by omega)
     have hexp : (lo + (len + ys.length)) * ob.sz = lo * ob.sz + len * ob.sz + ys.length * ob.sz := by rw [Nat.add_mul, Nat.add_mul]; omega
     have hone : ∀ v ∈ us, v.oneCell' = true := fun v hv => by
      obtain ⟨k, hk⟩ := List.mem_iff_getElem?.1 hv
      have hlt : k < ys.length * zs.length := by rw [<- hul]; exact (List.getElem?_eq_some_iff.1 hk).1
      obtain ⟨r1, r2, r3⟩ := range_div hlt
      have hyk := List.getElem?_eq_getElem r1
      obtain ⟨u, g1, _, g3⟩ := hcov.2 _ _ (k % zs.length) _ hyk (List.getElem?_eq_getElem (by rw [hcov.1 _ _ hyk]; exact r2))
      rw [r3, List.getElem?_toArray, hk] at g1
      cases g1
      exact g3
     have hst := run_storeCells_at cx.P b (base + lo * ob.sz + len * ob.sz) el us 0 cs w q3 (by rw [hul, <- hsz]; omega) hone
     simp only [Nat.add_zero] at hst
     rw [<- h5, <- hsz] at hrun
     have hno : ∀ p ob2 x, (s.drop o).H p = some ob2 -> κ.μ p = some x -> x.1 ≠ b := fun p ob2 x hp hx' he => by
      simp only [St.drop, St.sub] at hp
      split at hp
      ·cases hp
      ·rename_i hne
       obtain ⟨ob3, h3', _⟩ := Option.map_eq_some_iff.1 hp
       exact hne (R.inj p o ob3 ob x _ h3' hob hx' q1 he)
     have hown := R.own o ob _ hob q1
     have hR1 : RelK cx κ (s.drop o) a (w.setRow b (cs.toList.take (base + lo * ob.sz + len * ob.sz) ++ us ++ cs.toList.drop (base + lo * ob.sz + len * ob.sz + us.length)).toArray) :=
      hRd.block_free (fun ds h => by rw [q3] at h; cases h) q2 hown hno rfl rfl rfl (by simp) (fun b2 hb2 => setRow_other w b b2 _ hb2)
     have hm1 : ∀ {x : AV} {v : Value}, RV κ (s.drop o).H w x v -> RV κ (s.drop o).H (w.setRow b (cs.toList.take (base + lo * ob.sz + len * ob.sz) ++ us ++ cs.toList.drop (base + lo * ob.sz + len * ob.sz + us.length)).toArray) x v := fun h =>
      h.mono (fun _ h => h) (fun b2 hb2 => setRow_other w b b2 _ (fun e => q2 (e ▸ hb2))) (Same.refl _ _)
     have hulen : us.length = ys.length * ob.sz := by rw [hul, hsz]
     have hcs2 : (cs.toList.take (base + lo * ob.sz + len * ob.sz) ++ us ++ cs.toList.drop (base + lo * ob.sz + len * ob.sz + us.length)).toArray.size = cs.size := by
      simp; omega
     have hcov1 := hcovk hk1 hcov0
     have hcov2 := hcovk hk2 hcov
     have hget : ∀ k, k < base + lo * ob.sz + len * ob.sz -> (cs.toList.take (base + lo * ob.sz + len * ob.sz) ++ us ++ cs.toList.drop (base + lo * ob.sz + len * ob.sz + us.length)).toArray[k]? = cs[k]? := fun k hk => by
      rw [List.getElem?_toArray, List.append_assoc, List.getElem?_append_left (by simp; omega), List.getElem?_take, if_pos hk, Array.getElem?_toList]
     have hget2 : ∀ k, k < us.length -> (cs.toList.take (base + lo * ob.sz + len * ob.sz) ++ us ++ cs.toList.drop (base + lo * ob.sz + len * ob.sz + us.length)).toArray[base + lo * ob.sz + len * ob.sz + k]? = us[k]? := fun k hk => by
      rw [List.getElem?_toArray, List.append_assoc, List.getElem?_append_right (by simp; omega), List.getElem?_append_left (by simp; omega)]
      congr 1
      simp
      omega
     have had := hR1.adopt (d := d) (b := b) (base := base + lo * ob.sz) (sz := zs.length) (es := (ob.es.drop lo).take len ++ ys) hd hnd q2 hown hno (setRow_heap w b cs _ el (0, 0) q3) (by rw [hcs2, List.length_append, hl, <- hsz, Nat.add_mul]; omega)
      (fun i e hi => by
       rw [List.getElem?_append] at hi
       split at hi
       ·exact hcov1.1 i e hi
       ·exact hcov2.1 _ e hi)
      (fun i e j x hi hj => by
       rw [List.getElem?_append] at hi
       split at hi
       ·rename_i hil
        have hsz1 := hcov1.1 i e hi
        have hj2 : j < ob.sz := by rw [hsz, <- hsz1]; exact (List.getElem?_eq_some_iff.1 hj).1
        have hi2 : ob.es[lo + i]? = some e := by
         rw [List.getElem?_take] at hi
         split at hi
         ·rwa [List.getElem?_drop] at hi
         ·cases hi
        obtain ⟨v, g1, g2, g3⟩ := q5 (lo + i) e j x hi2 hj
        have hx' : kill o x = x := by
         have hcs : (kill o e).cells = e.cells.map (kill o) := cells_sub (fun _ _ => rfl) (fun _ _ => rfl) e
         rw [hk1 e (List.mem_of_getElem? hi)] at hcs
         have : (e.cells.map (kill o))[j]? = some (kill o x) := by rw [List.getElem?_map, hj]; rfl
         rw [<- hcs, hj] at this
         exact (Option.some.inj this).symm
        have g2' := hm g2
        rw [hx'] at g2'
        refine ⟨v, ?_, hm1 g2', g3⟩
        rw [hl] at hil
        have hlt : i * ob.sz + j < len * ob.sz := by
         have : (i + 1) * ob.sz ≤ len * ob.sz := Nat.mul_le_mul_right _ hil
         rw [Nat.succ_mul] at this
         omega
        rw [<- hsz, hget _ (by omega)]
        rwa [show base + lo * ob.sz + i * ob.sz + j = base + (lo + i) * ob.sz + j by rw [Nat.add_mul]; omega]
       ·rename_i hil
        obtain ⟨v, g1, g2, g3⟩ := hcov2.2 _ e j x hi hj
        refine ⟨v, ?_, hm1 g2, g3⟩
        rw [hl] at hil hi g1
        rw [List.getElem?_toArray] at g1
        have hlt := (List.getElem?_eq_some_iff.1 g1).1
        have he : base + lo * ob.sz + i * zs.length + j = base + lo * ob.sz + len * ob.sz + ((i - len) * zs.length + j) := by
         have h3' : i * zs.length = len * zs.length + (i - len) * zs.length := by rw [<- Nat.add_mul]; congr 1; omega
         rw [hsz]
         omega
        rw [he, hget2 _ hlt]
        exact g1)
     have hfin : (Builtin.append_ #[t, t2] ty #[.slice (some ⟨b, base + lo * ob.sz, none⟩) len cap, vy]).run cx.P w = .ok (.slice (some ⟨b, base + lo * ob.sz, none⟩) (len + ys.length) cap)
       (w.setRow b (cs.toList.take (base + lo * ob.sz + len * ob.sz) ++ us ++ cs.toList.drop (base + lo * ob.sz + len * ob.sz + us.length)).toArray) := by
      rw [hrun, hst]
      rfl
     have hrv := RV.sl (κ := { κ with μ := upd κ.μ d (some (b, base + lo * ob.sz, (cs.toList.take (base + lo * ob.sz + len * ob.sz) ++ us ++ cs.toList.drop (base + lo * ob.sz + len * ob.sz + us.length)).toArray.size)) })
      (H := upd (s.drop o).H d (some ⟨false, zs.length, (ob.es.drop lo).take len ++ ys⟩))
      (w := w.setRow b (cs.toList.take (base + lo * ob.sz + len * ob.sz) ++ us ++ cs.toList.drop (base + lo * ob.sz + len * ob.sz + us.length)).toArray)
      d 0 (len + ys.length) ⟨false, zs.length, (ob.es.drop lo).take len ++ ys⟩ (some ⟨b, base + lo * ob.sz, none⟩) cap (upd_same _ _ _) rfl (by simp [hl]) (by omega)
      (.inr ⟨b, base + lo * ob.sz, _, upd_same _ _ _, by simp, by
       rw [hcs2, <- hsz]
       rw [Nat.add_mul] at e3
       simp only [Nat.zero_add]
       omega⟩)
     exact ⟨_, _, _, hfin, had, hrv⟩
   ·have hfo := hfc0 w.drew rfl
    rw [hl] at hfo
    have hrun := run_append_new' (P := cx.P) hu h1 h2 ht2 (A := A) (sLen := len) (sCap := cap) (hlen w) (by rw [<- h5]; exact hfc w.drew rfl) (by rw [<- h5]; exact hfo) (by omega) hb (by omega) ty
    have hg := hRd.grown hd hnd e (sz := zs.length) (cap := grownCap w (len + ys.length) cap e) (es := (ob.es.drop lo).take len) (ys := ys) (us := os) (vs := us) (zc := z.cells) (by rw [h4, h5]) hul0 hul (hcovk hk1 hcov0) (hcovk hk2 hcov)
     (by rw [hl]; simp [grownCap, Question.cut])
    obtain ⟨κ', g1, g2⟩ := hg
    rw [hl] at g1 g2
    exact ⟨_, _, κ', hrun, g1, g2⟩
 ·cases h
end
end Go.Aw

/- One operation of a region; a region whose order is fixed. Own work. -/
namespace Go.Aw
open Go
def putv (s : St) (dst : Option Tmp) (v : AV) : St :=
 match dst with
 | some d => { s with ρ := upd s.ρ d v }
 | none => s
def wrapg (guard : Option (Nat × Bool)) (c : Bool) (v : AV) : AV :=
 match guard with
 | none => v
 | some _ => .gd c v
def orcGet (l : List (Tmp × AV)) (d : Tmp) : Option AV :=
 match l with
 | [] => none
 | (t, v) :: r => if t = d then some v else orcGet r d
def refOf : AV -> Option Nat
 | .ptr o _ _ => some o
 | .sl o _ _ => some o
 | .asl o _ _ _ _ => some o
 | .mp o _ => some o
 | _ => none
def outside (fr : List Nat) (x : AV) : Bool :=
 match refOf x with
 | some o => !fr.contains o
 | none => true
def opnds : Op -> List Operand
 | .load _ x | .nilCheck x | .unOp _ _ x | .convert _ _ x | .fieldAddr _ x _ | .field _ x _ | .extract x _ | .sliceToArrayPointer _ x | .makeInterface _ x | .box _ x | .move x | .assign x => [x]
 | .lookup _ x y _ => [x, y]
 | .mapUpdate _ x y z => [x, y, z]
 | .makeMap _ r => r.toList
 | .binOp _ _ x y _ | .indexAddr _ x y | .index _ x y | .store _ x y | .makeSlice _ x y => [x, y]
 | .pick x y z => [x, y, z]
 | .slice _ x lo hi mx => x :: (lo.toList ++ hi.toList ++ mx.toList)
 | .makeFunc _ a b => a.toList ++ b.toList
 | .buildSlice _ _ ps => ps.toList.map (·.2)
 | .build _ ps => ps.toList.map (·.2)
 | .call c => match c.callee with
  | .value f => f :: c.args.toList
  | .builtin _ => c.args.toList
  | .invoke r _ => r :: c.args.toList
 | _ => []
def allB (cx : Cx) (ρ : Nat -> AV) (l : List Operand) : Bool :=
 match l with
 | [] => true
 | x :: r => stripB (aev cx ρ x) && allB cx ρ r
theorem allB_iff {cx : Cx} {ρ : Nat -> AV} {l : List Operand} : allB cx ρ l = true ↔ ∀ x ∈ l, stripB (aev cx ρ x) = true := by
 induction l with
 | nil => simp [allB]
 | cons x r ih => simp [allB, ih]
inductive Cls | P | L | A | store | append | mput | no
 deriving DecidableEq
def opCls : Op -> Cls
 | .move _ | .assign _ | .pick .. | .nilCheck _ | .fieldAddr .. | .field .. | .index .. | .binOp .. | .unOp .. | .convert .. | .extract .. | .sliceToArrayPointer .. | .makeFunc .. | .makeInterface .. | .build .. => .P
 | .load .. | .indexAddr .. | .slice .. | .lookup .. => .L
 | .mapUpdate .. => .mput
 | .alloc _ | .box .. | .buildSlice .. | .makeSlice .. | .makeMap .. => .A
 | .store .. => .store
 | .call c => match c.callee with
  | .value _ => .P
  | .builtin .append => .append
  | .builtin .len | .builtin .min | .builtin .max => .P
  | _ => .no
 | _ => .no
def isTy2 (P : Program) (t : TypeId) : Bool :=
 match P.underlying t with
 | some (.slice _) | some .string => true
 | _ => false
def scall (cx : Cx) (orc : List (Tmp × AV)) (c : Bool) (o : Oper) (cl : Call) (f : Operand) (s : St) : Option (St × Prop) :=
 match stripV (aev cx s.ρ f) with
 | .fn (.func k) first cap => match orcGet orc (o.dst.getD 0) with
  | some r => some (putv s o.dst (wrapg o.guard c r),
    c = true -> allB cx s.ρ (f :: cl.args.toList) = true /\ AV.pure.pures (first ++ cl.args.toList.map (fun x => stripV (aev cx s.ρ x)) ++ cap) = true /\ PC cx.P cx.G k (first ++ cl.args.toList.map (fun x => stripV (aev cx s.ρ x)) ++ cap) r)
  | none => none
 | _ => none
def salloc (cx : Cx) (c : Bool) (o : Oper) (s : St) : Option (St × Prop) :=
 match c, o.dst with
 | true, some d => match aop cx.P (fun x => stripV (aev cx s.ρ x)) o.op with
  | some (ob, val, φ) => some ({ ρ := upd s.ρ d (val d), H := upd s.H d (some ob) }, φ /\ s.H d = none /\ d < 100000 /\ allB cx s.ρ (opnds o.op) = true)
  | none => none
 | false, some d => some ({ s with ρ := upd s.ρ d (.gd false .junk) }, True)
 | _, _ => none
def kset (fr : List Nat) : List Tmp := fr.filterMap fun k => if 1000000 ≤ k then some (k - 1000000) else none
def badOf (x : AV) (d : Nat) : List Nat := match x with | .sl o _ _ => [o, d] | _ => [d]
def clearOf (fr : List Nat) (ρ : Nat -> AV) (bad : List Nat) : Bool := (kset fr).all fun t => (ρ t).refs fun p => !bad.contains p
def sappend (cx : Cx) (fr : List Nat) (c : Bool) (o : Oper) (args : List Operand) (ts : List TypeId) (s : St) : Option (St × Prop) :=
 match c, o.dst, args, ts with
 | true, some d, [x, y], [t, t2] => if isTy2 cx.P t2 && clearOf fr s.ρ (badOf (stripV (aev cx s.ρ x)) d) then match vappend cx.P s t d (stripV (aev cx s.ρ x)) (stripV (aev cx s.ρ y)) with
  | some (s', v, φ) => some ({ s' with ρ := upd s'.ρ d v }, φ /\ d < 100000 /\ stripB (aev cx s.ρ x) = true /\ stripB (aev cx s.ρ y) = true)
  | none => none
  else none
 | false, some d, _, _ => some ({ s with ρ := upd s.ρ d (.gd false .junk) }, True)
 | _, _, _, _ => none
def svop (cx : Cx) (c : Bool) (o : Oper) (s : St) : Option (St × Prop) :=
 match vop cx.P s.H [] (fun x => stripV (aev cx s.ρ x)) o.op with
 | some (v, φ) => some (putv s o.dst (wrapg o.guard c v), c = true -> allB cx s.ρ (opnds o.op) = true /\ φ)
 | none => none
def spick (cx : Cx) (c : Bool) (o : Oper) (x y z : Operand) (s : St) : Option (St × Prop) :=
 match stripV (aev cx s.ρ x), stripV (aev cx s.ρ y), stripV (aev cx s.ρ z) with
 | .bool t, .bool p, .bool q => some (putv s o.dst (wrapg o.guard c (.bool (bif t then p else q))),
   c = true -> stripB (aev cx s.ρ x) = true /\ (t = true -> stripB (aev cx s.ρ y) = true) /\ (t = false -> stripB (aev cx s.ρ z) = true))
 | _, _, _ => none
def sstore (cx : Cx) (c : Bool) (o : Oper) (t : TypeId) (x v : Operand) (s : St) : Option (St × Prop) :=
 match c with
 | true => match vstore cx.P s.H t (stripV (aev cx s.ρ x)) (stripV (aev cx s.ρ v)) with
  | some (H', φ) => some (putv { s with H := H' } o.dst .junk, φ /\ stripB (aev cx s.ρ x) = true /\ stripB (aev cx s.ρ v) = true)
  | none => none
 | false => some (putv s o.dst .junk, True)
def smput (cx : Cx) (c : Bool) (o : Oper) (t : TypeId) (x k v : Operand) (s : St) : Option (St × Prop) :=
 match c with
 | true => match vmput cx.P s.H t (stripV (aev cx s.ρ x)) (stripV (aev cx s.ρ k)) (stripV (aev cx s.ρ v)) with
  | some (H', φ) => some (putv { s with H := H' } o.dst .junk, φ /\ allB cx s.ρ [x, k, v] = true)
  | none => none
 | false => some (putv s o.dst .junk, True)
def headOut (cx : Cx) (ρ : Nat -> AV) (fr : List Nat) (op : Op) : Bool :=
 match opnds op with
 | x :: _ => outside fr (stripV (aev cx ρ x))
 | [] => true
def sstep (cx : Cx) (fr : List Nat) (orc : List (Tmp × AV)) (ds : List (Option Tmp)) (o : Oper) (s : St) : Option (St × Prop) :=
 match gcond ds s.ρ o.guard with
 | none => none
 | some c =>
  match o.op with
  | .move x | .assign x => some (putv s o.dst (wrapg o.guard c (aev cx s.ρ x)), True)
  | .pick x y z => spick cx c o x y z s
  | .store t x v => sstore cx c o t x v s
  | .mapUpdate t x k v => smput cx c o t x k v s
  | .call cl => match cl.callee with
   | .value f => scall cx orc c o cl f s
   | .builtin .append => sappend cx fr c o cl.args.toList cl.argTypes.toList s
   | _ => svop cx c o s
  | op => match opCls op with
   | .A => salloc cx c o s
   | .L => if headOut cx s.ρ fr op then svop cx c o s else none
   | .P => svop cx c o s
   | _ => none
section
variable {cx : Cx} {κ : Kz} {s : St} {a : Act} {w : World}
theorem RelK.putv (R : RelK cx κ s a w) {x : AV} {v : Value} {dst : Option Tmp} (hd : ∀ d, dst = some d -> cx.ok d) (h : RV κ s.H w x v) : RelK cx κ (Aw.putv s dst x) (a.put dst v) w := by
 cases dst with
 | none => exact R
 | some d => exact R.put d (hd d rfl) h
theorem RV.wrapg {H : Hp} {x : AV} {v : Value} {g : Option (Nat × Bool)} (h : RV κ H w x v) : RV κ H w (Aw.wrapg g true x) v := by
 cases g with
 | none => exact h
 | some _ => exact .gd true x v (fun _ => h) (fun e => by cases e)
theorem RV.skip {H : Hp} {x : AV} {g : Nat × Bool} : RV κ H w (Aw.wrapg (some g) false x) undef := .gd false x undef (fun e => by cases e) (fun _ => rfl)
theorem opnds_mem {op : Op} {x : Operand} (h : x ∈ op.operands) (hop : opnds op ≠ []) : x ∈ opnds op := by
 cases op <;> simp_all [opnds, Op.operands]
 case call c =>
  obtain ⟨callee, args, ts⟩ := c
  cases callee <;> simp_all [Call.operands]
end
end Go.Aw

/- A region's operations, one behind the other. Own work. -/
namespace Go.Aw
open Go
section
variable {cx : Cx} {κ : Kz} {s : St} {a : Act} {w : World}
structure CxOk (cx : Cx) : Prop where
 glob : ∀ o g, kill o (cx.G g) = cx.G g
 pureG : ∀ g, (cx.G g).pure = true \/ cx.G g = .junk
theorem RelK.opnd (R : RelK cx κ s a w) {l : List Operand} (hB : allB cx s.ρ l = true) : ∀ x ∈ l, RV κ s.H w (stripV (Aw.aev cx s.ρ x)) (a.eval x) := fun x hx =>
 ((R.aev x).strip).1 (allB_iff.1 hB x hx)
def Does (cx : Cx) (o : Oper) (a : Act) (w : World) (s' : St) : Prop :=
 ∀ (Q : Exit -> Act -> World -> Prop) (K : Act -> World -> Prop), (∀ a' w', Rel cx s' a' w' -> K a' w') -> o.wpIn (FR cx.rd) 0 cx.P a w K Q
theorem wpIn_run {r : Option Nat} {n : Nat} {P : Program} {o : Oper} {a : Act} {w w' : World} {x : Next} {K : Act -> World -> Prop} {Q : Exit -> Act -> World -> Prop} (h : (execOp a.eval o).run P w = .ok x w') (hx : ∀ d, x ≠ .defer d)
  (hK : o.uponIn (FR r) n P a K Q (.ok x w')) : o.wpIn (FR r) n P a w K Q := by
 refine ⟨fun _ _ => trivial, ?_⟩
 have : Oper.semAt (FR r).round a.eval o = execOp a.eval o := Oper.semAt_eq _ _ _ fun c hc => by
  unfold execOp at h
  rw [hc] at h
  simp only [Sem.run_bind] at h
  cases hr : (resolve a.eval c o.type).run P w with
  | ok d w2 => rw [hr] at h; simp only [Result.andThen, Sem.run_pure] at h; cases h; exact hx _ rfl
  | halt e w2 => rw [hr] at h; simp only [Result.andThen] at h; cases h
 rw [this, h]
 exact hK
theorem wpIn_enter {r : Option Nat} {n : Nat} {P : Program} {o : Oper} {a : Act} {w w' : World} {k : FuncId} {vs : Array Value} {K : Act -> World -> Prop} {Q : Exit -> Act -> World -> Prop} (h : (execOp a.eval o).run P w = .ok (.enter k vs) w')
  (hC : Calls P k vs w' fun e w'' => ∃ v, e = .returned v /\ K (a.put o.dst v) w'') : o.wpIn (FR r) n P a w K Q := by
 refine wpIn_run h (by simp) ⟨fun h => by simp [FR] at h, ?_⟩
 refine CallsIn.mono (callsIn_wide.2 hC) fun e w'' ⟨v, he, hv⟩ => ?_
 subst he
 exact hv
theorem Does.value {o : Oper} {u : Value} {w' : World} {s' : St} (h : (execOp a.eval o).run cx.P w = .ok (.value u) w') (hR : Rel cx s' (a.put o.dst u) w') : Does cx o a w s' := fun Q K hK => by
 exact wpIn_run h (by simp) (hK _ _ hR)
theorem vop_does (R : RelK cx κ s a w) {o : Oper} (hd : ∀ d, o.dst = some d -> cx.ok d) (hne : opnds o.op ≠ [] \/ o.op.operands = #[]) {v : AV} {φ : Prop} (h : vop cx.P s.H [] (fun x => stripV (aev cx s.ρ x)) o.op = some (v, φ)) (hB : allB cx s.ρ (opnds o.op) = true) (hφ : φ) :
  Does cx o a w (Aw.putv s o.dst (wrapg o.guard true v)) := by
 obtain ⟨u, h1, h2⟩ := vop_sound R (o := o) (g := fun x => stripV (aev cx s.ρ x)) (fun x hx => by
  rcases hne with hne | hne
  ·exact R.opnd hB x (opnds_mem hx hne)
  ·rw [hne] at hx; simp at hx) h hφ
 exact .value h1 ⟨κ, R.putv hd h2.wrapg⟩
theorem resolve_value {ρ : Operand -> Value} {cl : Call} {f : Operand} {t : TypeId} {k : FuncId} {as bs : Array Value} {P : Program} (hc : cl.callee = .value f) (hf : ρ f = .func (.func k) as bs) :
  (do let d <- resolve ρ cl t; invoke d.target d.args : Sem Next).run P w = (callFunc k (as ++ cl.args.map ρ ++ bs)).run P w := by
 obtain ⟨callee, args, ts⟩ := cl
 simp only at hc
 subst hc
 simp [resolve, hf, Deferred.ofValue, invoke]
theorem pc_args {l : List AV} {vs : Array Value} (hp : AV.pure.pures l = true) (h : ∀ (i : Nat) (x : AV) (v : Value), l[i]? = some x -> vs[i]? = some v -> RV κ s.H w x v) :
  ∀ (i : Nat) (x : AV) (v : Value), l[i]? = some x -> vs[i]? = some v -> RV ⟨noμ, κ.im⟩ noH w x v := fun i x v hx hv =>
 (h i x v hx hv).pure_of (pures_iff.1 hp x (List.mem_of_getElem? hx))
theorem globs (hcx : CxOk cx) (R : RelK cx κ s a w) : ∀ g, RV ⟨noμ, κ.im⟩ noH w (cx.G g) (.pointer (some ⟨g, 0, none⟩)) := fun g => by
 rcases hcx.pureG g with h | h
 ·exact (R.glob g).pure_of h
 ·rw [h]; exact .junk _
theorem scall_does (hcx : CxOk cx) (R : RelK cx κ s a w) {orc : List (Tmp × AV)} {o : Oper} {cl : Call} {f : Operand} (ho : o.op = .call cl) (hcl : cl.callee = .value f) (hd : ∀ d, o.dst = some d -> cx.ok d) {s' : St} {φ : Prop}
  (h : scall cx orc true o cl f s = some (s', φ)) (hφ : φ) : Does cx o a w s' := by
 unfold scall at h
 split at h
 case h_2 => cases h
 rename_i k first cap hf
 split at h
 case h_2 => cases h
 rename_i r hr
 cases h
 obtain ⟨hB, hp, hpc, hcall⟩ := hφ rfl
 have hop := R.opnd hB
 have hfv := hop f (by simp)
 rw [hf] at hfv
 generalize hev : a.eval f = vf at hfv
 cases hfv with
 | imm h => cases h
 | fn _ _ _ as bs hl hl' h1 h2 =>
  have hargs : ∀ (i : Nat) (x : AV) (v : Value), (first ++ cl.args.toList.map (fun x => stripV (aev cx s.ρ x)) ++ cap)[i]? = some x -> (as ++ cl.args.map a.eval ++ bs)[i]? = some v -> RV κ s.H w x v := fun i x v hx hv => by
   rw [List.append_assoc, List.getElem?_append] at hx
   rw [Array.append_assoc, Array.getElem?_append, hl] at hv
   split at hx
   ·rename_i hi
    rw [if_pos hi] at hv
    exact h1 i x v hx hv
   ·rename_i hi
    rw [if_neg hi] at hv
    rw [List.getElem?_append] at hx
    rw [Array.getElem?_append] at hv
    simp only [List.length_map, Array.length_toList, Array.size_map] at hx hv
    split at hx
    ·rename_i hi2
     rw [if_pos hi2] at hv
     rw [List.getElem?_map, Array.getElem?_toList] at hx
     rw [Array.getElem?_map] at hv
     obtain ⟨y, hy, rfl⟩ := Option.map_eq_some_iff.1 hx
     obtain ⟨y', hy', rfl⟩ := Option.map_eq_some_iff.1 hv
     rw [hy] at hy'
     cases hy'
     exact hop y (by simpa using .inr (Array.mem_of_getElem? hy))
    ·rename_i hi2
     rw [if_neg hi2] at hv
     exact h2 _ x v hx hv
  have hsz : (as ++ cl.args.map a.eval ++ bs).size = (first ++ cl.args.toList.map (fun x => stripV (aev cx s.ρ x)) ++ cap).length := by simp [hl, hl']
  have hrun : (execOp a.eval o).run cx.P w = .ok (.enter k (as ++ cl.args.map a.eval ++ bs)) w := by
   simp only [execOp, ho]
   rw [resolve_value hcl hev]
   exact hpc _ w
  have hC := hcall w κ.im _ R.imlt (globs hcx R) hsz (pc_args hp hargs)
  intro Q K hK
  refine wpIn_enter hrun (hC.mono fun e w' ⟨u, im', he, g1, g2, g3, g4, g5, g6, g7, g8, g9⟩ => ?_)
  subst he
  have R' := R.called g1 g2 g3 g5 g6 g7 g8 g9
  exact ⟨_, rfl, hK _ _ ⟨_, R'.putv hd (RV.wrapg (RV.mono (κ := ⟨noμ, im'⟩) (κ' := ⟨κ.μ, im'⟩) (fun _ h => h) (fun _ _ => rfl) (fun o ob h => by cases h) g4))⟩⟩
theorem salloc_does (R : RelK cx κ s a w) {o : Oper} (hne : opnds o.op ≠ [] \/ o.op.operands = #[]) (hd : ∀ d, o.dst = some d -> cx.ok d) {s' : St} {φ : Prop} (h : salloc cx true o s = some (s', φ)) (hφ : φ) : Does cx o a w s' := by
 unfold salloc at h
 split at h
 ·rename_i d _ hdst
  split at h
  ·rename_i ob val φ' ha
   cases h
   obtain ⟨h1, h2, h3, h4⟩ := hφ
   obtain ⟨u, w', κ', g1, g2, g3⟩ := aop_sound R h3 h2 (g := fun x => stripV (aev cx s.ρ x)) (fun x hx => by
    rcases hne with hne | hne
    ·exact R.opnd h4 x (opnds_mem hx hne)
    ·rw [hne] at hx; simp at hx) ha h1
   refine .value g1 ⟨κ', ?_⟩
   rw [hdst]
   exact g2.put d (hd d hdst) g3
  ·cases h
 ·exact absurd ‹true = false› (by simp)
 ·cases h
theorem sappend_does (hcx : CxOk cx) (R : RelK cx κ s a w) {fr : List Nat} {o : Oper} {cl : Call} (ho : o.op = .call cl) (hcl : cl.callee = .builtin .append) (hd : ∀ d, o.dst = some d -> cx.ok d) {s' : St} {φ : Prop}
  (h : sappend cx fr true o cl.args.toList cl.argTypes.toList s = some (s', φ)) (hφ : φ) : Does cx o a w s' := by
 unfold sappend at h
 split at h
 ·rename_i d x y t t2 _ hdst hargs hts
  split at h
  case isFalse => cases h
  rename_i hty
  simp only [Bool.and_eq_true] at hty
  replace hty := hty.1
  split at h
  case h_2 => cases h
  rename_i s1 v φ1 hv
  cases h
  obtain ⟨h1, h2, h3, h4⟩ := hφ
  obtain ⟨u, w', κ', g1, g2, g3⟩ := vappend_sound R h2 hcx.glob hv h1 ((R.aev x).strip.1 h3) ((R.aev y).strip.1 h4) t2 (by
   unfold isTy2 at hty
   split at hty
   ·exact .inl ⟨_, by assumption⟩
   ·exact .inr (by assumption)
   ·cases hty) o.type
  have e1 : cl.args = #[x, y] := by rw [<- Array.toArray_toList (xs := cl.args), hargs]
  have e2 : cl.argTypes = #[t, t2] := by rw [<- Array.toArray_toList (xs := cl.argTypes), hts]
  refine .value (u := u) (w' := w') ?_ ⟨κ', ?_⟩
  ·obtain ⟨callee, args, ts⟩ := cl
   simp only at e1 e2 hcl
   subst e1 e2 hcl
   simp [execOp, ho, resolve, invoke, builtin, g1]
  ·rw [hdst]
   exact g2.put d (hd d hdst) g3
 ·exact absurd ‹true = false› (by simp)
 ·cases h
theorem opnds_ok (op : Op) (h : opnds op = []) (hc : opCls op ≠ .no) : op.operands = #[] := by
 cases op <;> simp_all [opnds, Op.operands, opCls]
 case call c =>
  obtain ⟨callee, args, ts⟩ := c
  cases callee <;> simp_all [Call.operands]
theorem ne_or (op : Op) (hc : opCls op ≠ .no) : opnds op ≠ [] \/ op.operands = #[] := by
 by_cases h : opnds op = []
 ·exact .inr (opnds_ok op h hc)
 ·exact .inl h
theorem vop_cls {P : Program} {H : Hp} {fr : List Nat} {g : Operand -> AV} {op : Op} {r : AV × Prop} (h : vop P H fr g op = some r) : opCls op ≠ .no := by
 cases op <;> simp_all [opCls, vop]
 case call c =>
  obtain ⟨callee, args, ts⟩ := c
  cases callee with
  | builtin b => cases b <;> simp_all [vbuiltin]
  | value f => simp
  | invoke r m => simp_all
theorem sstep_sound (hcx : CxOk cx) (R : RelK cx κ s a w) {fr : List Nat} {orc : List (Tmp × AV)} {ops : Array Oper} {o : Oper} (hn : ∀ o ∈ ops, ∀ d, o.dst = some d -> cx.ok d) (ho : o ∈ ops) {s' : St} {φ : Prop}
  (h : sstep cx fr orc (ops.toList.map (·.dst)) o s = some (s', φ)) (hφ : φ) :
  (Region.wanted o (yielded ops a.tmps) = true /\ Does cx o a w s') \/ (Region.wanted o (yielded ops a.tmps) = false /\ Rel cx s' (a.put o.dst undef) w) := by
 have hd := hn o ho
 unfold sstep at h
 split at h
 case h_1 => cases h
 rename_i c hc
 have hw := gcond_sound R (o := o) hn hc
 rw [hw]
 cases c with
 | false =>
  refine .inr ⟨rfl, ?_⟩
  have hg : ∃ g, o.guard = some g := by
   cases hgd : o.guard with
   | none => rw [hgd] at hc; simp [gcond] at hc
   | some g => exact ⟨g, rfl⟩
  obtain ⟨g, hg⟩ := hg
  have skip : ∀ (s : St) (x : AV), RelK cx κ s a w -> Rel cx (Aw.putv s o.dst (wrapg o.guard false x)) (a.put o.dst undef) w := fun s x R => ⟨κ, R.putv hd (by rw [hg]; exact .skip)⟩
  have skipj : Rel cx (Aw.putv s o.dst .junk) (a.put o.dst undef) w := ⟨κ, R.putv hd (.junk _)⟩
  have skipg : ∀ d, o.dst = some d -> Rel cx { s with ρ := upd s.ρ d (.gd false .junk) } (a.put o.dst undef) w := fun d hdd => by
   rw [hdd]; exact ⟨κ, R.put d (hd d hdd) (.gd false .junk undef (fun e => by cases e) (fun _ => rfl))⟩
  have hvop : svop cx false o s = some (s', φ) -> Rel cx s' (a.put o.dst undef) w := fun h => by
   unfold svop at h
   split at h
   ·cases h; exact skip _ _ R
   ·cases h
  have hall : salloc cx false o s = some (s', φ) -> Rel cx s' (a.put o.dst undef) w := fun h => by
   unfold salloc at h
   split at h
   ·exact absurd ‹false = true› (by simp)
   ·cases h; exact skipg _ (by assumption)
   ·cases h
  split at h
  ·cases h; exact skip _ _ R
  ·cases h; exact skip _ _ R
  ·unfold spick at h
   split at h
   ·cases h; exact skip _ _ R
   ·cases h
  ·cases h; exact skipj
  ·cases h; exact skipj
  ·split at h
   ·unfold scall at h
    split at h
    ·split at h
     ·cases h; exact skip _ _ R
     ·cases h
    ·cases h
   ·unfold sappend at h
    split at h
    ·exact absurd ‹false = true› (by simp)
    ·cases h; exact skipg _ (by assumption)
    ·cases h
   ·exact hvop h
  ·split at h
   ·exact hall h
   ·split at h
    ·exact hvop h
    ·cases h
   ·exact hvop h
   ·cases h
 | true =>
  refine .inl ⟨rfl, ?_⟩
  have hvop : svop cx true o s = some (s', φ) -> Does cx o a w s' := fun h => by
   unfold svop at h
   split at h
   ·rename_i v φ' hv
    cases h
    obtain ⟨h1, h2⟩ := hφ rfl
    exact vop_does R hd (ne_or _ (vop_cls hv)) hv h1 h2
   ·cases h
  split at h
  ·rename_i x hop
   cases h
   refine .value (u := a.eval x) (w' := w) (by simp [execOp, hop]) ⟨κ, R.putv hd (RV.wrapg (R.aev x))⟩
  ·rename_i x hop
   cases h
   refine .value (u := a.eval x) (w' := w) (by simp [execOp, hop]) ⟨κ, R.putv hd (RV.wrapg (R.aev x))⟩
  ·rename_i x y z hop
   unfold spick at h
   split at h
   ·rename_i t p q hx hy hz
    cases h
    obtain ⟨h1, h2, h3⟩ := hφ rfl
    have vx := (hx ▸ (R.aev x).strip.1 h1).bool_inv
    refine .value (u := .bool (bif t then p else q)) (w' := w) ?_ ⟨κ, R.putv hd (RV.wrapg (.bool _))⟩
    cases t with
    | true =>
     have vy := (hy ▸ (R.aev y).strip.1 (h2 rfl)).bool_inv
     simp [execOp, hop, vx, vy, asBool]
    | false =>
     have vz := (hz ▸ (R.aev z).strip.1 (h3 rfl)).bool_inv
     simp [execOp, hop, vx, vz, asBool]
   ·cases h
  ·rename_i t x v hop
   simp only [sstore] at h
   split at h
   ·rename_i H' φ' hst
    cases h
    obtain ⟨h1, h2, h3⟩ := hφ
    obtain ⟨w', g1, g2⟩ := vstore_sound R hst h1 ((R.aev x).strip.1 h2) ((R.aev v).strip.1 h3)
    intro Q K hK
    have : (execOp a.eval o).run cx.P w = .ok .skip w' := by simp [execOp, hop, g1]
    exact wpIn_run this (by simp) (hK _ _ ⟨κ, g2.putv hd (.junk _)⟩)
   ·cases h
  ·rename_i t x k v hop
   simp only [smput] at h
   split at h
   ·rename_i H' φ' hst
    cases h
    obtain ⟨h1, h2⟩ := hφ
    have hB := allB_iff.1 h2
    obtain ⟨w', g1, g2⟩ := vmput_sound R hst ((R.aev x).strip.1 (hB x (by simp))) ((R.aev k).strip.1 (hB k (by simp))) ((R.aev v).strip.1 (hB v (by simp)))
    intro Q K hK
    have : (execOp a.eval o).run cx.P w = .ok .skip w' := by simp [execOp, hop, g1]
    exact wpIn_run this (by simp) (hK _ _ ⟨κ, g2.putv hd (.junk _)⟩)
   ·cases h
  ·rename_i cl hop
   split at h
   ·rename_i f hcl
    exact scall_does hcx R hop hcl hd h hφ
   ·rename_i hcl
    exact sappend_does hcx R hop hcl hd h hφ
   ·exact hvop h
  ·split at h
   ·rename_i hcls
    exact salloc_does R (ne_or _ (by rw [hcls]; simp)) hd h hφ
   ·split at h
    ·exact hvop h
    ·cases h
   ·exact hvop h
   ·cases h
def dstsOk (n : Nb) (l : List (Option Tmp)) : Bool := l.all fun d => match d with | some t => decide (t < n.n) && !n.z.contains t | none => true
theorem dstsOk_spec {cx : Cx} {ops : Array Oper} (h : dstsOk cx.nb (ops.toList.map (·.dst)) = true) : ∀ o ∈ ops, ∀ d, o.dst = some d -> cx.ok d := fun o ho d hd => by
 simp only [dstsOk, List.all_eq_true, List.mem_map] at h
 have := h o.dst ⟨o, by simpa using ho, rfl⟩
 rw [hd] at this
 simp only [Bool.and_eq_true, decide_eq_true_eq, Bool.not_eq_true'] at this
 exact this
end
end Go.Aw

/- A function's contract out of its body. Own work. -/
namespace Go.Aw
open Go
def resA (cx : Cx) (s : St) : ResultVar -> Option (AV × Prop)
 | .tmp t => some (stripV (s.ρ t), stripB (s.ρ t) = true)
 | .cell t ty => match vload cx.P s.H [] ty (stripV (s.ρ t)) with
  | some (v, φ) => some (v, stripB (s.ρ t) = true /\ φ)
  | none => none
def resAs (cx : Cx) (s : St) : List ResultVar -> Option (List AV × Prop)
 | [] => some ([], True)
 | x :: l => match resA cx s x with
  | some (v, φ) => match resAs cx s l with
   | some (vs, ψ) => some (v :: vs, φ /\ ψ)
   | none => none
  | none => none
def tupA : List AV -> AV
 | [v] => v
 | l => .tup l
def Weak (cx : Cx) (s s' : St) : Prop := ∀ a w, Rel cx s a w -> Rel cx s' a w
theorem Weak.refl (cx : Cx) (s : St) : Weak cx s s := fun _ _ h => h
theorem Weak.trans {cx : Cx} {s s' s'' : St} (h : Weak cx s s') (h' : Weak cx s' s'') : Weak cx s s'' := fun a w R => h' a w (h a w R)
theorem Weak.drop {cx : Cx} (hcx : CxOk cx) (s : St) (o : Nat) : Weak cx s (s.drop o) := fun _ _ ⟨κ, R⟩ => ⟨κ, R.drop o (hcx.glob o)⟩
section
variable {cx : Cx} {κ : Kz} {s : St} {a : Act} {w : World}
theorem resA_sound (R : RelK cx κ s a w) {x : ResultVar} {v : AV} {φ : Prop} (h : resA cx s x = some (v, φ)) (hφ : φ) :
  ∃ u, (match x with | .tmp t => pure (a.tmps.getD t undef) | .cell a' t => do loadVar t (<- asAddr (a.tmps.getD a' undef)) : Sem Value).run cx.P w = .ok u w /\ RV κ s.H w v u := by
 cases x with
 | tmp t =>
  simp only [resA] at h
  cases h
  exact ⟨_, rfl, (R.env t).strip.1 hφ⟩
 | cell t ty =>
  simp only [resA] at h
  split at h
  case h_2 => cases h
  rename_i v' φ' hv
  cases h
  obtain ⟨h1, h2⟩ := hφ
  have hp := (R.env t).strip.1 h1
  obtain ⟨u, g1, g2⟩ := vload_sound R hv h2 hp
  refine ⟨u, ?_, g2⟩
  have : ∃ ad, a.tmps.getD t undef = .pointer (some ad) := by
   unfold vload at hv
   split at hv
   ·split at hv
    ·rename_i hk; rw [hk] at hp; exact hp.ptr_inv
    ·rename_i hk; rw [hk] at hp; exact hp.rop_inv
    ·cases hv
   ·cases hv
  obtain ⟨ad, had⟩ := this
  rw [had] at g1
  show (do let ad <- asAddr (a.tmps.getD t undef); loadVar ty ad : Sem Value).run cx.P w = .ok u w
  rw [had]
  simpa [Instr.loadAt, Instr.sureAddr, asAddr] using g1
theorem resAs_sound (R : RelK cx κ s a w) : ∀ {l : List ResultVar} {vs : List AV} {φ : Prop}, resAs cx s l = some (vs, φ) -> φ ->
  ∃ us : List Value, (l.mapM fun x => (match x with | .tmp t => pure (a.tmps.getD t undef) | .cell a' t => do loadVar t (<- asAddr (a.tmps.getD a' undef)) : Sem Value)).run cx.P w = .ok us w /\ us.length = vs.length /\
   ∀ (i : Nat) (x : AV) (u : Value), vs[i]? = some x -> us[i]? = some u -> RV κ s.H w x u
 | [], vs, φ, h, _ => by
  simp only [resAs] at h
  cases h
  exact ⟨[], rfl, rfl, by simp⟩
 | x :: l, vs, φ, h, hφ => by
  simp only [resAs] at h
  split at h
  case h_2 => cases h
  rename_i v φ1 h1
  split at h
  case h_2 => cases h
  rename_i vs' φ2 h2
  cases h
  obtain ⟨u, g1, g2⟩ := resA_sound R h1 hφ.1
  obtain ⟨us, k1, k2, k3⟩ := resAs_sound R h2 hφ.2
  refine ⟨u :: us, ?_, by simp [k2], fun i y u' hy hu => ?_⟩
  ·simp only [List.mapM_cons, Sem.run_bind, g1, Result.andThen_ok, k1]
   rfl
  ·cases i with
   | zero => cases hy; cases hu; exact g2
   | succ i => exact k3 i y u' hy hu
def callable (P : Program) (f : FuncId) : Bool :=
 match P.funcs[f]? with
 | some fn => !(fn.name == "runtime.NumGoroutine") && fn.body.isSome
 | none => false
theorem callable_spec {P : Program} {f : FuncId} (h : callable P f = true) (as : Array Value) (w : World) : (callFunc f as).run P w = .ok (.enter f as) w := by
 unfold callable at h
 split at h
 ·rename_i fn hf
  simp only [Bool.and_eq_true, Bool.not_eq_true', Option.isSome_iff_exists] at h
  obtain ⟨h1, c, h2⟩ := h
  have h3 : ¬ fn.name = "runtime.NumGoroutine" := fun hh => by rw [hh] at h1; simp at h1
  simp [callFunc, hf, h3, h2]
 ·cases h
def cx0 (P : Program) (G : Nat -> AV) (n : Nat) (w : World) (im : Nat -> Prop) : Cx :=
 {P, n, w0 := w, M := fun _ => False, im0 := im, pin := fun _ => none, G }
def args0 (args : List AV) : St := { ρ := fun t => args.getD t .junk, H := noH }
theorem Weak.freeze {cx : Cx} (s : St) (o : Nat) (ob : Ob) (ho : s.H o = some ob) (hi : ob.Imm) (hG : ∀ g, Aw.sub o (fun lo len => .ro ob.sz ((ob.es.drop lo).take len)) (fun i c => .rop (ob.es.getD i .junk) c) (cx.G g) = cx.G g) :
  Weak cx s (s.freeze o ob) := fun _ _ ⟨_, R⟩ => ⟨_, R.freeze ho hi hG⟩
end
end Go.Aw

/- The same, ready for evaluation. Own work. -/
namespace Go.Aw
open Go
theorem cx0_P (P : Program) (G : Nat -> AV) (n : Nat) (w : World) (im : Nat -> Prop) : (cx0 P G n w im).P = P := rfl
theorem cx0_G (P : Program) (G : Nat -> AV) (n : Nat) (w : World) (im : Nat -> Prop) : (cx0 P G n w im).G = G := rfl
def rQ (Q : Exit -> St -> Prop) : Option (St × Prop) -> Prop
 | some (s', φ) => φ /\ Q .normal s'
 | none => False
end Go.Aw

/- A region whose order is drawn: operations that stand in no order to each other commute. Own work. -/
namespace Go.Aw
open Go
def looks (ds : List (Option Tmp)) (o : Oper) : List Tmp :=
 (opnds o.op).filterMap (fun | .tmp t => some t | _ => none) ++
 (match o.guard with
  | some (j, _) => match ds[j]? with
   | some (some d) => [d]
   | _ => []
  | none => [])
theorem aev_agree {cx : Cx} {ρ ρ' : Nat -> AV} {x : Operand} (h : ∀ t, x = .tmp t -> ρ t = ρ' t) : aev cx ρ x = aev cx ρ' x := by
 cases x with
 | tmp t => exact h t rfl
 | _ => rfl
section
variable {cx : Cx} {ds : List (Option Tmp)} {o : Oper} {ρ ρ' : Nat -> AV}
theorem looks_op {x : Operand} (hx : x ∈ opnds o.op) {t : Tmp} (ht : x = .tmp t) : t ∈ looks ds o := by
 subst ht
 exact List.mem_append_left _ (List.mem_filterMap.2 ⟨.tmp t, hx, rfl⟩)
theorem gcond_agree (h : ∀ t ∈ looks ds o, ρ t = ρ' t) : gcond ds ρ o.guard = gcond ds ρ' o.guard := by
 unfold gcond
 cases hg : o.guard with
 | none => rfl
 | some g =>
  obtain ⟨j, want⟩ := g
  simp only
  cases hd : ds[j]? with
  | none => rfl
  | some d =>
   cases d with
   | none => rfl
   | some d =>
    simp only
    rw [h d (List.mem_append_right _ (by simp [hg, hd]))]
theorem allB_agree {l : List Operand} (h : ∀ x ∈ l, aev cx ρ x = aev cx ρ' x) : allB cx ρ l = allB cx ρ' l := by
 induction l with
 | nil => rfl
 | cons x l ih =>
  simp only [allB]
  rw [h x (by simp), ih fun y hy => h y (by simp [hy])]
end
section
variable {P : Program} {H H' : Hp} {r : AV × Prop}
theorem vload_H {fr : List Nat} {t : TypeId} {x : AV} (hH : ∀ p, refOf x = some p -> H p = H' p \/ H p = none) (h : vload P H fr t x = some r) : vload P H' fr t x = some r := by
 unfold vload at h ⊢
 cases ht : tLoad P t with
 | none => rw [ht] at h; cases h
 | some l =>
  rw [ht] at h
  cases x with
  | ptr o i c =>
   simp only at h ⊢
   rcases hH o rfl with e | e
   ·rw [<- e]; exact h
   ·rw [e] at h
    split at h
    ·cases h
    ·cases h
  | _ => exact h
theorem vindexAddr_H {t : TypeId} {x ix : AV} (hH : ∀ p, refOf x = some p -> H p = H' p \/ H p = none) (h : vindexAddr P H t x ix = some r) : vindexAddr P H' t x ix = some r := by
 unfold vindexAddr at h ⊢
 cases ix with
 | int k n =>
  simp only at h ⊢
  cases htI : tIndex P t with
  | none => rw [htI] at h; cases h
  | some q =>
   obtain ⟨L, esz, l⟩ := q
   rw [htI] at h
   cases L with
   | none =>
    cases x with
    | sl o lo len =>
     simp only at h ⊢
     rcases hH o rfl with e | e
     ·rw [<- e]; exact h
     ·rw [e] at h; cases h
    | _ => exact h
   | some L => exact h
 | _ => cases h
theorem vslice_H {t : TypeId} {x : AV} {l : Option Int} {hi : Int -> Option Int} {m : Option (Option Int)} (hH : ∀ p, refOf x = some p -> H p = H' p \/ H p = none) (h : vslice P H t x l hi m = some r) : vslice P H' t x l hi m = some r := by
 unfold vslice at h ⊢
 cases l with
 | none => cases h
 | some l =>
  cases m with
  | none => cases h
  | some m =>
   cases x with
   | sl o lo len =>
    simp only at h ⊢
    rcases hH o rfl with e | e
    ·rw [<- e]; exact h
    ·rw [e] at h
     split at h
     ·rename_i hh; cases hh
     ·cases h
   | ptr o i c =>
    simp only at h ⊢
    rcases hH o rfl with e | e
    ·rw [<- e]; exact h
    ·rw [e] at h
     split at h
     ·split at h
      ·rename_i hh; cases hh
      ·cases h
     ·cases h
   | _ => exact h
theorem vlook_H {t : TypeId} {x k : AV} {ok : Bool} (hH : ∀ p, refOf x = some p -> H p = H' p \/ H p = none) (h : vlook P H t x k ok = some r) : vlook P H' t x k ok = some r := by
 unfold vlook at h ⊢
 cases ht : tMap P t with
 | none => rw [ht] at h; cases h
 | some q =>
  obtain ⟨c, z⟩ := q
  rw [ht] at h
  cases x with
  | mp o c' =>
   simp only at h ⊢
   rcases hH o rfl with e | e
   ·rw [<- e]; exact h
   ·rw [e] at h
    split at h
    ·cases h
    ·cases h
  | _ => exact h
end
theorem vop_H {P : Program} {H H' : Hp} {g : Operand -> AV} {op : Op} {r : AV × Prop} (hH : ∀ x p, (opnds op).head? = some x -> refOf (g x) = some p -> H p = H' p \/ H p = none) (h : vop P H [] g op = some r) : vop P H' [] g op = some r := by
 cases op <;> first | exact h | skip
 case load t x => exact vload_H (hH x · rfl) h
 case indexAddr t x ix => exact vindexAddr_H (hH x · rfl) h
 case lookup t x k ok => exact vlook_H (hH x · rfl) h
 case slice t x lo hi mx =>
  simp only [vop] at h ⊢
  exact vslice_H (hH x · rfl) h
theorem bnd_g {g g' : Operand -> AV} {d : Int} {x : Option Operand} (h : ∀ y, x = some y -> g y = g' y) : bnd g d x = bnd g' d x := by
 cases x with
 | none => rfl
 | some y => simp only [bnd, h y rfl]
theorem vop_g {P : Program} {H : Hp} {g g' : Operand -> AV} {op : Op} (h : ∀ x ∈ opnds op, g x = g' x) : vop P H [] g op = vop P H [] g' op := by
 cases op <;> simp only [vop] <;> first | rfl | skip
 case load t x => rw [h x (by simp [opnds])]
 case nilCheck x => rw [h x (by simp [opnds])]
 case unOp op t x => rw [h x (by simp [opnds])]
 case convert a b x => rw [h x (by simp [opnds])]
 case makeInterface t x => rw [h x (by simp [opnds])]
 case sliceToArrayPointer t x => rw [h x (by simp [opnds])]
 case fieldAddr t x f => rw [h x (by simp [opnds])]
 case field t x f => rw [h x (by simp [opnds])]
 case extract x i => rw [h x (by simp [opnds])]
 case indexAddr t x y => rw [h x (by simp [opnds]), h y (by simp [opnds])]
 case index t x y => rw [h x (by simp [opnds]), h y (by simp [opnds])]
 case lookup t x y ok => rw [h x (by simp [opnds]), h y (by simp [opnds])]
 case binOp op t x y t2 => rw [h x (by simp [opnds]), h y (by simp [opnds])]
 case slice t x lo hi mx =>
  rw [h x (by simp [opnds]), bnd_g (g := g) (g' := g') (x := lo) fun y hy => h y (by subst hy; simp [opnds])]
  have e1 : (fun n => bnd g n hi) = (fun n => bnd g' n hi) := funext fun n => bnd_g fun y hy => h y (by subst hy; simp [opnds])
  rw [e1]
  cases mx with
  | none => rfl
  | some z =>
   cases hi with
   | none => rfl
   | some y => simp only [bnd_g (g := g) (g' := g') (x := some z) (d := 0) fun y hy => h y (by cases hy; simp [opnds])]
 case build t ps =>
  congr 1
  exact List.map_congr_left fun p hp => by rw [h p.2 (by simp only [opnds]; exact List.mem_map.2 ⟨p, hp, rfl⟩)]
 case makeFunc f a b =>
  have e1 : a.toList.map g = a.toList.map g' := List.map_congr_left fun x hx => h x (by simp only [opnds]; exact List.mem_append_left _ hx)
  have e2 : b.toList.map g = b.toList.map g' := List.map_congr_left fun x hx => h x (by simp only [opnds]; exact List.mem_append_right _ hx)
  rw [e1, e2]
 case call c =>
  obtain ⟨callee, args, ts⟩ := c
  cases callee with
  | builtin b =>
   simp only
   have ha : ∀ x ∈ args.toList, g x = g' x := fun x hx => h x (by simpa [opnds] using hx)
   cases b <;> simp only [vbuiltin] <;> first | rfl | skip
   ·split
    ·rename_i x t h1 h2; rw [ha x (by rw [h1]; simp)]
    ·rfl
   ·rw [List.map_congr_left ha]
   ·rw [List.map_congr_left ha]
  | _ => rfl
theorem aop_g {P : Program} {g g' : Operand -> AV} {op : Op} (h : ∀ x ∈ opnds op, g x = g' x) : aop P g op = aop P g' op := by
 cases op <;> simp only [aop] <;> first | rfl | skip
 case box t x => rw [h x (by simp [opnds])]
 case makeSlice t x y => rw [h x (by simp [opnds]), h y (by simp [opnds])]
 case makeMap t r => cases r <;> rfl
 case buildSlice t n ps =>
  have e : (ps.toList.map fun p => (p.1, g p.2)) = ps.toList.map fun p => (p.1, g' p.2) := List.map_congr_left fun p hp => by rw [h p.2 (by simp only [opnds]; exact List.mem_map.2 ⟨p, hp, rfl⟩)]
  rw [e]
def app (s : St) (dst : Option Tmp) (v : AV) (ob : Option Ob) : St :=
 putv { s with H := match ob, dst with | some b, some d => upd s.H d (some b) | _, _ => s.H } dst v
def isV (c : Cls) : Bool := match c with | .P | .L | .A => true | _ => false
def HAgree (cx : Cx) (o : Oper) (s t : St) : Prop :=
 (opCls o.op = .L -> ∀ x p, (opnds o.op).head? = some x -> refOf (stripV (aev cx s.ρ x)) = some p -> s.H p = t.H p \/ s.H p = none) /\
 (opCls o.op = .A -> ∀ d, o.dst = some d -> (s.H d = none ↔ t.H d = none))
theorem P_H {op : Op} (hop : opCls op = .P) {P : Program} {H H' : Hp} {g : Operand -> AV} {r : AV × Prop} (h : vop P H [] g op = some r) : vop P H' [] g op = some r := by
 cases op <;> first | exact h | (simp [opCls] at hop; done)
theorem step_loc {cx : Cx} {fr : List Nat} {orc : List (Tmp × AV)} {ds : List (Option Tmp)} {o : Oper} {s s' : St} {φ : Prop} (hV : isV (opCls o.op) = true) (h : sstep cx fr orc ds o s = some (s', φ)) :
  ∃ v ob, s' = app s o.dst v ob /\ (∀ b, ob = some b -> opCls o.op = .A /\ ∃ d, o.dst = some d /\ (φ -> s.H d = none)) /\
   (opCls o.op = .L -> headOut cx s.ρ fr o.op = true) /\
   ∀ t : St, (∀ x ∈ looks ds o, s.ρ x = t.ρ x) -> HAgree cx o s t -> sstep cx fr orc ds o t = some (app t o.dst v ob, φ) := by
 have hae : ∀ t : St, (∀ x ∈ looks ds o, s.ρ x = t.ρ x) -> ∀ x ∈ opnds o.op, aev cx s.ρ x = aev cx t.ρ x := fun t ht x hx => aev_agree fun t' ht' => ht t' (looks_op hx ht')
 have hgc : ∀ t : St, (∀ x ∈ looks ds o, s.ρ x = t.ρ x) -> gcond ds t.ρ o.guard = gcond ds s.ρ o.guard := fun t ht => (gcond_agree ht).symm
 unfold sstep at h
 split at h
 case h_1 => cases h
 rename_i c hc
 have hst : ∀ t : St, (∀ x ∈ looks ds o, s.ρ x = t.ρ x) -> gcond ds t.ρ o.guard = some c := fun t ht => (hgc t ht).trans hc
 have hvop : svop cx c o s = some (s', φ) -> ∃ v, s' = app s o.dst v none /\ ∀ t : St, (∀ x ∈ looks ds o, s.ρ x = t.ρ x) ->
   (opCls o.op = .P \/ ∀ x p, (opnds o.op).head? = some x -> refOf (stripV (aev cx s.ρ x)) = some p -> s.H p = t.H p \/ s.H p = none) -> svop cx c o t = some (app t o.dst v none, φ) := fun h => by
  unfold svop at h
  split at h
  ·rename_i v φ0 hv
   cases h
   refine ⟨_, rfl, fun t ht hH => ?_⟩
   have e1 := hae t ht
   have e2 : vop cx.P t.H [] (fun x => stripV (aev cx t.ρ x)) o.op = some (v, φ0) := by
    rw [<- vop_g (g := fun x => stripV (aev cx s.ρ x)) (fun x hx => by rw [e1 x hx])]
    rcases hH with hH | hH
    ·exact P_H hH hv
    ·exact vop_H hH hv
   simp only [svop, e2]
   rw [allB_agree (ρ := s.ρ) (ρ' := t.ρ) e1]
   rfl
  ·cases h
 split at h
 ·rename_i x hop
  cases h
  refine ⟨_, none, rfl, fun b hb => (by cases hb), fun hl => (by simp [hop, opCls] at hl), fun t ht _ => ?_⟩
  unfold sstep
  rw [hst t ht]
  simp only [hop]
  rw [hae t ht x (by simp [hop, opnds])]
  rfl
 ·rename_i x hop
  cases h
  refine ⟨_, none, rfl, fun b hb => (by cases hb), fun hl => (by simp [hop, opCls] at hl), fun t ht _ => ?_⟩
  unfold sstep
  rw [hst t ht]
  simp only [hop]
  rw [hae t ht x (by simp [hop, opnds])]
  rfl
 ·rename_i x y z hop
  unfold spick at h
  split at h
  ·rename_i b p q hx hy hz
   cases h
   refine ⟨_, none, rfl, fun b hb => (by cases hb), fun hl => (by simp [hop, opCls] at hl), fun t ht _ => ?_⟩
   unfold sstep
   rw [hst t ht]
   have e := hae t ht
   simp only [hop, opnds] at e
   simp only [hop, spick]
   rw [<- e x (by simp), <- e y (by simp), <- e z (by simp), hx, hy, hz]
   rfl
  ·cases h
 ·rename_i t x v hop
  simp [hop, opCls, isV] at hV
 ·rename_i t x k v hop
  simp [hop, opCls, isV] at hV
 ·rename_i cl hop
  split at h
  ·rename_i f hcl
   unfold scall at h
   split at h
   ·rename_i k first cap hf
    split at h
    ·rename_i r hr
     cases h
     refine ⟨_, none, rfl, fun b hb => (by cases hb), fun hl => (by simp [hop, hcl, opCls] at hl), fun t ht _ => ?_⟩
     unfold sstep
     rw [hst t ht]
     have e := hae t ht
     simp only [hop, opnds, hcl] at e
     simp only [hop, hcl, scall]
     have em : cl.args.toList.map (fun x => stripV (aev cx t.ρ x)) = cl.args.toList.map (fun x => stripV (aev cx s.ρ x)) := List.map_congr_left fun x hx => by rw [e x (by simp [hx])]
     rw [<- e f (by simp), hf, hr, em, allB_agree (ρ := t.ρ) (ρ' := s.ρ) fun x hx => (e x hx).symm]
     rfl
    ·cases h
   ·cases h
  ·rename_i hcl
   simp [hop, hcl, opCls, isV] at hV
  ·rename_i h1 h2
   obtain ⟨v, e1, e2⟩ := hvop h
   refine ⟨v, none, e1, fun b hb => (by cases hb), fun hl => ?_, fun t ht _ => ?_⟩
   ·exfalso
    rw [hop] at hl
    simp only [opCls] at hl
    split at hl
    ·cases hl
    ·cases hl
    ·cases hl
    ·cases hl
    ·cases hl
    ·cases hl
   ·unfold sstep
    rw [hst t ht]
    simp only [hop]
    have hP : opCls o.op = .P := by
     rw [hop] at hV ⊢
     simp only [opCls] at hV ⊢
     split at hV <;> first | rfl | simp_all [isV]
    exact e2 t ht (.inl hP)
 ·rename_i g1 g2 g3 g4 g5 g6
  split at h
  ·rename_i hcls
   unfold salloc at h
   split at h
   ·rename_i d hd
    split at h
    ·rename_i ob val φ0 ha
     cases h
     refine ⟨val d, some ob, ?_, fun b hb => ⟨hcls, d, hd, fun h => h.2.1⟩, fun hl => (by rw [hcls] at hl; cases hl), fun t ht hH => ?_⟩
     ·simp [app, putv, hd]
     ·unfold sstep
      rw [hst t ht]
      simp only
      rw [hcls]
      have e := hae t ht
      simp only [salloc, hd]
      rw [<- aop_g (g := fun x => stripV (aev cx s.ρ x)) (fun x hx => by rw [e x hx]), ha]
      simp only
      have hiff := propext (hH.2 hcls d hd)
      rw [allB_agree (ρ := t.ρ) (ρ' := s.ρ) fun x hx => (e x hx).symm, <- hiff]
      simp [app, putv]
    ·cases h
   ·rename_i d hd
    cases h
    refine ⟨.gd false .junk, none, ?_, fun b hb => (by cases hb), fun hl => (by rw [hcls] at hl; cases hl), fun t ht hH => ?_⟩
    ·simp [app, putv, hd]
    ·unfold sstep
     rw [hst t ht]
     simp only
     rw [hcls]
     simp [salloc, hd, app, putv]
   ·cases h
  ·rename_i hcls
   split at h
   ·rename_i hout
    obtain ⟨v, e1, e2⟩ := hvop h
    refine ⟨v, none, e1, fun b hb => (by cases hb), fun _ => hout, fun t ht hH => ?_⟩
    unfold sstep
    rw [hst t ht]
    simp only
    rw [hcls]
    simp only
    have e := hae t ht
    have hout' : headOut cx t.ρ fr o.op = true := by
     unfold headOut at hout ⊢
     cases hop : opnds o.op with
     | nil => rfl
     | cons x l =>
      rw [hop] at hout e
      simp only at hout ⊢
      rw [<- e x (by simp)]
      exact hout
    rw [if_pos hout']
    exact e2 t ht (.inr (hH.1 hcls))
   ·cases h
  ·rename_i hcls
   obtain ⟨v, e1, e2⟩ := hvop h
   refine ⟨v, none, e1, fun b hb => (by cases hb), fun hl => (by rw [hcls] at hl; cases hl), fun t ht hH => ?_⟩
   unfold sstep
   rw [hst t ht]
   simp only
   rw [hcls]
   exact e2 t ht (.inl hcls)
  ·cases h
end Go.Aw

/- Regions whose order is drawn. Own work. -/
namespace Go.Aw
open Go
theorem upd_comm {α : Type} (f : Nat -> α) {d e : Nat} (x y : α) (h : d ≠ e) : upd (upd f d x) e y = upd (upd f e y) d x := by
 funext t
 by_cases h1 : t = d <;> by_cases h2 : t = e
 ·exact absurd (h1.symm.trans h2) h
 ·subst h1; rw [upd_ne _ _ h2, upd_same, upd_same]
 ·subst h2; rw [upd_same, upd_ne _ _ h1, upd_same]
 ·rw [upd_ne _ _ h2, upd_ne _ _ h1, upd_ne _ _ h1, upd_ne _ _ h2]
theorem app_comm {s : St} {x y : Option Tmp} {v u : AV} {ob ob' : Option Ob} (h : ∀ d e, x = some d -> y = some e -> d ≠ e) : app (app s x v ob) y u ob' = app (app s y u ob') x v ob := by
 cases x with
 | none => cases y <;> cases ob <;> cases ob' <;> rfl
 | some d =>
  cases y with
  | none => cases ob <;> cases ob' <;> rfl
  | some e =>
   have hne := h d e rfl rfl
   cases ob with
   | none =>
    cases ob' with
    | none => simp only [app, putv]; rw [upd_comm _ _ _ hne]
    | some b' => simp only [app, putv]; rw [upd_comm _ _ _ hne]
   | some b =>
    cases ob' with
    | none => simp only [app, putv]; rw [upd_comm _ _ _ hne]
    | some b' => simp only [app, putv]; rw [upd_comm _ _ _ hne, upd_comm s.H _ _ hne]
def apartA (ds : List (Option Tmp)) (x y : Oper) : Bool :=
 (match x.dst with
  | some d => !(looks ds y).contains d && y.dst != some d
  | none => true) &&
 (match y.dst with
  | some d => !(looks ds x).contains d
  | none => true)
theorem apartA_spec {ds : List (Option Tmp)} {x y : Oper} (h : apartA ds x y = true) :
  (∀ d, x.dst = some d -> ∀ t ∈ looks ds y, t ≠ d) /\ (∀ d e, x.dst = some d -> y.dst = some e -> d ≠ e) /\ (∀ d, y.dst = some d -> ∀ t ∈ looks ds x, t ≠ d) := by
 simp only [apartA, Bool.and_eq_true] at h
 obtain ⟨h1, h2⟩ := h
 refine ⟨fun d hd t ht e => ?_, fun d e hd he hde => ?_, fun d hd t ht e => ?_⟩
 ·rw [hd] at h1
  simp only [Bool.and_eq_true, Bool.not_eq_true', List.contains_eq_mem, decide_eq_false_iff_not] at h1
  exact h1.1 (e ▸ ht)
 ·rw [hd, he] at h1
  simp only [Bool.and_eq_true] at h1
  rw [hde] at h1
  simp at h1
 ·rw [hd] at h2
  simp only [Bool.not_eq_true', List.contains_eq_mem, decide_eq_false_iff_not] at h2
  exact h2 (e ▸ ht)
def commB (fr : List Nat) (ds : List (Option Tmp)) (x y : Oper) : Bool :=
 apartA ds x y &&
 ((isV (opCls x.op) && isV (opCls y.op) && (opCls x.op != .A || (match x.dst with | some d => fr.contains d | none => true))) ||
  (opCls x.op == .store && x.dst == none && opCls y.op == .P) ||
  (opCls x.op == .P && opCls y.op == .store && y.dst == none))
theorem app_ρ {s : St} {x : Option Tmp} {v : AV} {ob : Option Ob} {t : Tmp} (h : ∀ d, x = some d -> t ≠ d) : (app s x v ob).ρ t = s.ρ t := by
 cases x with
 | none => rfl
 | some d => simp only [app, putv]; exact upd_ne _ _ (h d rfl)
theorem app_H {s : St} {x : Option Tmp} {v : AV} {ob : Option Ob} {p : Nat} (h : ∀ d b, x = some d -> ob = some b -> p ≠ d) : (app s x v ob).H p = s.H p := by
 cases x with
 | none => cases ob <;> rfl
 | some d =>
  cases ob with
  | none => rfl
  | some b => simp only [app, putv]; exact upd_ne _ _ (h d b rfl rfl)
section
variable {cx : Cx} {fr : List Nat} {orc : List (Tmp × AV)} {ds : List (Option Tmp)} {x y : Oper} {s s1 s2 : St} {φ1 φ2 : Prop}
theorem store_loc (hx : opCls x.op = .store) (hd : x.dst = none) (h : sstep cx fr orc ds x s = some (s1, φ1)) :
  ∃ H', s1 = { s with H := H' } /\ ∀ t : St, (∀ z ∈ looks ds x, s.ρ z = t.ρ z) -> s.H = t.H -> sstep cx fr orc ds x t = some ({ t with H := H' }, φ1) := by
 have hop : ∃ t a b, x.op = .store t a b := by
  cases hop : x.op <;> simp [hop, opCls] at hx <;> first | exact ⟨_, _, _, rfl⟩ | skip
  case call c =>
   obtain ⟨callee, args, ts⟩ := c
   cases callee with
   | builtin b => cases b <;> simp at hx
   | _ => simp at hx
 obtain ⟨ty, a, b, hop⟩ := hop
 unfold sstep at h
 split at h
 case h_1 => cases h
 rename_i c hc
 simp only [hop, sstore] at h
 have hae : ∀ t : St, (∀ z ∈ looks ds x, s.ρ z = t.ρ z) -> ∀ z ∈ opnds x.op, aev cx s.ρ z = aev cx t.ρ z := fun t ht z hz => aev_agree fun t' ht' => ht t' (looks_op hz ht')
 have hst : ∀ t : St, (∀ z ∈ looks ds x, s.ρ z = t.ρ z) -> gcond ds t.ρ x.guard = some c := fun t ht => (gcond_agree ht).symm.trans hc
 split at h
 ·split at h
  ·rename_i H' φ' hv
   cases h
   refine ⟨H', by simp [putv, hd], fun t ht hH => ?_⟩
   have e := hae t ht
   simp only [hop, opnds] at e
   unfold sstep
   rw [hst t ht]
   simp only [hop, sstore]
   rw [<- e a (by simp), <- e b (by simp), <- hH, hv]
   simp [putv, hd]
  ·cases h
 ·cases h
  refine ⟨s.H, by simp [putv, hd], fun t ht hH => ?_⟩
  unfold sstep
  rw [hst t ht]
  simp [hop, sstore, putv, hd, hH]
theorem swap (hc : commB fr ds x y = true) (h1 : sstep cx fr orc ds x s = some (s1, φ1)) (h2 : sstep cx fr orc ds y s1 = some (s2, φ2)) (hφ2 : φ2) :
  ∃ s1', sstep cx fr orc ds y s = some (s1', φ2) /\ sstep cx fr orc ds x s1' = some (s2, φ1) := by
 simp only [commB, Bool.and_eq_true] at hc
 obtain ⟨hap, hcls⟩ := hc
 obtain ⟨a1, a2, a3⟩ := apartA_spec hap
 simp only [Bool.or_eq_true, Bool.and_eq_true, beq_iff_eq] at hcls
 rcases hcls with (⟨⟨hx, hy⟩, hfr⟩ | ⟨⟨hx, hxd⟩, hy⟩) | ⟨⟨hx, hy⟩, hyd⟩
 ·obtain ⟨v, ob, rfl, hob, hout, hF⟩ := step_loc hx h1
  obtain ⟨u, ob', rfl, hob', hout', hF'⟩ := step_loc hy h2
  have hHd : ∀ p d, y.dst = some d -> p = d -> (app s x.dst v ob).H p = s.H p := fun p d hd hp => app_H fun d' b hd' _ e => a2 d' d hd' hd (e.symm.trans hp)
  have g1 := hF' s (fun z hz => app_ρ fun d hd => a1 d hd z hz) ⟨fun hl z p hz hp => .inl (app_H fun d b hd hb e => ?_), fun hA d hd => by rw [hHd d d hd rfl]⟩
  ·refine ⟨_, g1, ?_⟩
   have g2 := hF (app s y.dst u ob') (fun z hz => (app_ρ fun d hd => a3 d hd z hz).symm) ⟨fun hl z p hz hp => ?_, fun hA d hd => ?_⟩
   ·rw [g2, app_comm a2]
   ·cases hb' : ob' with
    | none => exact .inl (app_H fun d b hd hb => by cases hb).symm
    | some b' =>
     obtain ⟨_, d, hd, hfresh⟩ := hob' b' hb'
     by_cases hpd : p = d
     ·refine .inr ?_
      rw [<- hHd p d hd hpd, hpd]
      exact hfresh hφ2
     ·exact .inl (app_H fun d' b'' hd' _ e => hpd (e.trans (by rw [hd] at hd'; exact (Option.some.inj hd').symm))).symm
   ·rw [app_H fun d' b hd' _ e => a2 d d' hd hd' e]
  ·obtain ⟨hxA, d', hd', _⟩ := hob b hb
   rw [hd] at hd'
   cases hd'
   have hin : fr.contains d = true := by
    rcases hfr with hfr | hfr
    ·rw [hxA] at hfr; simp at hfr
    ·rw [hd] at hfr; exact hfr
   have ho := hout' hl
   unfold headOut at ho
   cases hop : opnds y.op with
   | nil => rw [hop] at hz; cases hz
   | cons z' l =>
    rw [hop] at hz ho
    cases hz
    simp only [outside] at ho
    rw [hp] at ho
    simp only at ho
    rw [e, hin] at ho
    cases ho
 ·obtain ⟨H', rfl, hF⟩ := store_loc hx hxd h1
  obtain ⟨u, ob', rfl, hob', _, hF'⟩ := step_loc (by rw [hy]; rfl) h2
  have hn : ob' = none := by
   cases hb : ob' with
   | none => rfl
   | some b => have := (hob' b hb).1; rw [hy] at this; cases this
  subst hn
  have g1 := hF' s (fun z hz => rfl) ⟨fun hl => (by rw [hy] at hl; cases hl), fun hl => (by rw [hy] at hl; cases hl)⟩
  refine ⟨_, g1, ?_⟩
  have g2 := hF (app s y.dst u none) (fun z hz => (app_ρ fun d hd => a3 d hd z hz).symm) (by cases y.dst <;> rfl)
  rw [g2]
  cases y.dst <;> rfl
 ·obtain ⟨v, ob, rfl, hob, _, hF⟩ := step_loc (by rw [hx]; rfl) h1
  have hn : ob = none := by
   cases hb : ob with
   | none => rfl
   | some b => have := (hob b hb).1; rw [hx] at this; cases this
  subst hn
  obtain ⟨H', rfl, hF'⟩ := store_loc hy hyd h2
  have g1 := hF' s (fun z hz => app_ρ fun d hd => a1 d hd z hz) (by cases x.dst <;> rfl)
  refine ⟨_, g1, ?_⟩
  have g2 := hF { s with H := H' } (fun z hz => rfl) ⟨fun hl => (by rw [hx] at hl; cases hl), fun hl => (by rw [hx] at hl; cases hl)⟩
  rw [g2]
  cases x.dst <;> rfl
end
end Go.Aw

/- append among what leads nowhere near its row. Own work. -/
namespace Go.Aw
open Go
theorem AV.ind {p : AV -> Prop} (agg : ∀ cs, (∀ x ∈ cs, p x) -> p (.agg cs)) (tup : ∀ cs, (∀ x ∈ cs, p x) -> p (.tup cs)) (fn : ∀ f a b, (∀ x ∈ a, p x) -> (∀ x ∈ b, p x) -> p (.fn f a b)) (gd : ∀ b v, p v -> p (.gd b v))
  (ifc : ∀ t v, p v -> p (.ifc t v)) (leaf : ∀ x : AV, (match x with | .agg _ | .tup _ | .fn .. | .gd .. | .ifc .. => false | _ => true) = true -> p x) (x : AV) : p x := by
 have key : ∀ n : Nat, ∀ x : AV, SizeOf.sizeOf x < n -> p x := by
  intro n
  induction n with
  | zero => intro x h; exact absurd h (Nat.not_lt_zero _)
  | succ n ih =>
   intro x hn
   have hl : ∀ l : List AV, SizeOf.sizeOf l < n -> ∀ y ∈ l, p y := fun l hln y hy => ih y (by have := List.sizeOf_lt_of_mem hy; omega)
   cases x with
   | agg cs => exact agg cs (hl cs (by simp at hn; omega))
   | tup cs => exact tup cs (hl cs (by simp at hn; omega))
   | fn f a b =>
    simp at hn
    exact fn f a b (hl a (by omega)) (hl b (by omega))
   | gd b v => exact gd b v (ih v (by simp at hn; omega))
   | ifc t v => exact ifc t v (ih v (by simp at hn; omega))
   | _ => exact leaf _ rfl
 exact key _ x (Nat.lt_succ_self _)
theorem refs_all {D : Nat -> Bool} (hD : ∀ p, D p = true) (x : AV) : x.refs D = true := by
 induction x using AV.ind with
 | agg cs ih => exact refsl_iff.2 ih
 | tup cs ih => exact refsl_iff.2 ih
 | fn f a b ih ih' => simp only [AV.refs, Bool.and_eq_true]; exact ⟨refsl_iff.2 ih, refsl_iff.2 ih'⟩
 | gd b v ih => exact ih
 | ifc t v ih => exact ih
 | leaf x hx => cases x <;> first | rfl | exact hD _ | cases hx
theorem pure_refs {D : Nat -> Bool} {x : AV} : x.pure = true -> x.refs D = true := by
 induction x using AV.ind with
 | agg cs ih => intro h; exact refsl_iff.2 fun y hy => ih y hy (pures_iff.1 h y hy)
 | tup cs ih => intro h; exact refsl_iff.2 fun y hy => ih y hy (pures_iff.1 h y hy)
 | fn f a b ih ih' =>
  intro h
  simp only [AV.pure, Bool.and_eq_true] at h
  simp only [AV.refs, Bool.and_eq_true]
  exact ⟨refsl_iff.2 fun y hy => ih y hy (pures_iff.1 h.1 y hy), refsl_iff.2 fun y hy => ih' y hy (pures_iff.1 h.2 y hy)⟩
 | gd b v ih => exact ih
 | ifc t v ih => exact ih
 | leaf x hx => intro h; cases x <;> first | rfl | cases h | cases hx
theorem kill_free {o : Nat} {D : Nat -> Bool} (hD : D o = false) {x : AV} : x.refs D = true -> kill o x = x := by
 have hne : ∀ p, D p = true -> p ≠ o := fun p hp e => by rw [e, hD] at hp; cases hp
 have hl : ∀ l : List AV, (∀ y ∈ l, y.refs D = true -> kill o y = y) -> AV.refs.refsl D l = true -> sub.subs o (fun _ _ => .junk) (fun _ _ => .junk) l = l := fun l ih hl => by
  rw [subs_eq]
  conv => rhs; rw [<- List.map_id l]
  exact List.map_congr_left fun y hy => ih y hy (refsl_iff.1 hl y hy)
 induction x using AV.ind with
 | agg cs ih => intro h; simp only [kill, sub]; rw [hl cs ih h]
 | tup cs ih => intro h; simp only [kill, sub]; rw [hl cs ih h]
 | fn f a b ih ih' =>
  intro h
  simp only [AV.refs, Bool.and_eq_true] at h
  simp only [kill, sub]; rw [hl a ih h.1, hl b ih' h.2]
 | gd b v ih => intro h; have := ih h; simp only [kill] at this; simp only [kill, sub, this]
 | ifc t v ih => intro h; have := ih h; simp only [kill] at this; simp only [kill, sub, this]
 | leaf x hx => intro h; cases x <;> first | rfl | (simp only [kill, sub]; rw [if_neg (hne _ h)]) | cases hx
def killO : Option Nat -> AV -> AV
 | some o => kill o
 | none => id
theorem killO_free {q : Option Nat} {D : Nat -> Bool} (hD : ∀ o, q = some o -> D o = false) {x : AV} (hx : x.refs D = true) : killO q x = x := by
 cases q with
 | none => rfl
 | some o => exact kill_free (hD o rfl) hx
theorem killO_junk (q : Option Nat) : killO q .junk = .junk := by cases q <;> rfl
theorem cst_refs {D : Nat -> Bool} (v : Value) : (cst v).refs D = true := by
 have h1 : ∀ v, (cst1 v).refs D = true := fun v => by unfold cst1; split <;> rfl
 unfold cst
 split
 ·split
  ·exact refsl_iff.2 fun x hx => by
    obtain ⟨y, _, rfl⟩ := List.mem_map.1 hx
    exact h1 y
  ·rfl
 ·exact h1 _
theorem refs_strip {D : Nat -> Bool} : ∀ {x : AV}, x.refs D = true -> (stripV x).refs D = true
 | .gd _ v, h => refs_strip (x := v) h
 | .ptr .., h | .sl .., h | .asl .., h | .agg _, h | .tup _, h | .fn .., h | .ifc .., h | .junk, h | .int .., h | .bool _, h | .str _, h | .nilp, h | .rop .., h | .nilsl, h | .ro .., h | .nilf, h | .nili, h | .mp .., h | .nilm, h => h
theorem refs_refOf {D : Nat -> Bool} {x : AV} {p : Nat} (h : x.refs D = true) (hp : refOf x = some p) : D p = true := by
 cases x <;> simp only [refOf, reduceCtorEq, Option.some.injEq] at hp <;> exact hp ▸ h
theorem vindexAddr_sz {P : Program} {H H' : Hp} {t : TypeId} {x ix : AV} (h : ∀ p, refOf x = some p -> (H p).map Ob.sz = (H' p).map Ob.sz) : vindexAddr P H t x ix = vindexAddr P H' t x ix := by
 unfold vindexAddr
 cases ix with
 | int k n =>
  simp only
  cases tIndex P t with
  | none => rfl
  | some q =>
   obtain ⟨L, esz, l⟩ := q
   cases L with
   | none =>
    cases x with
    | sl o lo len =>
     have := h o rfl
     simp only
     cases h1 : H o with
     | none =>
      cases h2 : H' o with
      | none => rfl
      | some b => rw [h1, h2] at this; cases this
     | some a =>
      cases h2 : H' o with
      | none => rw [h1, h2] at this; cases this
      | some b =>
       rw [h1, h2] at this
       simp only [Option.map_some, Option.some.injEq] at this
       simp only [this]
    | _ => rfl
   | some L => rfl
 | _ => rfl
section
variable {cx : Cx} {fr : List Nat} {orc : List (Tmp × AV)} {ds : List (Option Tmp)} {x y o : Oper} {s s1 s2 : St} {φ φ1 φ2 : Prop}
theorem aev_refs (hcx : CxOk cx) {D : Nat -> Bool} {ρ : Nat -> AV} {x : Operand} (h : ∀ t, x = .tmp t -> (ρ t).refs D = true) : (aev cx ρ x).refs D = true := by
 cases x with
 | tmp t => exact h t rfl
 | const v => exact cst_refs v
 | global g =>
  rcases hcx.pureG g with h | h
  ·exact pure_refs h
  ·show (cx.G g).refs D = true
   rw [h]; rfl
 | func f => rfl
def okY (fr : List Nat) (ds : List (Option Tmp)) (y : Oper) : Bool :=
 (match y.op with | .move _ | .nilCheck _ | .fieldAddr .. | .indexAddr .. => true | _ => false) && (looks ds y).all (kset fr).contains && (match y.dst with | some e => (kset fr).contains e | none => true)
def isY : Op -> Bool
 | .move _ | .nilCheck _ | .fieldAddr .. | .indexAddr .. => true
 | _ => false
theorem okY_isY {fr : List Nat} {ds : List (Option Tmp)} {y : Oper} (h : okY fr ds y = true) : isY y.op = true := by
 simp only [okY, Bool.and_eq_true] at h
 exact h.1.1
theorem okY_loc (hcx : CxOk cx) (hk : okY fr ds y = true) (h : sstep cx fr orc ds y s = some (s1, φ)) {D : Nat -> Bool} (hop : ∀ z ∈ looks ds y, (s.ρ z).refs D = true) :
  ∃ u, s1 = putv s y.dst u /\ u.refs D = true /\ ∀ t : St, (∀ z ∈ looks ds y, s.ρ z = t.ρ z) -> (∀ p, D p = true -> (s.H p).map Ob.sz = (t.H p).map Ob.sz) -> sstep cx fr orc ds y t = some (putv t y.dst u, φ) := by
 simp only [okY, Bool.and_eq_true] at hk
 obtain ⟨⟨hk, -⟩, -⟩ := hk
 have hw : ∀ (g : Option (Nat × Bool)) (c : Bool) (u : AV), u.refs D = true -> (wrapg g c u).refs D = true := fun g c u hu => by cases g <;> exact hu
 have hev : ∀ x ∈ opnds y.op, (aev cx s.ρ x).refs D = true := fun x hx => aev_refs hcx fun t ht => hop t (looks_op hx ht)
 have hae : ∀ t : St, (∀ x ∈ looks ds y, s.ρ x = t.ρ x) -> ∀ x ∈ opnds y.op, aev cx s.ρ x = aev cx t.ρ x := fun t ht x hx => aev_agree fun t' ht' => ht t' (looks_op hx ht')
 unfold sstep at h
 split at h
 case h_1 => cases h
 rename_i c hc
 have hst : ∀ t : St, (∀ x ∈ looks ds y, s.ρ x = t.ρ x) -> gcond ds t.ρ y.guard = some c := fun t ht => (gcond_agree ht).symm.trans hc
 cases hop2 : y.op with
 | move x =>
  simp only [hop2] at h
  cases h
  refine ⟨_, rfl, hw _ _ _ (hev x (by simp [hop2, opnds])), fun t ht _ => ?_⟩
  unfold sstep
  rw [hst t ht]
  simp only [hop2]
  rw [hae t ht x (by simp [hop2, opnds])]
 | nilCheck x =>
  have hx := hev x (by simp [hop2, opnds])
  simp only [hop2, opCls, svop, vop] at h
  split at h
  case h_2 => cases h
  rename_i v φ0 hv
  cases h
  refine ⟨_, rfl, hw _ _ _ ?_, fun t ht _ => ?_⟩
  ·have hx' := refs_strip hx
   split at hv <;> first | (rename_i hg; cases hv; rw [hg] at hx'; exact hx') | cases hv
  ·have e := hae t ht
   unfold sstep
   rw [hst t ht]
   simp only [hop2, opCls, svop, vop]
   rw [<- e x (by simp [hop2, opnds]), hv]
   simp only
   rw [allB_agree (ρ := s.ρ) (ρ' := t.ρ) (fun z hz => e z (by rw [hop2]; exact hz))]
 | fieldAddr ty x f =>
  have hx := hev x (by simp [hop2, opnds])
  simp only [hop2, opCls, svop, vop] at h
  split at h
  case h_2 => cases h
  rename_i v φ0 hv
  cases h
  refine ⟨_, rfl, hw _ _ _ ?_, fun t ht _ => ?_⟩
  ·have hx' := refs_strip hx
   split at hv
   ·split at hv <;> first | (rename_i hg; cases hv; rw [hg] at hx'; exact hx') | cases hv
   ·cases hv
  ·have e := hae t ht
   unfold sstep
   rw [hst t ht]
   simp only [hop2, opCls, svop, vop]
   rw [<- e x (by simp [hop2, opnds]), hv]
   simp only
   rw [allB_agree (ρ := s.ρ) (ρ' := t.ρ) (fun z hz => e z (by rw [hop2]; exact hz))]
 | indexAddr ty x ix =>
  have hx := hev x (by simp [hop2, opnds])
  simp only [hop2, opCls, svop, vop] at h
  split at h
  case isFalse => cases h
  rename_i hout
  split at h
  case h_2 => cases h
  rename_i v φ0 hv
  cases h
  refine ⟨_, rfl, hw _ _ _ ?_, fun t ht hH => ?_⟩
  ·have hx' := refs_strip hx
   unfold vindexAddr at hv
   split at hv
   ·split at hv
    ·split at hv
     ·rename_i hg
      split at hv
      ·cases hv; rw [hg] at hx'; exact hx'
      ·cases hv
     ·cases hv; rfl
     ·rename_i hg; cases hv; rw [hg] at hx'; exact hx'
     ·cases hv
    ·split at hv
     ·rename_i hg; cases hv; rw [hg] at hx'; exact hx'
     ·cases hv; rfl
     ·cases hv
    ·cases hv
   ·cases hv
  ·have e := hae t ht
   have e1 : vindexAddr cx.P t.H ty (stripV (aev cx s.ρ x)) (stripV (aev cx s.ρ ix)) = some (v, φ0) := by
    have hx' := refs_strip hx
    rw [<- vindexAddr_sz (H := s.H) fun p hp => hH p (refs_refOf hx' hp)]
    exact hv
   unfold sstep
   rw [hst t ht]
   have eh : headOut cx t.ρ fr (.indexAddr ty x ix) = true := by
    rw [<- hout]
    simp only [headOut, opnds, <- e x (by simp [hop2, opnds])]
   simp only [hop2, opCls, svop, vop, eh, if_true]
   rw [<- e x (by simp [hop2, opnds]), <- e ix (by simp [hop2, opnds]), e1]
   simp only
   rw [allB_agree (ρ := s.ρ) (ρ' := t.ρ) (fun z hz => e z (by rw [hop2]; exact hz))]
 | _ => rw [hop2] at hk; simp at hk
theorem clear_iff {ρ : Nat -> AV} {bad : List Nat} : clearOf fr ρ bad = true ↔ ∀ t ∈ kset fr, (ρ t).refs (fun p => !bad.contains p) = true := by
 simp [clearOf, List.all_eq_true]
theorem append_loc (hx : opCls x.op = .append) (h : sstep cx fr orc ds x s = some (s1, φ)) :
  ∃ (d : Nat) (q : Option Nat) (bad : List Nat) (v : AV) (H1 : Hp), x.dst = some d /\ s1 = ⟨upd (fun t => killO q (s.ρ t)) d v, H1⟩ /\ (∀ o, q = some o -> bad.contains o = true) /\ (q = none -> True) /\
   (∀ p, bad.contains p = false -> (H1 p).map Ob.sz = (s.H p).map Ob.sz) /\ ((bad = [] /\ q = none) \/ clearOf fr s.ρ bad = true) /\
   ∀ t : St, (∀ z ∈ looks ds x, s.ρ z = t.ρ z) -> s.H = t.H -> (bad = [] \/ clearOf fr t.ρ bad = true) -> sstep cx fr orc ds x t = some (⟨upd (fun z => killO q (t.ρ z)) d v, H1⟩, φ) := by
 have hae : ∀ t : St, (∀ z ∈ looks ds x, s.ρ z = t.ρ z) -> ∀ z ∈ opnds x.op, aev cx s.ρ z = aev cx t.ρ z := fun t ht z hz => aev_agree fun t' ht' => ht t' (looks_op hz ht')
 unfold sstep at h
 split at h
 case h_1 => cases h
 rename_i c hc
 have hst : ∀ t : St, (∀ z ∈ looks ds x, s.ρ z = t.ρ z) -> gcond ds t.ρ x.guard = some c := fun t ht => (gcond_agree ht).symm.trans hc
 cases hop : x.op with
 | call cl =>
  simp only [hop] at h
  cases hcl : cl.callee with
  | value f => rw [hop] at hx; simp [opCls, hcl] at hx
  | invoke r m => rw [hop] at hx; simp [opCls, hcl] at hx
  | builtin b =>
   have hb : b = .append := by
    rw [hop] at hx
    simp only [opCls, hcl] at hx
    cases b <;> first | rfl | simp at hx
   subst hb
   rw [hcl] at h
   simp only at h
   unfold sappend at h
   cases c with
   | false =>
    cases hdst : x.dst with
    | none => rw [hdst] at h; simp at h
    | some d =>
     rw [hdst] at h
     simp only [Option.some.injEq, Prod.mk.injEq] at h
     obtain ⟨rfl, rfl⟩ := h
     refine ⟨d, none, [], _, _, rfl, rfl, fun o ho => (by cases ho), fun _ => trivial, fun p hp => rfl, .inl ⟨rfl, rfl⟩, fun t' ht hH _ => ?_⟩
     unfold sstep
     rw [hst t' ht]
     simp only [hop, hcl, sappend, hdst, hH]
     rfl
   | true =>
   split at h
   ·rename_i d a b t t2 _ hdst hargs hts
    split at h
    case isFalse => cases h
    rename_i hty
    simp only [Bool.and_eq_true] at hty
    split at h
    case h_2 => cases h
    rename_i s' v φ' hv
    cases h
    have hmem : ∀ z, z = a \/ z = b -> z ∈ opnds x.op := fun z hz => by
     rw [hop]; simp only [opnds, hcl]; rw [hargs]; simpa using hz
    have hgo : ∀ (q : Option Nat) (H1 : Hp), s' = ⟨fun z => killO q (s.ρ z), H1⟩ -> (∀ t' : St, s.H = t'.H -> vappend cx.P t' t d (stripV (aev cx s.ρ a)) (stripV (aev cx s.ρ b)) = some (⟨fun z => killO q (t'.ρ z), H1⟩, v, φ')) ->
      ∀ t' : St, (∀ z ∈ looks ds x, s.ρ z = t'.ρ z) -> s.H = t'.H -> clearOf fr t'.ρ (badOf (stripV (aev cx s.ρ a)) d) = true ->
       sstep cx fr orc ds x t' = some (⟨upd (fun z => killO q (t'.ρ z)) d v, H1⟩, φ' /\ d < 100000 /\ stripB (aev cx s.ρ a) = true /\ stripB (aev cx s.ρ b) = true) := fun q H1 hs' hva t' ht hH hcl' => by
     have e := hae t' ht
     have ea := e a (hmem a (.inl rfl))
     have eb := e b (hmem b (.inr rfl))
     unfold sstep
     rw [hst t' ht]
     simp only [hop, hcl, sappend, hdst, hargs, hts]
     rw [<- ea, <- eb, hty.1, hcl', hva t' hH]
     rfl
    unfold vappend at hv
    split at hv
    case h_1 => cases hv
    rename_i e hte
    split at hv
    case h_1 => cases hv
    rename_i zs hzs
    split at hv
    case h_1 => cases hv
    rename_i ys ψ hys
    split at hv
    ·rename_i hxa
     cases hv
     refine ⟨d, none, [d], _, _, hdst, rfl, fun o ho => (by cases ho), fun _ => trivial, fun p hp => ?_, .inr (by simpa [badOf, hxa] using hty.2), fun t' ht hH hcl' => ?_⟩
     ·have : p ≠ d := by simpa using hp
      simp only [upd_ne _ _ this]
     ·refine hgo none _ rfl (fun t'' hH'' => ?_) t' ht hH (by simpa [badOf, hxa] using hcl'.resolve_left (by simp))
      simp only [vappend, hte, hzs, <- hH'', hys, hxa]
      rfl
    ·rename_i o lo len hxa
     split at hv
     case h_1 => cases hv
     rename_i ob hob
     cases hv
     refine ⟨d, some o, [o, d], _, _, hdst, rfl, fun o' ho => (by cases ho; simp), fun _ => trivial, fun p hp => ?_, .inr (by simpa [badOf, hxa] using hty.2), fun t' ht hH hcl' => ?_⟩
     ·have : p ≠ o /\ p ≠ d := by simpa using hp
      simp only [upd_ne _ _ this.2, St.drop, St.sub, if_neg this.1]
      cases s.H p <;> rfl
     ·refine hgo (some o) _ rfl (fun t'' hH'' => ?_) t' ht hH (by simpa [badOf, hxa] using hcl'.resolve_left (by simp))
      simp only [vappend, hte, hzs, <- hH'', hys, hxa, hob]
      simp only [St.drop, St.sub, <- hH'']
      rfl
    ·cases hv
   ·exact absurd ‹true = false› (by simp)
   ·cases h
 | _ => rw [hop] at hx; simp [opCls] at hx
def commA (fr : List Nat) (ds : List (Option Tmp)) (x y : Oper) : Bool :=
 apartA ds x y && ((opCls x.op == .append && okY fr ds y) || (opCls y.op == .append && okY fr ds x))
theorem okY_k (hk : okY fr ds y = true) : (∀ z ∈ looks ds y, z ∈ kset fr) /\ (∀ e, y.dst = some e -> e ∈ kset fr) := by
 simp only [okY, Bool.and_eq_true, List.all_eq_true] at hk
 refine ⟨fun z hz => by simpa using hk.1.2 z hz, fun e he => ?_⟩
 have := hk.2
 rw [he] at this
 simpa using this
theorem putv_ρ {s : St} {e : Option Tmp} {u : AV} {t : Tmp} (h : ∀ d, e = some d -> t ≠ d) : (putv s e u).ρ t = s.ρ t := by
 cases e with
 | none => rfl
 | some d => exact upd_ne _ _ (h d rfl)
theorem putv_H {s : St} {e : Option Tmp} {u : AV} : (putv s e u).H = s.H := by cases e <;> rfl
theorem swapA (hcx : CxOk cx) (hc : commA fr ds x y = true) (hJ : isY x.op = true -> ∀ d, x.dst = some d -> s.ρ d = .junk) (h1 : sstep cx fr orc ds x s = some (s1, φ1)) (h2 : sstep cx fr orc ds y s1 = some (s2, φ2)) :
  ∃ s1', sstep cx fr orc ds y s = some (s1', φ2) /\ sstep cx fr orc ds x s1' = some (s2, φ1) := by
 simp only [commA, Bool.and_eq_true, Bool.or_eq_true, beq_iff_eq] at hc
 obtain ⟨hap, hc⟩ := hc
 obtain ⟨a1, a2, a3⟩ := apartA_spec hap
 rcases hc with ⟨hx, hy⟩ | ⟨hy, hx⟩
 ·obtain ⟨d, q, bad, v, H1, hd, rfl, hq, -, hsz, hcl, hF⟩ := append_loc hx h1
  obtain ⟨k1, k2⟩ := okY_k hy
  have hfree : ∀ z ∈ kset fr, killO q (s.ρ z) = s.ρ z := fun z hz => by
   rcases hcl with ⟨_, rfl⟩ | hcl
   ·rfl
   ·exact killO_free (D := fun p => !bad.contains p) (fun o ho => by simp only [hq o ho, Bool.not_true]) (clear_iff.1 hcl z hz)
  have hlk : ∀ z ∈ looks ds y, (⟨upd (fun t => killO q (s.ρ t)) d v, H1⟩ : St).ρ z = s.ρ z := fun z hz => by
   show upd (fun t => killO q (s.ρ t)) d v z = _
   rw [upd_ne _ _ (a1 d hd z hz)]
   exact hfree z (k1 z hz)
  -- what y looks at leads to nothing bad
  obtain ⟨u, rfl, hu, hG⟩ := okY_loc hcx hy h2 (D := fun p => !bad.contains p) (fun z hz => by
   rw [hlk z hz]
   rcases hcl with ⟨rfl, _⟩ | hcl
   ·exact refs_all (fun _ => rfl) _
   ·exact clear_iff.1 hcl z (k1 z hz))
  have g1 := hG s hlk (fun p hp => hsz p (by simpa using hp))
  refine ⟨_, g1, ?_⟩
  have g2 := hF (putv s y.dst u) (fun z hz => (putv_ρ fun e he => a3 e he z hz).symm) putv_H.symm (by
   rcases hcl with ⟨rfl, _⟩ | hcl
   ·exact .inl rfl
   ·refine .inr (clear_iff.2 fun t ht => ?_)
    by_cases hte : y.dst = some t
    ·rw [hte]
     show (upd s.ρ t u t).refs _ = true
     rw [upd_same]
     exact hu
    ·rw [putv_ρ fun e he e2 => hte (by rw [he, e2])]
     exact clear_iff.1 hcl t ht)
  rw [g2]
  cases hyd : y.dst with
  | none => rfl
  | some e =>
   have hne := a2 d e hd hyd
   have huk : killO q u = u := by
    rcases hcl with ⟨_, rfl⟩ | hcl
    ·rfl
    ·exact killO_free (D := fun p => !bad.contains p) (fun o ho => by simp only [hq o ho, Bool.not_true]) hu
   simp only [putv]
   congr 3
   rw [upd_comm _ _ _ hne]
   congr 1
   funext t
   by_cases ht : t = e
   ·subst ht; simp only [upd_same, huk]
   ·simp only [upd_ne _ _ ht]
 ·obtain ⟨d, q, bad, v, H1, hd, rfl, hq, -, hsz, hcl, hF⟩ := append_loc hy h2
  obtain ⟨k1, k2⟩ := okY_k hx
  -- y at s
  have hx1 := okY_loc (D := fun _ => true) hcx hx h1 (fun z hz => refs_all (fun _ => rfl) _)
  obtain ⟨u0, e0, _, _⟩ := hx1
  have hkeep : ∀ t, (∀ e, x.dst = some e -> t ≠ e) -> s1.ρ t = s.ρ t := fun t ht => by rw [e0]; exact putv_ρ ht
  have hH : s1.H = s.H := by rw [e0]; exact putv_H
  have hcl' : clearOf fr s1.ρ bad = true -> clearOf fr s.ρ bad = true := fun h => clear_iff.2 fun t ht => by
   by_cases hte : x.dst = some t
   ·rw [hJ (okY_isY hx) t hte]; rfl
   ·rw [<- hkeep t fun e he e2 => hte (by rw [he, e2])]
    exact clear_iff.1 h t ht
  have g1 := hF s (fun z hz => hkeep z fun e he => a1 e he z hz) hH (hcl.imp (·.1) hcl')
  refine ⟨_, g1, ?_⟩
  rcases hcl with ⟨rfl, rfl⟩ | hcl
  ·obtain ⟨u, rfl, _, hG⟩ := okY_loc (D := fun _ => true) hcx hx h1 (fun z hz => refs_all (fun _ => rfl) _)
   have g2 := hG ⟨upd (fun z => killO none (s.ρ z)) d v, H1⟩ (fun z hz => by
    show s.ρ z = upd (fun z => killO none (s.ρ z)) d v z
    rw [upd_ne _ _ (a3 d hd z hz)]; rfl) (fun p _ => by rw [<- hH]; exact (hsz p rfl).symm)
   rw [g2]
   cases hxd : x.dst with
   | none => rfl
   | some e =>
    have hne := a2 e d hxd hd
    simp only [putv, killO, id]
    rw [upd_comm _ _ _ hne]
  ·have hcs := hcl' hcl
   obtain ⟨u, rfl, hu, hG⟩ := okY_loc (D := fun p => !bad.contains p) hcx hx h1 (fun z hz => clear_iff.1 hcs z (k1 z hz))
   have hfree : ∀ z ∈ kset fr, killO q (s.ρ z) = s.ρ z := fun z hz => killO_free (D := fun p => !bad.contains p) (fun o ho => by simp only [hq o ho, Bool.not_true]) (clear_iff.1 hcs z hz)
   have g2 := hG ⟨upd (fun z => killO q (s.ρ z)) d v, H1⟩ (fun z hz => by
    show s.ρ z = upd (fun z => killO q (s.ρ z)) d v z
    rw [upd_ne _ _ (a3 d hd z hz)]; exact (hfree z (k1 z hz)).symm) (fun p hp => by rw [<- hH]; exact (hsz p (by simpa using hp)).symm)
   rw [g2]
   have huk : killO q u = u := killO_free (D := fun p => !bad.contains p) (fun o ho => by simp only [hq o ho, Bool.not_true]) hu
   cases hxd : x.dst with
   | none => rfl
   | some e =>
    have hne := a2 e d hxd hd
    simp only [putv]
    congr 3
    rw [<- upd_comm _ _ _ hne]
    congr 1
    funext t
    by_cases ht : t = e
    ·subst ht; simp only [upd_same, huk]
    ·simp only [upd_ne _ _ ht]
end
end Go.Aw

/- Whatever order is drawn. Own work. -/
namespace Go.Aw
open Go
def runI (step : Oper -> St -> Option (St × Prop)) (ops : Array Oper) : List Nat -> St -> Option (St × Prop)
 | [], s => some (s, True)
 | i :: r, s => match ops[i]? with
  | some o => match step o s with
   | some (s1, φ1) => match runI step ops r s1 with
    | some (s2, φ2) => some (s2, φ1 /\ φ2)
    | none => none
   | none => none
  | none => none
def depsOf (o : Oper) : List Nat := o.after.toList.filterMap fun e => if Region.binds .any e then some e.on else none
def clo : List (List Nat) -> List Nat -> List Nat
 | [], acc => acc
 | d :: r, acc => clo r (acc ++ [d.foldl (fun m k => m ||| 2 ^ k ||| acc.getD k 0) 0])
def smaller (ops : List Oper) : Bool := (ops.zipIdx).all fun p => (depsOf p.1).all fun k => k < p.2
def ordB (comm : Oper -> Oper -> Bool) (ops : List Oper) (l : List Nat) : Bool :=
 match l with
 | [] => true
 | i :: r => (match ops[i]? with
  | some x => r.all fun j => ((clo (ops.map depsOf) []).getD j 0).testBit i || (match ops[j]? with | some y => comm x y | none => true)
  | none => true) && ordB comm ops r
theorem foldl_bit (acc : List Nat) (j : Nat) : ∀ (d : List Nat) (m : Nat), (d.foldl (fun m k => m ||| 2 ^ k ||| acc.getD k 0) m).testBit j = true -> m.testBit j = true \/ ∃ k ∈ d, k = j \/ (acc.getD k 0).testBit j = true
 | [], m, h => .inl h
 | k :: d, m, h => by
  simp only [List.foldl_cons] at h
  rcases foldl_bit acc j d _ h with h | ⟨k', hk', h⟩
  ·simp only [Nat.testBit_or, Bool.or_eq_true, Nat.testBit_two_pow, decide_eq_true_eq] at h
   rcases h with (h | h) | h
   ·exact .inl h
   ·exact .inr ⟨k, by simp, .inl h⟩
   ·exact .inr ⟨k, by simp, .inr h⟩
  ·exact .inr ⟨k', by simp [hk'], h⟩
def CloOk (deps : List (List Nat)) (acc : List Nat) : Prop :=
 ∀ i, i < acc.length -> ∀ j, (acc.getD i 0).testBit j = true -> ∃ k ∈ deps.getD i [], k = j \/ (k < i /\ (acc.getD k 0).testBit j = true)
theorem clo_ok (deps : List (List Nat)) : ∀ (r : List (List Nat)) (acc : List Nat), (∀ j, r[j]? = deps[acc.length + j]?) -> CloOk deps acc -> CloOk deps (clo r acc)
 | [], acc, _, h => h
 | d :: r, acc, hd, h => by
  simp only [clo]
  refine clo_ok deps r _ (fun j => ?_) (fun i hi j hj => ?_)
  ·have := hd (j + 1)
   simpa [Nat.add_assoc, Nat.add_comm 1 j] using this
  ·have h0 : deps[acc.length]? = some d := by simpa using (hd 0).symm
   simp only [List.length_append, List.length_cons, List.length_nil] at hi
   have hold : ∀ k, k < acc.length -> (acc ++ [d.foldl (fun m k => m ||| 2 ^ k ||| acc.getD k 0) 0]).getD k 0 = acc.getD k 0 := fun k hk => by
    simp only [List.getD_eq_getElem?_getD, List.getElem?_append_left hk]
   by_cases hlt : i < acc.length
   ·rw [hold i hlt] at hj
    obtain ⟨k, hk, hk'⟩ := h i hlt j hj
    refine ⟨k, hk, ?_⟩
    rcases hk' with e | ⟨h1, h2⟩
    ·exact .inl e
    ·exact .inr ⟨h1, by rw [hold k (by omega)]; exact h2⟩
   ·have he : i = acc.length := by omega
    subst he
    have hnew : (acc ++ [d.foldl (fun m k => m ||| 2 ^ k ||| acc.getD k 0) 0]).getD acc.length 0 = d.foldl (fun m k => m ||| 2 ^ k ||| acc.getD k 0) 0 := by
     simp [List.getD_eq_getElem?_getD]
    rw [hnew] at hj
    rcases foldl_bit acc j d 0 hj with h1 | ⟨k, hk, hk'⟩
    ·simp at h1
    ·refine ⟨k, by simp only [List.getD_eq_getElem?_getD, h0]; exact hk, ?_⟩
     rcases hk' with e | hk'
     ·exact .inl e
     ·have hkl : k < acc.length := by
       rcases Nat.lt_or_ge k acc.length with h1 | h1
       ·exact h1
       ·rw [List.getD_eq_getElem?_getD, List.getElem?_eq_none h1] at hk'; simp at hk'
      exact .inr ⟨hkl, by rw [hold k hkl]; exact hk'⟩
section
variable {cx : Cx} {fr : List Nat} {orc : List (Tmp × AV)} {ops : Array Oper} {step : Oper -> St -> Option (St × Prop)} {comm : Oper -> Oper -> Bool} {bl : Oper -> Bool}
theorem mput_loc {ds : List (Option Tmp)} {o : Oper} {s s' : St} {φ : Prop} (ho : opCls o.op = .mput) (h : sstep cx fr orc ds o s = some (s', φ)) : ∃ H', s' = putv { s with H := H' } o.dst .junk := by
 have hop : ∃ t a b c, o.op = .mapUpdate t a b c := by
  cases hop : o.op <;> simp [hop, opCls] at ho <;> first | exact ⟨_, _, _, _, rfl⟩ | skip
  rename_i cl
  cases hcl : cl.callee with
  | value f => simp [hcl] at ho
  | invoke r m => simp [hcl] at ho
  | builtin b => cases b <;> simp [hcl] at ho
 obtain ⟨t, a, b, c, hop⟩ := hop
 unfold sstep at h
 split at h
 case h_1 => cases h
 simp only [hop] at h
 unfold smput at h
 split at h
 ·split at h
  ·cases h
   exact ⟨_, rfl⟩
  ·cases h
 ·cases h
  exact ⟨s.H, rfl⟩
theorem sstep_junk {ds : List (Option Tmp)} {o : Oper} {s s' : St} {φ : Prop} {d : Nat} (h : sstep cx fr orc ds o s = some (s', φ)) (hd : o.dst ≠ some d) (hj : s.ρ d = .junk) : s'.ρ d = .junk := by
 have hne : ∀ e, o.dst = some e -> d ≠ e := fun e he e2 => hd (by rw [he, e2])
 by_cases hV : isV (opCls o.op) = true
 ·obtain ⟨v, ob, rfl, _⟩ := step_loc hV h
  rw [app_ρ hne]; exact hj
 ·by_cases hA : opCls o.op = .append
  ·obtain ⟨e, q, bad, v, H1, he, rfl, _⟩ := append_loc hA h
   show upd (fun t => killO q (s.ρ t)) e v d = _
   rw [upd_ne _ _ (hne e he), hj, killO_junk]
  by_cases hM : opCls o.op = .mput
  ·obtain ⟨H', rfl⟩ := mput_loc hM h
   rw [putv_ρ hne]; exact hj
  ·have hS : opCls o.op = .store := by
    unfold sstep at h
    split at h
    case h_1 => cases h
    cases hop : opCls o.op with
    | store => rfl
    | append => exact absurd hop hA
    | mput => exact absurd hop hM
    | P => rw [hop] at hV; simp [isV] at hV
    | L => rw [hop] at hV; simp [isV] at hV
    | A => rw [hop] at hV; simp [isV] at hV
    | no =>
     exfalso
     cases hop2 : o.op <;> simp [hop2, opCls] at hop h
     rename_i cl
     cases hcl : cl.callee with
     | value f => simp [hcl] at hop
     | invoke r m => simp [hcl, svop, vop, hop2] at h
     | builtin b => cases b <;> simp [hcl, svop, vop, vbuiltin, hop2] at hop h
   have hop : ∃ t a b, o.op = .store t a b := by
    cases hop : o.op <;> simp [hop, opCls] at hS <;> first | exact ⟨_, _, _, rfl⟩ | skip
    rename_i cl
    cases hcl : cl.callee with
    | value f => simp [hcl] at hS
    | invoke r m => simp [hcl] at hS
    | builtin b => cases b <;> simp [hcl] at hS
   obtain ⟨t, a, b, hop⟩ := hop
   unfold sstep at h
   split at h
   case h_1 => cases h
   simp only [hop] at h
   unfold sstore at h
   split at h
   ·split at h
    ·cases h
     rw [putv_ρ hne]; exact hj
    ·cases h
   ·cases h
    rw [putv_ρ hne]; exact hj
def Ndst (ops : Array Oper) : Prop := ∀ (i j : Nat) (oi oj : Oper) (d : Tmp), ops[i]? = some oi -> ops[j]? = some oj -> oi.dst = some d -> oj.dst = some d -> i = j
def Blank (bl : Oper -> Bool) (ops : Array Oper) (l : List Nat) (s : St) : Prop := ∀ j ∈ l, ∀ (oj : Oper), ops[j]? = some oj -> bl oj = true -> ∀ d, oj.dst = some d -> s.ρ d = .junk
structure StepOk (cx : Cx) (ops : Array Oper) (step : Oper -> St -> Option (St × Prop)) (comm : Oper -> Oper -> Bool) (bl : Oper -> Bool) : Prop where
 sound : ∀ (κ : Kz) (s : St) (a : Act) (w : World) (o : Oper) (s' : St) (φ : Prop), RelK cx κ s a w -> o ∈ ops -> step o s = some (s', φ) -> φ -> (Region.wanted o (yielded ops a.tmps) = true /\ Does cx o a w s') \/ (Region.wanted o (yielded ops a.tmps) = false /\ Rel cx s' (a.put o.dst undef) w)
 swap : ∀ (x y : Oper) (s s1 s2 : St) (φ1 φ2 : Prop), comm x y = true -> (bl x = true -> ∀ d, x.dst = some d -> s.ρ d = .junk) -> step x s = some (s1, φ1) -> φ1 -> step y s1 = some (s2, φ2) -> φ2 -> ∃ s1', step y s = some (s1', φ2) /\ step x s1' = some (s2, φ1)
 junk : ∀ (o : Oper) (s s' : St) (φ : Prop) (d : Tmp), step o s = some (s', φ) -> o.dst ≠ some d -> s.ρ d = .junk -> s'.ρ d = .junk
theorem Blank.next {l : List Nat} {i : Nat} {oi : Oper} {s s' : St} {φ : Prop} (hK : StepOk cx ops step comm bl) (hN : Ndst ops) (hi : ops[i]? = some oi) (hB : Blank bl ops l s) (hil : i ∉ l) (h : step oi s = some (s', φ)) : Blank bl ops l s' := fun j hj oj hoj hbl d hd =>
 hK.junk _ _ _ _ _ h (fun he => hil (hN i j oi oj d hi hoj he hd ▸ hj)) (hB j hj oj hoj hbl d hd)
theorem bubble (hK : StepOk cx ops step comm bl) (hN : Ndst ops) {i : Nat} {oi : Oper} (hi : ops[i]? = some oi) : ∀ (pre post : List Nat) (s s' : St) (φ : Prop), pre.Nodup -> Blank bl ops pre s -> (∀ j ∈ pre, ∀ oj, ops[j]? = some oj -> comm oj oi = true) -> runI step ops (pre ++ i :: post) s = some (s', φ) -> φ ->
  ∃ s1 φ1 φ2, step oi s = some (s1, φ1) /\ φ1 /\ runI step ops (pre ++ post) s1 = some (s', φ2) /\ φ2
 | [], post, s, s', φ, _, _, _, h, hφ => by
  simp only [List.nil_append, runI, hi] at h ⊢
  split at h
  ·rename_i s1 φ1 h1
   split at h
   ·rename_i s2 φ2 h2
    cases h
    exact ⟨s1, φ1, φ2, h1, hφ.1, h2, hφ.2⟩
   ·cases h
  ·cases h
 | j :: pre, post, s, s', φ, hnd, hB, hc, h, hφ => by
  simp only [List.cons_append, runI] at h ⊢
  split at h
  case h_2 => cases h
  rename_i oj hj
  split at h
  case h_2 => cases h
  rename_i sa φa ha
  split at h
  case h_2 => cases h
  rename_i sb φb hb
  cases h
  obtain ⟨s1, φ1, φ2, g1, g2, g3, g4⟩ := bubble hK hN hi pre post sa s' φb (List.nodup_cons.1 hnd).2 (Blank.next hK hN hj (fun k hk => hB k (by simp [hk])) (List.nodup_cons.1 hnd).1 ha) (fun k hk => hc k (by simp [hk])) hb hφ.2
  obtain ⟨s1', k1, k2⟩ := hK.swap _ _ _ _ _ _ _ (hc j (by simp) oj hj) (fun hbl d hd => hB j (by simp) oj hj hbl d hd) ha hφ.1 g1 g2
  exact ⟨s1', φ1, φa /\ φ2, k1, g2, by simp only [k2, g3], hφ.1, g4⟩
theorem ordB_spec {l : List Oper} : ∀ {pre post : List Nat} {i : Nat}, ordB comm l (pre ++ i :: post) = true -> ∀ j ∈ pre, ∀ x y, l[j]? = some x -> l[i]? = some y -> ((clo (l.map depsOf) []).getD i 0).testBit j = true \/ comm x y = true
 | [], _, _, _, j, hj, _, _, _, _ => by simp at hj
 | k :: pre, post, i, h, j, hj, x, y, hx, hy => by
  simp only [List.cons_append, ordB, Bool.and_eq_true] at h
  rcases List.mem_cons.1 hj with rfl | hj
  ·have h1 := h.1
   rw [hx] at h1
   simp only [List.all_eq_true] at h1
   have := h1 i (by simp)
   rw [hy] at this
   simpa using this
  ·exact ordB_spec h.2 j hj x y hx hy
theorem ordB_erase {l : List Oper} : ∀ {pre post : List Nat} {i : Nat}, ordB comm l (pre ++ i :: post) = true -> ordB comm l (pre ++ post) = true
 | [], _, _, h => by
  simp only [List.nil_append, ordB, Bool.and_eq_true] at h ⊢
  exact h.2
 | k :: pre, post, i, h => by
  simp only [List.cons_append, ordB, Bool.and_eq_true] at h ⊢
  refine ⟨?_, ordB_erase h.2⟩
  have h1 := h.1
  split at h1
  ·simp only [List.all_eq_true] at h1 ⊢
   intro j hj
   exact h1 j (by
    rcases List.mem_append.1 hj with hj | hj
    ·simp [hj]
    ·simp [hj])
  ·trivial
def Closed (ops : Array Oper) (listed : Array Bool) : Prop :=
 ∀ j oj, ops[j]? = some oj -> listed.getD j true = true -> ∀ k ∈ depsOf oj, listed.getD k false = true
theorem closed_bits {listed : Array Bool} (hcl : Closed ops listed) : ∀ (n i : Nat) (oi : Oper), i ≤ n -> ops[i]? = some oi -> (∀ k ∈ depsOf oi, listed.getD k false = true) -> ∀ j, ((clo (ops.toList.map depsOf) []).getD i 0).testBit j = true -> listed.getD j false = true := by
 have hok := clo_ok (ops.toList.map depsOf) (ops.toList.map depsOf) [] (by simp) (fun i hi => by simp at hi)
 intro n
 induction n using Nat.strongRecOn with
 | _ n ih =>
  intro i oi hin hoi hd j hj
  have hlen : i < (clo (ops.toList.map depsOf) []).length := by
   rcases Nat.lt_or_ge i (clo (ops.toList.map depsOf) []).length with h | h
   ·exact h
   ·rw [List.getD_eq_getElem?_getD, List.getElem?_eq_none h] at hj; simp at hj
  obtain ⟨k, hk, hk'⟩ := hok i hlen j hj
  have hk2 : k ∈ depsOf oi := by
   simpa [List.getD_eq_getElem?_getD, hoi] using hk
  rcases hk' with rfl | ⟨hki, hkj⟩
  ·exact hd k hk2
  ·have hkl := hd k hk2
   cases hok' : ops[k]? with
   | none =>
    exfalso
    have hkb : k < (clo (ops.toList.map depsOf) []).length := by omega
    obtain ⟨k2, hk3, _⟩ := hok k hkb j hkj
    have h1 : ops.toList[k]? = none := by simpa using hok'
    simp [List.getD_eq_getElem?_getD, hok'] at hk3
   | some ok =>
    refine ih k (by omega) k ok (Nat.le_refl _) hok' (hcl k ok hok' ?_) j hkj
    rcases Nat.lt_or_ge k listed.size with h | h
    ·simp [h] at hkl ⊢; exact hkl
    ·simp [Array.getElem?_eq_none h] at hkl
theorem mem_depsOf {o : Oper} {k : Nat} : k ∈ depsOf o ↔ ∃ e ∈ o.after, Region.binds .any e = true /\ e.on = k := by
 simp only [depsOf, List.mem_filterMap, Array.mem_toList_iff]
 constructor
 ·rintro ⟨e, he, h⟩
  split at h
  ·rename_i hb; cases h; exact ⟨e, he, hb, rfl⟩
  ·cases h
 ·rintro ⟨e, he, hb, rfl⟩
  exact ⟨e, he, by simp [hb]⟩
theorem any_sound (hK : StepOk cx ops step comm bl) (hN : Ndst ops) (hsm : smaller ops.toList = true) {Q : Exit -> Act -> World -> Prop} {s' : St} (hQ : ∀ a w, Rel cx s' a w -> Q .normal a w) :
  ∀ (n : Nat) (l : List Nat) (listed : Array Bool) (s : St) (a : Act) (w : World) (φ : Prop), l.length = n -> Blank bl ops l s -> l.Pairwise (· < ·) -> (∀ i, i ∈ l ↔ i < ops.size /\ listed.getD i true = false) -> listed.size = ops.size -> Closed ops listed ->
   ordB comm ops.toList l = true -> runI step ops l s = some (s', φ) -> φ -> Rel cx s a w -> wpAnyIn (FR cx.rd) 0 cx.P .any ops Q n listed a w := by
 intro n
 induction n with
 | zero =>
  intro l listed s a w φ hl _ _ hmem _ _ _ hrun hφ R
  obtain rfl := List.eq_nil_of_length_eq_zero hl
  simp only [runI] at hrun
  cases hrun
  refine ⟨?_, hQ a w R⟩
  cases hr : Region.ready .any ops listed with
  | nil => rfl
  | cons j r =>
   exfalso
   have hj : j ∈ Region.ready .any ops listed := by rw [hr]; simp
   obtain ⟨h1, o, ho, _⟩ := mem_ready.1 hj
   have := (hmem j).2 ⟨(Array.getElem?_eq_some_iff.1 ho).1, h1⟩
   simp at this
 | succ n ih =>
  intro l listed s a w φ hl hB hsorted hmem hls hcl hord hrun hφ R
  refine ⟨fun hr => ?_, fun i hi => ?_⟩
  ·-- the first of what is left can always come
   exfalso
   cases l with
   | nil => simp at hl
   | cons i r =>
    obtain ⟨hi1, hi2⟩ := (hmem i).1 (by simp)
    have ho := Array.getElem?_eq_getElem hi1
    have : i ∈ Region.ready .any ops listed := mem_ready.2 ⟨hi2, _, ho, fun e he hb => by
     have hlt : e.on < i := by
      simp only [smaller, List.all_eq_true] at hsm
      have h1 := hsm (ops[i], i) (by
       rw [List.mk_mem_zipIdx_iff_getElem?]
       simp)
      exact of_decide_eq_true (h1 e.on (mem_depsOf.2 ⟨e, he, hb, rfl⟩))
     have hnl : e.on ∉ i :: r := fun h => by
      rcases List.mem_cons.1 h with h | h
      ·omega
      ·have := (List.pairwise_cons.1 hsorted).1 _ h; omega
     have hlt2 : e.on < listed.size := by omega
     have hget : listed.getD e.on true = true := by
      cases hg : listed.getD e.on true with
      | true => rfl
      | false => exact absurd ((hmem e.on).2 ⟨by omega, hg⟩) hnl
     simp [hlt2] at hget ⊢
     exact hget⟩
    rw [hr] at this
    cases this
  ·obtain ⟨hi1, oi, hoi, hdeps⟩ := mem_ready.1 hi
   have hisz : i < ops.size := (Array.getElem?_eq_some_iff.1 hoi).1
   have hil : i ∈ l := (hmem i).2 ⟨hisz, hi1⟩
   obtain ⟨pre, post, rfl⟩ := List.append_of_mem hil
   have hdl : ∀ k ∈ depsOf oi, listed.getD k false = true := fun k hk => by
    obtain ⟨e, he, hb, rfl⟩ := mem_depsOf.1 hk
    exact hdeps e he hb
   have hcomm : ∀ j ∈ pre, ∀ oj, ops[j]? = some oj -> comm oj oi = true := fun j hj oj hoj => by
    rcases ordB_spec hord j hj oj oi (by simpa using hoj) (by simpa using hoi) with h | h
    ·exfalso
     have h1 := closed_bits hcl i i oi (Nat.le_refl _) hoi hdl j h
     have h2 := ((hmem j).1 (by simp [hj])).2
     have h3 : j < listed.size := by have := ((hmem j).1 (by simp [hj])).1; omega
     simp [h3] at h1 h2
     rw [h1] at h2
     cases h2
    ·exact h
   obtain ⟨s1, φ1, φ2, g1, g2, g3, g4⟩ := bubble hK hN hoi pre post s s' φ ((List.nodup_append.1 (hsorted.imp Nat.ne_of_lt)).1) (fun j hj => hB j (by simp [hj])) hcomm hrun hφ
   have hnd : i ∉ pre ++ post := fun h => by
    have hpw := List.pairwise_append.1 hsorted
    rcases List.mem_append.1 h with h | h
    ·have := hpw.2.2 i h i (by simp); omega
    ·have := (List.pairwise_cons.1 hpw.2.1).1 i h; omega
   have hnext : ∀ a' w', Rel cx s1 a' w' -> wpAnyIn (FR cx.rd) 0 cx.P .any ops Q n (listed.setIfInBounds i true) a' w' := fun a' w' R' => by
    refine ih (pre ++ post) _ s1 a' w' φ2 (by simp at hl ⊢; omega) (Blank.next hK hN hoi (fun j hj => hB j (by rcases List.mem_append.1 hj with h | h <;> simp [h])) hnd g1) ?_ (fun j => ?_) (by simp [hls]) (fun j oj hoj hj k hk => ?_) (ordB_erase hord) g3 g4 R'
    ·exact hsorted.sublist (List.Sublist.append_left (List.sublist_cons_self _ _) _)
    ·by_cases hji : j = i
     ·subst hji
      constructor
      ·intro h; exact absurd h hnd
      ·rintro ⟨_, h⟩
       have h3 : j < listed.size := by omega
       simp [h3] at h
     ·rw [getD_set_ne true (fun e => hji e.symm)]
      have := hmem j
      simp only [List.mem_append, List.mem_cons] at this ⊢
      constructor
      ·rintro (h | h)
       ·exact this.1 (.inl h)
       ·exact this.1 (.inr (.inr h))
      ·intro h
       rcases this.2 h with h | h | h
       ·exact .inl h
       ·exact absurd h hji
       ·exact .inr h
    ·by_cases hji : j = i
     ·subst hji
      rw [hoi] at hoj
      cases hoj
      exact getD_set_true (hdl k hk)
     ·rw [getD_set_ne true (fun e => hji e.symm)] at hj
      exact getD_set_true (hcl j oj hoj hj k hk)
   obtain ⟨κ, R⟩ := R
   unfold wpOpIn
   simp only [hoi]
   rcases hK.sound κ s a w oi s1 φ1 R (Array.mem_of_getElem? hoi) g1 g2 with ⟨hw, hD⟩ | ⟨hw, hR⟩
   ·rw [if_pos hw]
    exact hD Q _ hnext
   ·rw [if_neg (by simp [hw])]
    exact ⟨fun _ _ => trivial, hnext _ _ hR⟩
end
end Go.Aw

/- A region whose order is drawn. Own work. -/
namespace Go.Aw
open Go
def srunG (step : Oper -> St -> Option (St × Prop)) : List Oper -> St -> Option (St × Prop)
 | [], s => some (s, True)
 | o :: r, s => match step o s with
  | some (s1, φ1) => match srunG step r s1 with
   | some (s2, φ2) => some (s2, φ1 /\ φ2)
   | none => none
  | none => none
theorem runI_srun {step : Oper -> St -> Option (St × Prop)} {ops : Array Oper} : ∀ (l : List Oper) (k : Nat) (s : St), (∀ j, l[j]? = ops[k + j]?) -> runI step ops (List.range' k l.length) s = srunG step l s
 | [], k, s, _ => rfl
 | o :: l, k, s, h => by
  have h0 : ops[k]? = some o := by simpa using (h 0).symm
  simp only [List.length_cons, List.range'_succ, runI, h0, srunG]
  have ih := fun s1 => runI_srun (step := step) (ops := ops) l (k + 1) s1 (fun j => by have := h (j + 1); simpa [Nat.add_assoc, Nat.add_comm 1 j] using this)
  cases step o s with
  | none => rfl
  | some x =>
   simp only [ih] <;> cases srunG step l x.1 <;> rfl
def blank (ds : List (Option Tmp)) (s : St) : St := { s with ρ := fun t => if ds.contains (some t) then .junk else s.ρ t }
def ndB : List (Option Tmp) -> Bool
 | [] => true
 | none :: l => ndB l
 | some d :: l => !l.contains (some d) && ndB l
theorem ndB_spec : ∀ {l : List (Option Tmp)}, ndB l = true -> ∀ (i j : Nat) (d : Tmp), l[i]? = some (some d) -> l[j]? = some (some d) -> i = j
 | [], _, i, j, d, h, _ => by simp at h
 | none :: l, h, i, j, d, hi, hj => by
  cases i with
  | zero => cases hi
  | succ i => cases j with
   | zero => cases hj
   | succ j => rw [ndB_spec (l := l) h i j d hi hj]
 | some e :: l, h, i, j, d, hi, hj => by
  simp only [ndB, Bool.and_eq_true, Bool.not_eq_true', List.contains_eq_mem, decide_eq_false_iff_not] at h
  cases i with
  | zero => cases j with
   | zero => rfl
   | succ j =>
    simp only [List.getElem?_cons_zero, Option.some.injEq] at hi
    rw [List.getElem?_cons_succ, <- hi] at hj
    exact absurd (List.mem_of_getElem? hj) h.1
  | succ i => cases j with
   | zero =>
    simp only [List.getElem?_cons_zero, Option.some.injEq] at hj
    rw [List.getElem?_cons_succ, <- hj] at hi
    exact absurd (List.mem_of_getElem? hi) h.1
   | succ j => rw [ndB_spec (l := l) h.2 i j d hi hj]
theorem RelK.blank {cx : Cx} {κ : Kz} {s : St} {a : Act} {w : World} (R : RelK cx κ s a w) (ds : List (Option Tmp)) : RelK cx κ (Aw.blank ds s) a w :=
 {R with
  env := fun t => by
   simp only [Aw.blank]
   split
   ·exact .junk _
   ·exact R.env t }
theorem AW.regG {cx : Cx} {id : Nat} {l : List Oper} {Q : Exit -> St -> Prop} {s : St} {step : Oper -> St -> Option (St × Prop)} {comm : Oper -> Oper -> Bool} {bl : Oper -> Bool} (hK : StepOk cx l.toArray step comm bl) (hm : cx.P.follows .mixedOrders = true) (hnd : ndB (l.map (·.dst)) = true) (hsm : smaller l = true)
  (hord : ordB comm l (List.range' 0 l.length) = true) (h : rQ Q (srunG step l (blank ((l.filter bl).map (·.dst)) s))) : AW cx (.region id l.toArray true) Q s := by
 cases hr : srunG step l (blank ((l.filter bl).map (·.dst)) s) with
 | none => rw [hr] at h; exact h.elim
 | some x =>
  obtain ⟨s', φ⟩ := x
  rw [hr] at h
  intro a w R
  obtain ⟨κ, R⟩ := R
  refine wpIn_region_any hm ?_
  refine any_sound hK (fun i j oi oj d hi hj hdi hdj => ndB_spec hnd i j d (by rw [List.getElem?_map, <- List.getElem?_toArray, hi, Option.map_some, hdi]) (by rw [List.getElem?_map, <- List.getElem?_toArray, hj, Option.map_some, hdj])) (by simpa using hsm) (s' := s') (Q := fun e a' w' => ∃ s', Q e s' /\ Rel cx s' a' w') (fun a w R => ⟨s', h.2, R⟩) _ (List.range' 0 l.length) _ _ a _ φ (by simp) (fun j _ oj hoj hbl d hd => by
   simp only [blank]
   rw [if_pos]
   simp only [List.contains_eq_mem, decide_eq_true_eq]
   exact List.mem_map.2 ⟨oj, List.mem_filter.2 ⟨by simpa using Array.mem_of_getElem? hoj, hbl⟩, hd⟩) (List.pairwise_lt_range' ..) (fun i => ?_) (by simp) (fun j oj hoj hj => ?_) (by simpa using hord) ?_ h.1 ⟨κ, (R.blank _).drew⟩
  ·simp [List.mem_range'_1]
   intro hi
   simp [hi]
  ·have hj2 : j < l.toArray.size := (Array.getElem?_eq_some_iff.1 hoj).1
   simp at hj2
   simp [hj2] at hj
  ·rw [<- hr]
   exact runI_srun (ops := l.toArray) l 0 _ (by simp)
end Go.Aw

/- Other names for objects. Own work. -/
namespace Go.Aw
open Go
def ren (τ : Nat -> Nat) : AV -> AV
 | .ptr o i c => .ptr (τ o) i c
 | .sl o lo len => .sl (τ o) lo len
 | .asl o i c len esz => .asl (τ o) i c len esz
 | .mp o c => .mp (τ o) c
 | .agg cs => .agg (rens τ cs)
 | .tup cs => .tup (rens τ cs)
 | .fn f a b => .fn f (rens τ a) (rens τ b)
 | .gd b v => .gd b (ren τ v)
 | .ifc t v => .ifc t (ren τ v)
 | .junk => .junk
 | .int k n => .int k n
 | .bool b => .bool b
 | .str s => .str s
 | .nilp => .nilp
 | .rop e c => .rop e c
 | .nilsl => .nilsl
 | .ro sz es => .ro sz es
 | .nilf => .nilf
 | .nili => .nili
 | .nilm => .nilm
where
 rens (τ : Nat -> Nat) : List AV -> List AV
  | [] => []
  | x :: r => ren τ x :: rens τ r
theorem rens_eq (τ : Nat -> Nat) (l : List AV) : ren.rens τ l = l.map (ren τ) := by
 induction l with
 | nil => rfl
 | cons x r ih => simp [ren.rens, ih]
def renOb (τ : Nat -> Nat) (ob : Ob) : Ob := ⟨ob.box, ob.sz, ob.es.map (ren τ)⟩
theorem cells_ren (τ : Nat -> Nat) (e : AV) : (ren τ e).cells = e.cells.map (ren τ) := by
 cases e <;> simp [ren, rens_eq, AV.cells]
theorem ren_id (x : AV) : ren (fun o => o) x = x := by
 have hl : ∀ l : List AV, (∀ y ∈ l, ren (fun o => o) y = y) -> ren.rens (fun o => o) l = l := fun l h => by
  rw [rens_eq]
  conv => rhs; rw [<- List.map_id l]
  exact List.map_congr_left h
 induction x using AV.ind with
 | agg cs ih => simp only [ren, hl cs ih]
 | tup cs ih => simp only [ren, hl cs ih]
 | fn f a b ih ih' => simp only [ren, hl a ih, hl b ih']
 | gd b v ih => simp only [ren, ih]
 | ifc t v ih => simp only [ren, ih]
 | leaf x hx => cases x <;> first | rfl | cases hx
def Like (ob ob' : Ob) : Prop := ob'.box = ob.box /\ ob'.sz = ob.sz /\ ob.es.length ≤ ob'.es.length
theorem ren_pair {τ : Nat -> Nat} {k v : AV} {c : Nat} {m : Value} (h : keyV c k = some m) : ren τ (.tup [k, v]) = .tup [k, ren τ v] := by
 have : ren τ k = k := by cases k <;> first | rfl | cases h
 simp only [ren, ren.rens, this]
theorem like_ren (τ : Nat -> Nat) (ob : Ob) : Like ob (renOb τ ob) := ⟨rfl, rfl, by simp [renOb]⟩
theorem like_ren' (τ : Nat -> Nat) (ob : Ob) : Like (renOb τ ob) ob := ⟨rfl, rfl, by simp [renOb]⟩
section
variable {κ κ' : Kz} {H H' : Hp} {w w' : World} {τ : Nat -> Nat} {D : Nat -> Bool}
theorem RV.fwd (hi : ∀ b, κ.im b -> κ'.im b) (hw : ∀ b, κ.im b -> w'.heap[b]? = w.heap[b]?)
  (hS : ∀ o ob, D o = true -> H o = some ob -> ∃ ob', H' (τ o) = some ob' /\ Like ob ob' /\ ∀ x, κ.μ o = some x -> κ'.μ (τ o) = some x)
  {x : AV} {v : Value} (h : RV κ H w x v) : x.refs D = true -> RV κ' H' w' (ren τ x) v := by
 induction h with
 | junk v => intro _; exact .junk v
 | imm h => intro _; cases h <;> exact .imm (RI.mono hi hw (by first | exact .int _ _ | exact .bool _ | exact .str _ | exact .nilp | exact .nilf | exact .nili | exact .nilm | (constructor <;> assumption)))
 | ptr o i c ob b base n hH hμ hlt =>
  intro hx
  obtain ⟨ob', h1, ⟨h2, h3, h4⟩, h5⟩ := hS o ob hx hH
  have := RV.ptr (κ := κ') (H := H') (w := w') (τ o) i c ob' b base n h1 (h5 _ hμ) (by omega)
  rwa [h3] at this
 | rop e c b off vs hb hc hr =>
  intro _
  exact .rop e c b off vs (hi _ hb) (fun j x hj => by rw [<- hc j x hj]; exact heap_cell (hw _ hb)) (fun j x hj => (hr j x hj).mono hi hw)
 | nilsl => intro _; exact .nilsl
 | sl o lo len ob A cap hH hbox hlen hcap hA =>
  intro hx
  obtain ⟨ob', h1, ⟨h2, h3, h4⟩, h5⟩ := hS o ob hx hH
  refine .sl (τ o) lo len ob' A cap h1 (by rw [h2, hbox]) (by omega) hcap ?_
  rcases hA with h | ⟨b, base, n, e1, e2, e3⟩
  ·exact .inl h
  ·exact .inr ⟨b, base, n, h5 _ e1, by rw [h3]; exact e2, by rw [h3]; exact e3⟩
 | asl o i c len esz ob A cap b base n hH hμ hlt hlen hcap hA =>
  intro hx
  obtain ⟨ob', h1, ⟨h2, h3, h4⟩, h5⟩ := hS o ob hx hH
  exact .asl (τ o) i c len esz ob' A cap b base n h1 (h5 _ hμ) (by omega) (by omega) hcap (by rw [h3]; exact hA)
 | mp o c ob b hH hμ =>
  intro hx
  obtain ⟨ob', h1, _, h5⟩ := hS o ob hx hH
  exact .mp (τ o) c ob' b h1 (h5 _ hμ)
 | agg cs vs hl h h1 ih =>
  intro hx
  have hx := refsl_iff.1 hx
  simp only [ren, rens_eq]
  refine .agg _ vs (by simpa using hl) (fun i y v hy hv => ?_) h1
  rw [List.getElem?_map] at hy
  obtain ⟨z, hz, rfl⟩ := Option.map_eq_some_iff.1 hy
  exact ih i z v hz hv (hx z (List.mem_of_getElem? hz))
 | tup cs vs hl h ih =>
  intro hx
  have hx := refsl_iff.1 hx
  simp only [ren, rens_eq]
  refine .tup _ vs (by simpa using hl) (fun i y v hy hv => ?_)
  rw [List.getElem?_map] at hy
  obtain ⟨z, hz, rfl⟩ := Option.map_eq_some_iff.1 hy
  exact ih i z v hz hv (hx z (List.mem_of_getElem? hz))
 | fn f first cap as bs hl hl' h h' ih ih' =>
  intro hx
  simp only [AV.refs, Bool.and_eq_true] at hx
  have hx1 := refsl_iff.1 hx.1
  have hx2 := refsl_iff.1 hx.2
  simp only [ren, rens_eq]
  refine .fn f _ _ as bs (by simpa using hl) (by simpa using hl') (fun i y v hy hv => ?_) (fun i y v hy hv => ?_)
  ·rw [List.getElem?_map] at hy
   obtain ⟨z, hz, rfl⟩ := Option.map_eq_some_iff.1 hy
   exact ih i z v hz hv (hx1 z (List.mem_of_getElem? hz))
  ·rw [List.getElem?_map] at hy
   obtain ⟨z, hz, rfl⟩ := Option.map_eq_some_iff.1 hy
   exact ih' i z v hz hv (hx2 z (List.mem_of_getElem? hz))
 | gd b x v h hf ih => intro hx; exact .gd b _ v (fun e => ih e hx) hf
 | ifc t x v h ih => intro hx; exact .ifc t _ v (ih hx)
theorem RV.bwd (hi : ∀ b, κ.im b -> κ'.im b) (hw : ∀ b, κ.im b -> w'.heap[b]? = w.heap[b]?)
  (hS : ∀ o ob, D o = true -> H (τ o) = some ob -> ∃ ob', H' o = some ob' /\ Like ob ob' /\ ∀ x, κ.μ (τ o) = some x -> κ'.μ o = some x)
  {y : AV} {v : Value} (h : RV κ H w y v) : ∀ x, y = ren τ x -> x.refs D = true -> RV κ' H' w' x v := by
 induction h with
 | junk v => intro x hx _; cases x <;> simp [ren] at hx; exact .junk v
 | imm h =>
  intro x hx _
  cases h <;> cases x <;> simp only [ren, reduceCtorEq, AV.int.injEq, AV.bool.injEq, AV.str.injEq, AV.ro.injEq] at hx
  ·obtain ⟨rfl, rfl⟩ := hx; exact .imm (.int _ _)
  ·obtain rfl := hx; exact .imm (.bool _)
  ·obtain rfl := hx; exact .imm (.str _)
  ·exact .imm .nilp
  ·exact .imm .nilf
  ·exact .imm .nili
  ·exact .imm .nilm
  ·obtain ⟨rfl, rfl⟩ := hx
   exact .imm (RI.mono hi hw (by constructor <;> assumption))
 | ptr o i c ob b base n hH hμ hlt =>
  intro x hx hr
  cases x <;> simp only [ren, reduceCtorEq, AV.ptr.injEq] at hx
  obtain ⟨rfl, rfl, rfl⟩ := hx
  obtain ⟨ob', h1, ⟨h2, h3, h4⟩, h5⟩ := hS _ ob hr hH
  have := RV.ptr (κ := κ') (H := H') (w := w') _ i c ob' b base n h1 (h5 _ hμ) (by omega)
  rwa [h3] at this
 | rop e c b off vs hb hc hr =>
  intro x hx _
  cases x <;> simp only [ren, reduceCtorEq, AV.rop.injEq] at hx
  obtain ⟨rfl, rfl⟩ := hx
  exact .rop _ _ b off vs (hi _ hb) (fun j x hj => by rw [<- hc j x hj]; exact heap_cell (hw _ hb)) (fun j x hj => (hr j x hj).mono hi hw)
 | nilsl => intro x hx _; cases x <;> simp [ren] at hx; exact .nilsl
 | sl o lo len ob A cap hH hbox hlen hcap hA =>
  intro x hx hr
  cases x <;> simp only [ren, reduceCtorEq, AV.sl.injEq] at hx
  obtain ⟨rfl, rfl, rfl⟩ := hx
  obtain ⟨ob', h1, ⟨h2, h3, h4⟩, h5⟩ := hS _ ob hr hH
  refine .sl _ lo len ob' A cap h1 (by rw [h2, hbox]) (by omega) hcap ?_
  rcases hA with h | ⟨b, base, n, e1, e2, e3⟩
  ·exact .inl h
  ·exact .inr ⟨b, base, n, h5 _ e1, by rw [h3]; exact e2, by rw [h3]; exact e3⟩
 | asl o i c len esz ob A cap b base n hH hμ hlt hlen hcap hA =>
  intro x hx hr
  cases x <;> simp only [ren, reduceCtorEq, AV.asl.injEq] at hx
  obtain ⟨rfl, rfl, rfl, rfl, rfl⟩ := hx
  obtain ⟨ob', h1, ⟨h2, h3, h4⟩, h5⟩ := hS _ ob hr hH
  exact .asl _ i c len esz ob' A cap b base n h1 (h5 _ hμ) (by omega) (by omega) hcap (by rw [h3]; exact hA)
 | mp o c ob b hH hμ =>
  intro x hx hr
  cases x <;> simp only [ren, reduceCtorEq, AV.mp.injEq] at hx
  obtain ⟨rfl, rfl⟩ := hx
  obtain ⟨ob', h1, _, h5⟩ := hS _ ob hr hH
  exact .mp _ c ob' b h1 (h5 _ hμ)
 | agg cs vs hl h h1 ih =>
  intro x hx hr
  cases x <;> simp only [ren, reduceCtorEq, AV.agg.injEq] at hx
  subst hx
  rw [rens_eq] at hl ih
  have hr := refsl_iff.1 hr
  refine .agg _ vs (by simpa using hl) (fun i y v hy hv => ?_) h1
  exact ih i (ren τ y) v (by rw [List.getElem?_map, hy]; rfl) hv y rfl (hr y (List.mem_of_getElem? hy))
 | tup cs vs hl h ih =>
  intro x hx hr
  cases x <;> simp only [ren, reduceCtorEq, AV.tup.injEq] at hx
  subst hx
  rw [rens_eq] at hl ih
  have hr := refsl_iff.1 hr
  refine .tup _ vs (by simpa using hl) (fun i y v hy hv => ?_)
  exact ih i (ren τ y) v (by rw [List.getElem?_map, hy]; rfl) hv y rfl (hr y (List.mem_of_getElem? hy))
 | fn f first cap as bs hl hl' h h' ih ih' =>
  intro x hx hr
  cases x <;> simp only [ren, reduceCtorEq, AV.fn.injEq] at hx
  obtain ⟨rfl, rfl, rfl⟩ := hx
  rw [rens_eq] at hl hl' ih ih'
  simp only [AV.refs, Bool.and_eq_true] at hr
  have hx1 := refsl_iff.1 hr.1
  have hx2 := refsl_iff.1 hr.2
  refine .fn _ _ _ as bs (by simpa using hl) (by simpa using hl') (fun i y v hy hv => ?_) (fun i y v hy hv => ?_)
  ·exact ih i (ren τ y) v (by rw [List.getElem?_map, hy]; rfl) hv y rfl (hx1 y (List.mem_of_getElem? hy))
  ·exact ih' i (ren τ y) v (by rw [List.getElem?_map, hy]; rfl) hv y rfl (hx2 y (List.mem_of_getElem? hy))
 | gd b x v h hf ih =>
  intro x hx hr
  cases x <;> simp only [ren, reduceCtorEq, AV.gd.injEq] at hx
  obtain ⟨rfl, rfl⟩ := hx
  exact .gd _ _ v (fun e => ih e _ rfl hr) hf
 | ifc t x v h ih =>
  intro x hx hr
  cases x <;> simp only [ren, reduceCtorEq, AV.ifc.injEq] at hx
  obtain ⟨rfl, rfl⟩ := hx
  exact .ifc _ _ v (ih _ rfl hr)
def Ob.refs (D : Nat -> Bool) (ob : Ob) : Bool := ob.es.all (·.refs D)
theorem refs_cell {e x : AV} {j : Nat} (h : e.refs D = true) (hj : e.cells[j]? = some x) : x.refs D = true := by
 cases e with
 | agg cs => exact refsl_iff.1 h x (List.mem_of_getElem? hj)
 | tup cs => simp [AV.cells] at hj
 | _ =>
  cases j with
  | zero => simp only [AV.cells, List.getElem?_cons_zero, Option.some.injEq] at hj; subst hj; exact h
  | succ j => simp [AV.cells] at hj
theorem ObRep.fwd (hi : ∀ b, κ.im b -> κ'.im b) (hw : ∀ b, κ.im b -> w'.heap[b]? = w.heap[b]?)
  (hS : ∀ o ob, D o = true -> H o = some ob -> ∃ ob', H' (τ o) = some ob' /\ Like ob ob' /\ ∀ x, κ.μ o = some x -> κ'.μ (τ o) = some x)
  {o p : Nat} {ob : Ob} (hr : ob.refs D = true) (hμ : κ'.μ p = κ.μ o) (hb : ∀ b base n, κ.μ o = some (b, base, n) -> ¬ κ.im b -> ¬ κ'.im b /\ w'.heap[b]? = w.heap[b]?) (h : ObRep κ H w o ob) :
  ObRep κ' H' w' p (renOb τ ob) := by
 obtain ⟨h0, h⟩ := h
 have hre : ∀ e ∈ ob.es, e.refs D = true := List.all_eq_true.1 hr
 refine ⟨fun i e hi2 => ?_, ?_⟩
 ·simp only [renOb, List.getElem?_map] at hi2
  obtain ⟨e', h1, rfl⟩ := Option.map_eq_some_iff.1 hi2
  rw [cells_ren, List.length_map]
  exact h0 i e' h1
 ·rcases h with ⟨h1, h2, h3⟩ | ⟨b, base, cs, el, e1, e2, e3, e4, e5⟩ | h
  ·exact .inl ⟨hμ.trans h1, h2, by simp [renOb, h3]⟩
  case inr.inr =>
   refine .inr (.inr (h.mono (ren τ) rfl rfl (fun k v c m hk => ren_pair hk) hμ (fun x hx hn => (hb _ _ _ hx hn).1) (fun x hx => ?_) fun {k x v} hm hv => ?_))
   ·obtain ⟨_, _, _, _, _, hn⟩ := h.lies hx
    exact (hb _ _ _ hx hn).2
   ·have h1 := hre _ hm
    simp only [AV.refs, AV.refs.refsl, Bool.and_eq_true] at h1
    exact hv.fwd hi hw hS h1.2.1
  ·obtain ⟨g1, g2⟩ := hb b base _ e1 e2
   refine .inr (.inl ⟨b, base, cs, el, hμ.trans e1, g1, by rw [g2]; exact e3, by simpa [renOb] using e4, fun i e j x hi2 hj => ?_⟩)
   simp only [renOb, List.getElem?_map] at hi2
   obtain ⟨e', h1, rfl⟩ := Option.map_eq_some_iff.1 hi2
   rw [cells_ren, List.getElem?_map] at hj
   obtain ⟨x', h2, rfl⟩ := Option.map_eq_some_iff.1 hj
   obtain ⟨v, k1, k2, k3⟩ := e5 i e' j x' h1 h2
   exact ⟨v, k1, k2.fwd hi hw hS (refs_cell (hre e' (List.mem_of_getElem? h1)) h2), k3⟩
theorem ObRep.bwd (hi : ∀ b, κ.im b ↔ κ'.im b) 
  (hS : ∀ o ob, D o = true -> H (τ o) = some ob -> ∃ ob', H' o = some ob' /\ Like ob ob' /\ ∀ x, κ.μ (τ o) = some x -> κ'.μ o = some x)
  {o p : Nat} {ob : Ob} (hr : ob.refs D = true) (hμ : κ'.μ o = κ.μ p) (h : ObRep κ H w p (renOb τ ob)) : ObRep κ' H' w o ob := by
 obtain ⟨h0, h⟩ := h
 have hre : ∀ e ∈ ob.es, e.refs D = true := List.all_eq_true.1 hr
 refine ⟨fun i e hi2 => ?_, ?_⟩
 ·have := h0 i (ren τ e) (by simp [renOb, hi2])
  rwa [cells_ren, List.length_map] at this
 ·rcases h with ⟨h1, h2, h3⟩ | ⟨b, base, cs, el, e1, e2, e3, e4, e5⟩ | h
  ·exact .inl ⟨hμ.trans h1, h2, by simpa [renOb] using h3⟩
  case inr.inr =>
   obtain ⟨h0, b, c, es, clock, h1, h2, h3, h4, h5⟩ := h
   refine .inr (.inr ⟨h0, b, c, es, clock, hμ.trans h1, fun h => h2 ((hi b).2 h), h3, by simpa [renOb] using h4, fun i e hi2 => ?_⟩)
   obtain ⟨k, v, m, e1, e2, e3, e4⟩ := h5 i (ren τ e) (by simp [renOb, hi2])
   have hr := hre e (List.mem_of_getElem? hi2)
   cases e <;> simp only [ren, reduceCtorEq, AV.tup.injEq, rens_eq] at e1
   rename_i cs
   match cs, e1, hr with
   | [k0, v0], e1, hr =>
    simp only [List.map_cons, List.map_nil, List.cons.injEq, and_true] at e1
    obtain ⟨rfl, rfl⟩ := e1
    simp only [AV.refs, AV.refs.refsl, Bool.and_eq_true] at hr
    refine ⟨k0, v0, m, rfl, e2, ?_, e4.bwd (fun b h => (hi b).1 h) (fun _ _ => rfl) hS v0 rfl hr.2.1⟩
    cases k0 <;> first | exact e3 | cases e3
   | [], e1, _ => simp at e1
   | [_], e1, _ => simp at e1
   | _ :: _ :: _ :: _, e1, _ => simp at e1
  ·refine .inr (.inl ⟨b, base, cs, el, hμ.trans e1, fun h => e2 ((hi b).2 h), e3, by simpa [renOb] using e4, fun i e j x hi2 hj => ?_⟩)
   obtain ⟨v, k1, k2, k3⟩ := e5 i (ren τ e) j (ren τ x) (by simp [renOb, hi2]) (by rw [cells_ren, List.getElem?_map, hj]; rfl)
   exact ⟨v, k1, k2.bwd (fun b h => (hi b).1 h) (fun _ _ => rfl) hS x rfl (refs_cell (hre e (List.mem_of_getElem? hi2)) hj), k3⟩
end
end Go.Aw

/- Contracts of functions that work on objects; such a contract out of a body. Own work. -/
namespace Go.Aw
open Go
def hp : List (Nat × Ob) -> Hp
 | [], _ => none
 | (p, ob) :: l, o => if o = p then some ob else hp l o
theorem hp_mem : ∀ {l : List (Nat × Ob)} {o : Nat} {ob : Ob}, hp l o = some ob -> (o, ob) ∈ l
 | [], _, _, h => by cases h
 | (p, ob') :: l, o, ob, h => by
  simp only [hp] at h
  split at h
  ·rename_i e; cases h; subst e; simp
  ·exact List.mem_cons_of_mem _ (hp_mem h)
def dom (l : List (Nat × Ob)) : List Nat := l.map (·.1)
theorem hp_dom {l : List (Nat × Ob)} {o : Nat} : (dom l).contains o = true ↔ ∃ ob, hp l o = some ob := by
 induction l with
 | nil => simp [dom, hp]
 | cons a l ih =>
  obtain ⟨p, ob⟩ := a
  simp only [dom, List.map_cons, List.contains_cons, Bool.or_eq_true, beq_iff_eq, hp] at ih ⊢
  by_cases h : o = p
  ·simp [h]
  ·simp only [h, false_or, if_false]; exact ih
theorem hp_of_mem : ∀ {l : List (Nat × Ob)} {o : Nat} {ob : Ob}, (dom l).Nodup -> (o, ob) ∈ l -> hp l o = some ob
 | (p, ob') :: l, o, ob, hn, h => by
  simp only [dom, List.map_cons, List.nodup_cons] at hn
  simp only [hp]
  rcases List.mem_cons.1 h with e | h
  ·cases e; simp
  ·rw [if_neg (fun e => hn.1 (List.mem_map.2 ⟨(o, ob), h, e⟩))]
   exact hp_of_mem hn.2 h
def Own (κ : Kz) (l : List (Nat × Ob)) (b : Nat) : Prop := ∃ (o : Nat) (ob : Ob) (x : Nat × Nat × Nat), hp l o = some ob /\ κ.μ o = some x /\ x.1 = b
def Apart (κ : Kz) (l : List (Nat × Ob)) : Prop := ∀ o o' ob ob' x x', hp l o = some ob -> hp l o' = some ob' -> κ.μ o = some x -> κ.μ o' = some x' -> x.1 = x'.1 -> o = o'
def HC (P : Program) (G : Nat -> AV) (f : FuncId) (args : List AV) (l : List (Nat × Ob)) (r : AV) (l' : List (Nat × Ob)) (pins : List Nat) : Prop :=
 (∀ as w, (callFunc f as).run P w = .ok (.enter f as) w) /\
 ∀ (w : World) (κ : Kz) (vs : Array Value), (∀ b, κ.im b -> b < w.heap.size) -> (∀ g, RV ⟨noμ, κ.im⟩ noH w (G g) (.pointer (some ⟨g, 0, none⟩))) -> vs.size = args.length ->
  (∀ (i : Nat) (x : AV) (v : Value), args[i]? = some x -> vs[i]? = some v -> RV κ (hp l) w x v) -> (∀ o ob, hp l o = some ob -> ObRep κ (hp l) w o ob) -> Apart κ l ->
  Calls P f vs w fun e w' => ∃ (u : Value) (κ' : Kz), e = .returned u /\ (∀ b, κ.im b -> κ'.im b) /\ (∀ b, κ'.im b -> κ.im b \/ Own κ l b \/ w.heap.size ≤ b) /\ (∀ b, κ'.im b -> b < w'.heap.size) /\
   RV κ' (hp l') w' r u /\ w'.os = w.os /\ w'.tape = w.tape /\ w'.output = w.output /\ w.heap.size ≤ w'.heap.size /\ (∀ b, b < w.heap.size -> ¬ Own κ l b -> w'.heap[b]? = w.heap[b]?) /\
   (∀ o ob, hp l' o = some ob -> ObRep κ' (hp l') w' o ob) /\ Apart κ' l' /\ (∀ o ob x, hp l' o = some ob -> κ'.μ o = some x -> Own κ l x.1 \/ w.heap.size ≤ x.1) /\
   (∀ o ob x, pins.contains o = true -> hp l' o = some ob -> κ.μ o = some x -> κ'.μ o = some x)
def cxH (P : Program) (G : Nat -> AV) (n : Nat) (w : World) (κ : Kz) (l : List (Nat × Ob)) (pins : List Nat) : Cx :=
 {P, n, w0 := w, M := Own κ l, im0 := κ.im, pin := fun o => if pins.contains o then κ.μ o else none, G }
theorem cxH_P (P : Program) (G : Nat -> AV) (n : Nat) (w : World) (κ : Kz) (l : List (Nat × Ob)) (pins : List Nat) : (cxH P G n w κ l pins).P = P := rfl
theorem cxH_G (P : Program) (G : Nat -> AV) (n : Nat) (w : World) (κ : Kz) (l : List (Nat × Ob)) (pins : List Nat) : (cxH P G n w κ l pins).G = G := rfl
def argsH (args : List AV) (l : List (Nat × Ob)) : St := { ρ := fun t => args.getD t .junk, H := hp l }
def closedL (l : List (Nat × Ob)) : Bool := l.all fun p => p.2.refs (dom l).contains
end Go.Aw

/- A call of a function that works on objects. Own work. -/
namespace Go.Aw
open Go
structure HO where
 args : List AV
 l : List (Nat × Ob)
 r : AV
 l' : List (Nat × Ob)
 pins : List Nat
 τ : List (Nat × Nat)
def tau : List (Nat × Nat) -> Nat -> Nat
 | [], o => o
 | (p, q) :: l, o => if o = p then q else tau l o
def dropAll (s : St) : List Nat -> St
 | [] => s
 | o :: l => dropAll (s.drop o) l
def HO.lost (h : HO) : List Nat := ((dom h.l).filter fun o => !h.pins.contains o).map (tau h.τ)
def newH (h : HO) (H : Hp) : Hp := fun p =>
 match hp (h.l'.map fun q => (tau h.τ q.1, renOb (tau h.τ) q.2)) p with
 | some ob => some ob
 | none => H p
def sameShape (h : HO) (o : Nat) : Prop := match hp h.l o, hp h.l' o with
 | some a, some b => b.box = a.box /\ b.sz = a.sz /\ a.es.length ≤ b.es.length
 | _, _ => False
structure HOk0 (cx : Cx) (h : HO) (k : FuncId) (av : List AV) (H : Hp) : Prop where
 hc : HC cx.P cx.G k h.args h.l h.r h.l' h.pins
 av : av = h.args.map (ren (tau h.τ))
 old : ∀ p ∈ h.l, H (tau h.τ p.1) = some (renOb (tau h.τ) p.2)
 nd : ((dom h.l).map (tau h.τ)).Nodup
 nd0 : (dom h.l).Nodup
 nd' : ((dom h.l').map (tau h.τ)).Nodup
 fresh : ∀ o ∈ dom h.l', (dom h.l).contains o = false -> H (tau h.τ o) = none /\ tau h.τ o < 100000
 gone : ∀ o ∈ dom h.l, h.pins.contains o = false -> (dom h.l').contains o = true -> cx.pin (tau h.τ o) = none
 pins : ∀ o ∈ h.pins, sameShape h o
 ca : h.args.all (·.refs (dom h.l).contains) = true
 cl : closedL h.l = true
 cr : h.r.refs (dom h.l').contains = true
 cl' : closedL h.l' = true
def ndN : List Nat -> Bool
 | [] => true
 | o :: l => !l.contains o && ndN l
theorem ndN_spec : ∀ {l : List Nat}, ndN l = true -> l.Nodup
 | [], _ => List.nodup_nil
 | o :: l, h => by
  simp only [ndN, Bool.and_eq_true, Bool.not_eq_true', List.contains_eq_mem, decide_eq_false_iff_not] at h
  exact List.nodup_cons.2 ⟨h.1, ndN_spec h.2⟩
def oldC (H : Hp) (τ : List (Nat × Nat)) : List (Nat × Ob) -> Prop
 | [] => True
 | (o, ob) :: l => H (tau τ o) = some (renOb (tau τ) ob) /\ oldC H τ l
def freshC (H : Hp) (τ : List (Nat × Nat)) (d : List Nat) : List (Nat × Ob) -> Prop
 | [] => True
 | (o, _) :: l => (if d.contains o then True else H (tau τ o) = none /\ tau τ o < 100000) /\ freshC H τ d l
def goneC (cx : Cx) (τ : List (Nat × Nat)) (pins : List Nat) (d' : List Nat) : List (Nat × Ob) -> Prop
 | [] => True
 | (o, _) :: l => (if pins.contains o then True else if d'.contains o then cx.pin (tau τ o) = none else True) /\ goneC cx τ pins d' l
def shapeC : Option Ob -> Option Ob -> Prop
 | some a, some b => b.box = a.box /\ b.sz = a.sz /\ a.es.length ≤ b.es.length
 | _, _ => False
def pinsC (l l' : List (Nat × Ob)) : List Nat -> Prop
 | [] => True
 | o :: ps => shapeC (hp l o) (hp l' o) /\ pinsC l l' ps
def HOk (cx : Cx) (h : HO) (k : FuncId) (av : List AV) (H : Hp) : Prop :=
 HC cx.P cx.G k h.args h.l h.r h.l' h.pins /\ av = h.args.map (ren (tau h.τ)) /\ oldC H h.τ h.l /\ ndN ((dom h.l).map (tau h.τ)) = true /\ ndN (dom h.l) = true /\ ndN ((dom h.l').map (tau h.τ)) = true /\ freshC H h.τ (dom h.l) h.l' /\
 goneC cx h.τ h.pins (dom h.l') h.l /\ pinsC h.l h.l' h.pins /\ h.args.all (·.refs (dom h.l).contains) = true /\ closedL h.l = true /\ h.r.refs (dom h.l').contains = true /\ closedL h.l' = true
theorem oldC_mem {H : Hp} {τ : List (Nat × Nat)} : ∀ {l : List (Nat × Ob)}, oldC H τ l -> ∀ p ∈ l, H (tau τ p.1) = some (renOb (tau τ) p.2)
 | [], _, p, hp => by cases hp
 | (o, ob) :: l, h, p, hp => by
  rcases List.mem_cons.1 hp with rfl | hp
  ·exact h.1
  ·exact oldC_mem h.2 p hp
theorem freshC_mem {H : Hp} {τ : List (Nat × Nat)} {d : List Nat} : ∀ {l : List (Nat × Ob)}, freshC H τ d l -> ∀ o ∈ dom l, d.contains o = false -> H (tau τ o) = none /\ tau τ o < 100000
 | [], _, o, ho => by simp [dom] at ho
 | (o', ob) :: l, h, o, ho => by
  intro hd
  simp only [dom, List.map_cons, List.mem_cons] at ho
  rcases ho with rfl | ho
  ·have := h.1
   rw [if_neg (by rw [hd]; simp)] at this
   exact this
  ·exact freshC_mem h.2 o ho hd
theorem goneC_mem {cx : Cx} {τ : List (Nat × Nat)} {pins d' : List Nat} : ∀ {l : List (Nat × Ob)}, goneC cx τ pins d' l -> ∀ o ∈ dom l, pins.contains o = false -> d'.contains o = true -> cx.pin (tau τ o) = none
 | [], _, o, ho => by cases ho
 | (o', ob) :: l, h, o, ho => by
  intro hd hd'
  simp only [dom, List.map_cons, List.mem_cons] at ho
  rcases ho with rfl | ho
  ·have := h.1
   rw [if_neg (by rw [hd]; simp), if_pos hd'] at this
   exact this
  ·exact goneC_mem h.2 o ho hd hd'
theorem pinsC_mem {h : HO} : ∀ {ps : List Nat}, pinsC h.l h.l' ps -> ∀ o ∈ ps, sameShape h o
 | [], _, o, ho => by cases ho
 | p :: ps, hh, o, ho => by
  rcases List.mem_cons.1 ho with rfl | ho
  ·have := hh.1
   unfold shapeC at this
   unfold sameShape
   cases h1 : hp h.l o with
   | none => rw [h1] at this; exact this.elim
   | some a =>
    cases h2 : hp h.l' o with
    | none => rw [h1, h2] at this; exact this.elim
    | some b => rw [h1, h2] at this; exact this
  ·exact pinsC_mem hh.2 o ho
theorem HOk.to0 {cx : Cx} {h : HO} {k : FuncId} {av : List AV} {H : Hp} (K : HOk cx h k av H) : HOk0 cx h k av H := by
 obtain ⟨k1, k2, k3, k4, k5, k6, k7, k8, k9, k10, k11, k12, k13⟩ := K
 exact ⟨k1, k2, oldC_mem k3, ndN_spec k4, ndN_spec k5, ndN_spec k6, freshC_mem k7, goneC_mem k8, pinsC_mem k9, k10, k11, k12, k13⟩
def scallH (cx : Cx) (h : HO) (c : Bool) (o : Oper) (cl : Call) (f : Operand) (s : St) : Option (St × Prop) :=
 match c with
 | false => some (putv s o.dst (.gd false .junk), o.guard.isSome = true)
 | true => match stripV (aev cx s.ρ f) with
  | .fn (.func k) first cap => some (putv { (dropAll s h.lost) with H := newH h (dropAll s h.lost).H } o.dst (wrapg o.guard true (ren (tau h.τ) h.r)),
    allB cx s.ρ (f :: cl.args.toList) = true /\ HOk cx h k (first ++ cl.args.toList.map (fun x => stripV (aev cx s.ρ x)) ++ cap) s.H)
  | _ => none
section
variable {cx : Cx} {κ : Kz} {s : St} {a : Act} {w : World}
theorem tau_find {l' : List (Nat × Ob)} {τ : List (Nat × Nat)} {p : Nat} {ob : Ob} (h : hp (l'.map fun q => (tau τ q.1, renOb (tau τ) q.2)) p = some ob) : ∃ o ob0, (o, ob0) ∈ l' /\ tau τ o = p /\ renOb (tau τ) ob0 = ob := by
 obtain ⟨q, hq, he⟩ := List.mem_map.1 (hp_mem h)
 cases he
 exact ⟨q.1, q.2, hq, rfl, rfl⟩
theorem nodup_inj {l : List Nat} {τ : Nat -> Nat} (h : (l.map τ).Nodup) {o p : Nat} (ho : o ∈ l) (hp : p ∈ l) (e : τ o = τ p) : o = p := by
 induction l with
 | nil => cases ho
 | cons x l ih =>
  simp only [List.map_cons, List.nodup_cons] at h
  rcases List.mem_cons.1 ho with h1 | h1 <;> rcases List.mem_cons.1 hp with h2 | h2
  ·rw [h1, h2]
  ·exact absurd (List.mem_map.2 ⟨p, h2, by rw [<- e, h1]⟩) h.1
  ·exact absurd (List.mem_map.2 ⟨o, h1, by rw [e, h2]⟩) h.1
  ·exact ih h.2 h1 h2
theorem nodup_of {l : List Nat} {τ : Nat -> Nat} (h : (l.map τ).Nodup) : l.Nodup := by
 induction l with
 | nil => exact List.nodup_nil
 | cons x l ih =>
  simp only [List.map_cons, List.nodup_cons] at h
  exact List.nodup_cons.2 ⟨fun hx => h.1 (List.mem_map.2 ⟨x, hx, rfl⟩), ih h.2⟩
theorem mem_dom {l : List (Nat × Ob)} {o : Nat} {ob : Ob} (h : (o, ob) ∈ l) : o ∈ dom l := List.mem_map.2 ⟨_, h, rfl⟩
theorem RelK.dropAll (hcx : CxOk cx) : ∀ {l : List Nat} {s : St}, RelK cx κ s a w -> RelK cx κ (Aw.dropAll s l) a w
 | [], _, R => R
 | o :: l, s, R => RelK.dropAll (l := l) (s := s.drop o) hcx (R.drop o (hcx.glob o))
def LikeE (ob ob' : Ob) : Prop := ob'.box = ob.box /\ ob'.sz = ob.sz /\ ob'.es.length = ob.es.length
theorem dropAll_H : ∀ {l : List Nat} {s : St} {p : Nat} {ob : Ob}, (dropAll s l).H p = some ob -> p ∉ l /\ ∃ ob0, s.H p = some ob0 /\ LikeE ob0 ob
 | [], s, p, ob, h => ⟨by simp, ob, h, rfl, rfl, rfl⟩
 | o :: l, s, p, ob, h => by
  obtain ⟨h1, ob1, h2, h3, h4, h5⟩ := dropAll_H (l := l) h
  simp only [St.drop, St.sub] at h2
  split at h2
  ·cases h2
  ·rename_i hne
   obtain ⟨ob0, k1, rfl⟩ := Option.map_eq_some_iff.1 h2
   exact ⟨by simp [hne, h1], ob0, k1, h3, h4, by simpa [subOb] using h5⟩
theorem scallH_does (hcx : CxOk cx) (R : RelK cx κ s a w) {h : HO} {o : Oper} {cl : Call} {f : Operand} (ho : o.op = .call cl) (hcl : cl.callee = .value f) (hd : ∀ d, o.dst = some d -> cx.ok d) {s' : St} {φ : Prop}
  (hs : scallH cx h true o cl f s = some (s', φ)) (hφ : φ) : Does cx o a w s' := by
 unfold scallH at hs
 split at hs
 case h_1 => exact absurd ‹true = false› (by simp)
 split at hs
 case h_2 => cases hs
 rename_i k first cap hf
 cases hs
 obtain ⟨hB, K⟩ := hφ
 replace K := K.to0
 obtain ⟨hcallee, hcall⟩ := K.hc
 have hop := R.opnd hB
 have hfv := hop f (by simp)
 rw [hf] at hfv
 generalize hev : a.eval f = vf at hfv
 cases hfv with
 | imm h => cases h
 | fn _ _ _ as bs hl hl' h1 h2 =>
  have hargs : ∀ (i : Nat) (x : AV) (v : Value), (first ++ cl.args.toList.map (fun x => stripV (aev cx s.ρ x)) ++ cap)[i]? = some x -> (as ++ cl.args.map a.eval ++ bs)[i]? = some v -> RV κ s.H w x v := fun i x v hx hv => by
   rw [List.append_assoc, List.getElem?_append] at hx
   rw [Array.append_assoc, Array.getElem?_append, hl] at hv
   split at hx
   ·rename_i hi
    rw [if_pos hi] at hv
    exact h1 i x v hx hv
   ·rename_i hi
    rw [if_neg hi] at hv
    rw [List.getElem?_append] at hx
    rw [Array.getElem?_append] at hv
    simp only [List.length_map, Array.length_toList, Array.size_map] at hx hv
    split at hx
    ·rename_i hi2
     rw [if_pos hi2] at hv
     rw [List.getElem?_map, Array.getElem?_toList] at hx
     rw [Array.getElem?_map] at hv
     obtain ⟨y, hy, rfl⟩ := Option.map_eq_some_iff.1 hx
     obtain ⟨y', hy', rfl⟩ := Option.map_eq_some_iff.1 hv
     rw [hy] at hy'
     cases hy'
     exact hop y (by simpa using .inr (Array.mem_of_getElem? hy))
    ·rename_i hi2
     rw [if_neg hi2] at hv
     exact h2 _ x v hx hv
  have hsz : (as ++ cl.args.map a.eval ++ bs).size = (first ++ cl.args.toList.map (fun x => stripV (aev cx s.ρ x)) ++ cap).length := by simp [hl, hl']
  rw [K.av] at hargs hsz
  simp only [List.length_map] at hsz
  generalize hvs : as ++ cl.args.map a.eval ++ bs = vs at hargs hsz
  have hrun : (execOp a.eval o).run cx.P w = .ok (.enter k vs) w := by
   simp only [execOp, ho]
   rw [resolve_value hcl hev, <- hvs]
   exact hcallee _ w
  -- the callee's side
  have hold : ∀ o ob, hp h.l o = some ob -> s.H (tau h.τ o) = some (renOb (tau h.τ) ob) := fun o ob ho => K.old (o, ob) (hp_mem ho)
  let κ0 : Kz := ⟨fun o => κ.μ (tau h.τ o), κ.im⟩
  have hSb : ∀ o ob, (dom h.l).contains o = true -> s.H (tau h.τ o) = some ob -> ∃ ob', hp h.l o = some ob' /\ Like ob ob' /\ ∀ x, κ.μ (tau h.τ o) = some x -> κ0.μ o = some x := fun o ob hdm hH => by
   obtain ⟨ob', h'⟩ := hp_dom.1 hdm
   have := hold o ob' h'
   rw [hH] at this
   cases this
   exact ⟨ob', h', like_ren' _ _, fun _ h => h⟩
  have hOwn : ∀ b, Own κ0 h.l b -> ∃ o ob x, hp h.l o = some ob /\ s.H (tau h.τ o) = some (renOb (tau h.τ) ob) /\ κ.μ (tau h.τ o) = some x /\ x.1 = b := fun b ⟨o, ob, x, h1, h2, h3⟩ => ⟨o, ob, x, h1, hold o ob h1, h2, h3⟩
  have hC := hcall w κ0 vs R.imlt (globs (κ := κ) hcx R) hsz (fun i x v hx hv => by
    have := hargs i (ren (tau h.τ) x) v (by rw [List.getElem?_map, hx]; rfl) hv
    exact RV.bwd (κ := κ) (κ' := κ0) (H := s.H) (τ := tau h.τ) (fun _ h => h) (fun _ _ => rfl) hSb this x rfl (List.all_eq_true.1 K.ca x (List.mem_of_getElem? hx)))
   (fun o ob ho => ObRep.bwd (κ := κ) (κ' := κ0) (H := s.H) (τ := tau h.τ) (p := tau h.τ o) (fun _ => Iff.rfl) hSb (List.all_eq_true.1 K.cl (o, ob) (hp_mem ho)) rfl (R.rep _ _ (hold o ob ho)))
   (fun o o' ob ob' x x' h1 h2 hx hx' he => nodup_inj K.nd (mem_dom (hp_mem h1)) (mem_dom (hp_mem h2)) (R.inj _ _ _ _ x x' (hold o ob h1) (hold o' ob' h2) hx hx' he))
  intro Q K2 hK
  refine wpIn_enter hrun (hC.mono fun e w' ⟨u, κ', he, g1, g2, g3, g4, g5, g6, g7, g8, g9, g10, g11, g12, g13⟩ => ?_)
  subst he
  -- behind the call
  have R1 := RelK.dropAll (l := h.lost) hcx R
  generalize hs1 : Aw.dropAll s h.lost = s1 at R1 hK
  have hs1H : ∀ p ob, s1.H p = some ob -> p ∉ h.lost /\ ∃ ob0, s.H p = some ob0 /\ LikeE ob0 ob := fun p ob hp => by rw [<- hs1] at hp; exact dropAll_H hp
  have hnd2 : (dom (h.l'.map fun q => (tau h.τ q.1, renOb (tau h.τ) q.2))).Nodup := by
   have : dom (h.l'.map fun q => (tau h.τ q.1, renOb (tau h.τ) q.2)) = (dom h.l').map (tau h.τ) := by simp [dom]
   rw [this]; exact K.nd'
  have hnew : ∀ o ob, hp h.l' o = some ob -> newH h s1.H (tau h.τ o) = some (renOb (tau h.τ) ob) := fun o ob ho => by
   have : hp (h.l'.map fun q => (tau h.τ q.1, renOb (tau h.τ) q.2)) (tau h.τ o) = some (renOb (tau h.τ) ob) := hp_of_mem hnd2 (List.mem_map.2 ⟨(o, ob), hp_mem ho, rfl⟩)
   simp only [newH, this]
  have hnd'' : (dom h.l').Nodup := nodup_of K.nd'
  have hcase : ∀ p ob, newH h s1.H p = some ob -> (∃ o ob0, hp h.l' o = some ob0 /\ tau h.τ o = p /\ renOb (tau h.τ) ob0 = ob) \/ ((∀ o ∈ dom h.l', tau h.τ o ≠ p) /\ s1.H p = some ob) := fun p ob hpp => by
   cases hx : hp (h.l'.map fun q => (tau h.τ q.1, renOb (tau h.τ) q.2)) p with
   | some ob2 =>
    simp only [newH, hx, Option.some.injEq] at hpp
    subst hpp
    obtain ⟨o, ob0, k1, k2, k3⟩ := tau_find hx
    exact .inl ⟨o, ob0, hp_of_mem hnd'' k1, k2, k3⟩
   | none =>
    simp only [newH, hx] at hpp
    refine .inr ⟨fun o ho e => ?_, hpp⟩
    obtain ⟨q, hq, rfl⟩ := List.mem_map.1 ho
    have := hp_of_mem hnd2 (List.mem_map.2 ⟨q, hq, rfl⟩)
    rw [e, hx] at this
    cases this
  -- the place of what is there
  let μ2 : Nat -> Option (Nat × Nat × Nat) := fun p => match h.l'.find? (fun q => tau h.τ q.1 == p) with
   | some q => κ'.μ q.1
   | none => κ.μ p
  have hμ1 : ∀ o ob, hp h.l' o = some ob -> μ2 (tau h.τ o) = κ'.μ o := fun o ob ho => by
   show (match h.l'.find? (fun q => tau h.τ q.1 == tau h.τ o) with | some q => κ'.μ q.1 | none => κ.μ (tau h.τ o)) = _
   cases hfd : h.l'.find? (fun q => tau h.τ q.1 == tau h.τ o) with
   | none =>
    have := List.find?_eq_none.1 hfd (o, ob) (hp_mem ho)
    simp at this
   | some q =>
    have e := List.find?_some hfd
    have hm := List.mem_of_find?_eq_some hfd
    simp only [beq_iff_eq] at e
    have := nodup_inj K.nd' (mem_dom (o := q.1) (ob := q.2) hm) (mem_dom (hp_mem ho)) e
    simp only [this]
  have hμ2 : ∀ p, (∀ o ∈ dom h.l', tau h.τ o ≠ p) -> μ2 p = κ.μ p := fun p hp => by
   show (match h.l'.find? (fun q => tau h.τ q.1 == p) with | some q => κ'.μ q.1 | none => κ.μ p) = _
   cases hfd : h.l'.find? (fun q => tau h.τ q.1 == p) with
   | none => rfl
   | some q =>
    have e := List.find?_some hfd
    have hm := List.mem_of_find?_eq_some hfd
    simp only [beq_iff_eq] at e
    exact absurd e (hp q.1 (mem_dom (ob := q.2) hm))
  -- objects of the call that are not lost keep their place
  have hkeep : ∀ p ob, s1.H p = some ob -> ∀ o ∈ dom h.l', tau h.τ o = p -> ∃ oba obb, hp h.l o = some oba /\ hp h.l' o = some obb /\ Like oba obb /\ LikeE (renOb (tau h.τ) oba) ob /\ h.pins.contains o = true := fun p ob hpp o ho e => by
   obtain ⟨hnl, ob0, hob0, hlk⟩ := hs1H p ob hpp
   cases hdl : (dom h.l).contains o with
   | false =>
    have := (K.fresh o ho hdl).1
    rw [e, hob0] at this
    cases this
   | true =>
    obtain ⟨oba, ha⟩ := hp_dom.1 hdl
    have hpin : h.pins.contains o = true := by
     cases hc : h.pins.contains o with
     | true => rfl
     | false =>
      refine absurd ?_ hnl
      simp only [HO.lost, List.mem_map, List.mem_filter]
      exact ⟨o, ⟨by simpa using hdl, by rw [hc]; rfl⟩, e⟩
    have hsh := K.pins o (by simpa using hpin)
    unfold sameShape at hsh
    obtain ⟨obb, hb⟩ := hp_dom.1 (show (dom h.l').contains o = true by simpa using ho)
    rw [ha, hb] at hsh
    have hs := hold o oba ha
    rw [e, hob0] at hs
    cases hs
    exact ⟨oba, obb, ha, hb, hsh, hlk, hpin⟩
  have him1 : ∀ b, κ.im b -> κ'.im b := g1
  have hwim : ∀ b, κ.im b -> w'.heap[b]? = w.heap[b]? := fun b hb => by
   refine g9 b (R.imlt b hb) fun hOw => ?_
   obtain ⟨o, ob, x, k1, k2, k3, rfl⟩ := hOwn b hOw
   obtain ⟨_, hr⟩ := R.rep _ _ k2
   rcases hr with ⟨h1, _⟩ | ⟨b, base, cs, el, e1, e2, _⟩ | hr
   ·rw [h1] at k3; cases k3
   ·rw [e1] at k3; cases k3; exact e2 hb
   ·obtain ⟨_, _, _, _, _, e2⟩ := hr.lies k3
    exact e2 hb
  have hfw : ∀ o ob, (dom h.l').contains o = true -> hp h.l' o = some ob -> ∃ ob', newH h s1.H (tau h.τ o) = some ob' /\ Like ob ob' /\ ∀ x, κ'.μ o = some x -> (⟨μ2, κ'.im⟩ : Kz).μ (tau h.τ o) = some x := fun o ob _ ho =>
   ⟨_, hnew o ob ho, like_ren _ _, fun x hx => by show μ2 _ = _; rw [hμ1 o ob ho, hx]⟩
  have hold1 : ∀ p ob, (fun _ => true) p = true -> s1.H p = some ob -> ∃ ob', newH h s1.H ((fun o => o) p) = some ob' /\ Like ob ob' /\ ∀ x, κ.μ p = some x -> (⟨μ2, κ'.im⟩ : Kz).μ ((fun o => o) p) = some x := fun p ob _ hpp => by
   by_cases hex : ∃ o ∈ dom h.l', tau h.τ o = p
   ·obtain ⟨o, ho, e⟩ := hex
    obtain ⟨oba, obb, ha, hb, ⟨l1, l2, l3⟩, ⟨m1, m2, m3⟩, hpin⟩ := hkeep p ob hpp o ho e
    refine ⟨renOb (tau h.τ) obb, by rw [<- e]; exact hnew o obb hb, ⟨?_, ?_, ?_⟩, fun x hx => ?_⟩
    ·rw [m1]; exact l1
    ·rw [m2]; exact l2
    ·rw [m3]; simpa [renOb] using l3
    ·show μ2 p = _
     rw [<- e, hμ1 o obb hb]
     exact g13 o obb x hpin hb (by show κ.μ (tau h.τ o) = _; rw [e]; exact hx)
   ·have hno : ∀ o ∈ dom h.l', tau h.τ o ≠ p := fun o ho e => hex ⟨o, ho, e⟩
    refine ⟨ob, ?_, ⟨rfl, rfl, Nat.le_refl _⟩, fun x hx => by show μ2 p = _; rw [hμ2 p hno, hx]⟩
    have : hp (h.l'.map fun q => (tau h.τ q.1, renOb (tau h.τ) q.2)) p = none := by
     cases hx : hp (h.l'.map fun q => (tau h.τ q.1, renOb (tau h.τ) q.2)) p with
     | none => rfl
     | some ob2 =>
      obtain ⟨o, ob0, k1, k2, _⟩ := tau_find hx
      exact absurd k2 (hno o (mem_dom k1))
    simp only [newH, this]
    exact hpp
  have hm : ∀ {x : AV} {v : Value}, RV κ s1.H w x v -> RV ⟨μ2, κ'.im⟩ (newH h s1.H) w' x v := fun {x v} hx => by
   have := RV.fwd (κ' := ⟨μ2, κ'.im⟩) (H' := newH h s1.H) (w' := w') him1 hwim hold1 hx (refs_all (fun _ => rfl) x)
   rwa [ren_id] at this
  -- blocks of what the call does not have
  have hout : ∀ p ob b base n, s1.H p = some ob -> (∀ o ∈ dom h.l', tau h.τ o ≠ p) -> κ.μ p = some (b, base, n) -> b < w.heap.size /\ ¬ Own κ0 h.l b := fun p ob b base n hpp hno hb => by
   obtain ⟨hnl, ob0, hob0, _⟩ := hs1H p ob hpp
   refine ⟨?_, fun hOw => ?_⟩
   ·exact (R.noD hob0 hb).1
   ·obtain ⟨o, oba, x, k1, k2, k3, k4⟩ := hOwn b hOw
    have e := R.inj _ _ _ _ x _ k2 hob0 k3 hb k4
    cases hc : h.pins.contains o with
    | false =>
     refine hnl ?_
     simp only [HO.lost, List.mem_map, List.mem_filter]
     exact ⟨o, ⟨mem_dom (hp_mem k1), by rw [hc]; rfl⟩, e⟩
    | true =>
     have hsh := K.pins o (by simpa using hc)
     unfold sameShape at hsh
     rw [k1] at hsh
     cases hb' : hp h.l' o with
     | none => rw [hb'] at hsh; exact hsh
     | some obb => exact hno o (mem_dom (hp_mem hb')) e
  have hid : ∀ ob : Ob, renOb (fun o => o) ob = ob := fun ob => by
   simp only [renOb]
   have : ob.es.map (ren fun o => o) = ob.es := by
    conv => rhs; rw [<- List.map_id ob.es]
    exact List.map_congr_left fun e _ => ren_id e
   rw [this]
  have R2 : RelK cx ⟨μ2, κ'.im⟩ { s1 with H := newH h s1.H } a w' := by
   refine ⟨fun p ob hpp => ?_, fun p p' ob ob' x x' h1 h2 hx hx' he => ?_, fun t => hm (R1.env t), R1.size, ⟨R.defers.1.mono fun D _ h => by
    rw [g9 D (Array.getElem?_eq_some_iff.1 h).1 fun hOw => by
     obtain ⟨o, ob, x, k1, k2, k3, rfl⟩ := hOwn D hOw
     exact absurd ((R.noD k2 k3).2 _ h) (by simp [noCells])]
    exact h, R.defers.2⟩, g5.trans R.os, g6.trans R.tape, g7.trans R.output, Nat.le_trans R.le g8, fun b hlt hM => ?_, fun p ob x hpp hx => ?_,
    fun b hb => g1 b (R.im0 b hb), g3, fun b hb => ?_, fun p ob x hp' hpp => ?_, R.pinlo, fun g => hm (R1.glob g)⟩
   ·rcases hcase p ob hpp with ⟨o, ob0, k1, rfl, rfl⟩ | ⟨hno, k⟩
    ·exact ObRep.fwd (κ := κ') (H := hp h.l') (w := w') (τ := tau h.τ) (κ' := ⟨μ2, κ'.im⟩) (H' := newH h s1.H) (w' := w') (fun _ h => h) (fun _ _ => rfl) hfw (List.all_eq_true.1 K.cl' (o, ob0) (hp_mem k1)) (hμ1 o ob0 k1) (fun _ _ _ _ h => ⟨h, rfl⟩) (g10 o ob0 k1)
    ·have := (R1.rep p ob k).fwd (κ' := ⟨μ2, κ'.im⟩) (H' := newH h s1.H) (w' := w') (p := p) him1 hwim hold1 (by simp only [Ob.refs, List.all_eq_true]; exact fun e _ => refs_all (fun _ => rfl) e) (hμ2 p hno) (fun b base n hb hnim => by
      obtain ⟨q1, q2⟩ := hout p ob b base n k hno hb
      refine ⟨fun him => ?_, g9 b q1 q2⟩
      rcases g2 b him with h | h | h
      ·exact hnim h
      ·exact q2 h
      ·omega)
     rwa [hid] at this
   ·have mix : ∀ p p' ob ob' x x', (∃ o ob0, hp h.l' o = some ob0 /\ tau h.τ o = p /\ renOb (tau h.τ) ob0 = ob) -> ((∀ o ∈ dom h.l', tau h.τ o ≠ p') /\ s1.H p' = some ob') -> μ2 p = some x -> μ2 p' = some x' -> x.1 ≠ x'.1 := fun p p' ob ob' x x' ⟨o, ob0, k1, k2, _⟩ ⟨hno, k⟩ hx hx' he => by
     rw [<- k2, hμ1 o ob0 k1] at hx
     rw [hμ2 p' hno] at hx'
     obtain ⟨b, base, n⟩ := x'
     obtain ⟨q1, q2⟩ := hout p' ob' b base n k hno hx'
     rcases g12 o ob0 x k1 hx with h | h
     ·rw [he] at h; exact q2 h
     ·rw [he] at h
      simp only at h
      omega
    rcases hcase p ob h1 with ⟨o, ob0, k1, k2, k3⟩ | k <;> rcases hcase p' ob' h2 with ⟨o', ob0', k1', k2', k3'⟩ | k'
    ·have hx := hx; have hx' := hx'
     have e1 : μ2 p = some x := hx
     have e2 : μ2 p' = some x' := hx'
     rw [<- k2, hμ1 o ob0 k1] at e1
     rw [<- k2', hμ1 o' ob0' k1'] at e2
     rw [<- k2, <- k2', g11 o o' ob0 ob0' x x' k1 k1' e1 e2 he]
    ·exact absurd he (mix p p' ob ob' x x' ⟨o, ob0, k1, k2, k3⟩ k' hx hx')
    ·exact absurd he.symm (mix p' p ob' ob x' x ⟨o', ob0', k1', k2', k3'⟩ k hx' hx)
    ·have e1 : μ2 p = some x := hx
     have e2 : μ2 p' = some x' := hx'
     rw [hμ2 p k.1] at e1
     rw [hμ2 p' k'.1] at e2
     exact R1.inj p p' ob ob' x x' k.2 k'.2 e1 e2 he
   ·have hlt2 : b < w.heap.size := Nat.lt_of_lt_of_le hlt R.le
    rw [g9 b hlt2 fun hOw => ?_]
    ·exact R.block b hlt hM
    ·obtain ⟨o, ob, x, k1, k2, k3, rfl⟩ := hOwn b hOw
     rcases R.own _ _ x k2 k3 with h | h
     ·exact hM h
     ·omega
   ·have e1 : μ2 p = some x := hx
    rcases hcase p ob hpp with ⟨o, ob0, k1, k2, k3⟩ | k
    ·rw [<- k2, hμ1 o ob0 k1] at e1
     rcases g12 o ob0 x k1 e1 with h | h
     ·obtain ⟨o, ob, x', j1, j2, j3, j4⟩ := hOwn _ h
      rw [<- j4]
      exact R.own _ _ x' j2 j3
     ·exact .inr (Nat.le_trans R.le h)
    ·rw [hμ2 p k.1] at e1
     exact R1.own p ob x k.2 e1
   ·rcases g2 b hb with h | h | h
    ·exact R.imnew b h
    ·obtain ⟨o, ob, x', j1, j2, j3, j4⟩ := hOwn _ h
     rw [<- j4]
     exact .inr (R.own _ _ x' j2 j3)
    ·exact .inr (.inr (Nat.le_trans R.le h))
   ·show μ2 p = some x
    rcases hcase p ob hpp with ⟨o, ob0, k1, k2, k3⟩ | k
    ·cases hdl : (dom h.l).contains o with
     | false =>
      have h1 := (K.fresh o (mem_dom (hp_mem k1)) hdl).2
      have h2 := R.pinlo p x hp'
      omega
     | true =>
      cases hc : h.pins.contains o with
      | false =>
       have := K.gone o (by simpa using hdl) hc (hp_dom.2 ⟨_, k1⟩)
       rw [k2, hp'] at this
       cases this
      | true =>
       obtain ⟨oba, ha⟩ := hp_dom.1 hdl
       have hs := hold o oba ha
       rw [k2] at hs
       have := R.pin p _ x hp' hs
       rw [<- k2, hμ1 o ob0 k1]
       exact g13 o ob0 x hc k1 (by show κ.μ (tau h.τ o) = _; rw [k2]; exact this)
    ·rw [hμ2 p k.1]
     obtain ⟨_, ob0, hob0, _⟩ := hs1H p ob k.2
     exact R.pin p ob0 x hp' hob0
  have hu : RV ⟨μ2, κ'.im⟩ (newH h s1.H) w' (ren (tau h.τ) h.r) u := RV.fwd (κ := κ') (H := hp h.l') (w := w') (κ' := ⟨μ2, κ'.im⟩) (H' := newH h s1.H) (τ := tau h.τ) (fun _ h => h) (fun _ _ => rfl) hfw g4 K.cr
  exact ⟨_, rfl, hK _ _ ⟨_, R2.putv hd (RV.wrapg hu)⟩⟩
end
end Go.Aw

/- Regions with calls that work on objects; states as lists. Own work. -/
namespace Go.Aw
open Go
def orcH (l : List (Tmp × HO)) (d : Tmp) : Option HO :=
 match l with
 | [] => none
 | (t, v) :: r => if t = d then some v else orcH r d
def sstepH (cx : Cx) (oh : List (Tmp × HO)) (orc : List (Tmp × AV)) (ds : List (Option Tmp)) (o : Oper) (s : St) : Option (St × Prop) :=
 match o.op with
 | .call cl => match cl.callee with
  | .value f => match orcH oh (o.dst.getD 0) with
   | some h => match gcond ds s.ρ o.guard with
    | some c => scallH cx h c o cl f s
    | none => none
   | none => sstep cx [] orc ds o s
  | _ => sstep cx [] orc ds o s
 | _ => sstep cx [] orc ds o s
section
variable {cx : Cx} {κ : Kz} {s : St} {a : Act} {w : World}
theorem sstepH_sound (hcx : CxOk cx) (R : RelK cx κ s a w) {oh : List (Tmp × HO)} {orc : List (Tmp × AV)} {ops : Array Oper} {o : Oper} (hn : ∀ o ∈ ops, ∀ d, o.dst = some d -> cx.ok d) (ho : o ∈ ops) {s' : St} {φ : Prop}
  (h : sstepH cx oh orc (ops.toList.map (·.dst)) o s = some (s', φ)) (hφ : φ) :
  (Region.wanted o (yielded ops a.tmps) = true /\ Does cx o a w s') \/ (Region.wanted o (yielded ops a.tmps) = false /\ Rel cx s' (a.put o.dst undef) w) := by
 unfold sstepH at h
 split at h
 ·rename_i cl hop
  split at h
  ·rename_i f hcl
   split at h
   ·rename_i ho2 hor
    split at h
    ·rename_i c hc
     have hw := gcond_sound R (o := o) hn hc
     rw [hw]
     cases c with
     | true => exact .inl ⟨rfl, scallH_does hcx R hop hcl (hn o ho) h hφ⟩
     | false =>
      refine .inr ⟨rfl, ?_⟩
      unfold scallH at h
      cases h
      exact ⟨κ, R.putv (hn o ho) (.gd false .junk undef (fun e => by cases e) (fun _ => rfl))⟩
    ·cases h
   ·exact sstep_sound hcx R hn ho h hφ
  ·exact sstep_sound hcx R hn ho h hφ
 ·exact sstep_sound hcx R hn ho h hφ
/-! ### States as lists -/
def env : List (Tmp × AV) -> Tmp -> AV
 | [], _ => .junk
 | (t, x) :: l, u => if u = t then x else env l u
theorem env_mem : ∀ {l : List (Tmp × AV)} {t : Tmp}, env l t = .junk \/ ∃ x, (t, x) ∈ l /\ env l t = x
 | [], _ => .inl rfl
 | (u, x) :: l, t => by
  simp only [env]
  by_cases h : t = u
  ·rw [if_pos h]; exact .inr ⟨x, by rw [h]; simp, rfl⟩
  ·rw [if_neg h]
   rcases env_mem (l := l) (t := t) with h | ⟨y, h1, h2⟩
   ·exact .inl h
   ·exact .inr ⟨y, List.mem_cons_of_mem _ h1, h2⟩
def St.mk' (e : List (Tmp × AV)) (l : List (Nat × Ob)) : St := ⟨env e, hp l⟩
theorem Weak.move (hG : ∀ g, (cx.G g).pure = true \/ cx.G g = .junk) (τ : List (Nat × Nat)) (e : List (Tmp × AV)) (l : List (Nat × Ob)) (he : ∀ p ∈ e, s.ρ p.1 = p.2) (hl : ∀ p ∈ l, s.H p.1 = some p.2) (hnd : ((dom l).map (tau τ)).Nodup)
  (hpin : ∀ o ∈ dom l, tau τ o = o \/ cx.pin (tau τ o) = none) (hre : e.all (fun p => p.2.refs (dom l).contains) = true) (hrl : closedL l = true) :
  Weak cx s (St.mk' (e.map fun p => (p.1, ren (tau τ) p.2)) (l.map fun p => (tau τ p.1, renOb (tau τ) p.2))) := fun a w ⟨κ, R⟩ => by
 have hnd2 : (dom (l.map fun q => (tau τ q.1, renOb (tau τ) q.2))).Nodup := by
  have : dom (l.map fun q => (tau τ q.1, renOb (tau τ) q.2)) = (dom l).map (tau τ) := by simp [dom]
  rw [this]; exact hnd
 let μ2 : Nat -> Option (Nat × Nat × Nat) := fun p => match l.find? (fun q => tau τ q.1 == p) with
  | some q => κ.μ q.1
  | none => none
 have hμ : ∀ q ∈ l, μ2 (tau τ q.1) = κ.μ q.1 := fun q hq => by
  show (match l.find? (fun q' => tau τ q'.1 == tau τ q.1) with | some q => κ.μ q.1 | none => none) = _
  cases hfd : l.find? (fun q' => tau τ q'.1 == tau τ q.1) with
  | none =>
   have := List.find?_eq_none.1 hfd q hq
   simp at this
  | some q' =>
   have e := List.find?_some hfd
   have hm := List.mem_of_find?_eq_some hfd
   simp only [beq_iff_eq] at e
   have := nodup_inj hnd (mem_dom (o := q'.1) (ob := q'.2) hm) (mem_dom (o := q.1) (ob := q.2) hq) e
   simp only [this]
 have hnew : ∀ q ∈ l, hp (l.map fun q => (tau τ q.1, renOb (tau τ) q.2)) (tau τ q.1) = some (renOb (tau τ) q.2) := fun q hq => hp_of_mem hnd2 (List.mem_map.2 ⟨q, hq, rfl⟩)
 have hcase : ∀ p ob, hp (l.map fun q => (tau τ q.1, renOb (tau τ) q.2)) p = some ob -> ∃ q ∈ l, tau τ q.1 = p /\ renOb (tau τ) q.2 = ob := fun p ob h => by
  obtain ⟨o, ob0, h1, h2, h3⟩ := tau_find h
  exact ⟨(o, ob0), h1, h2, h3⟩
 have hS : ∀ o ob, (dom l).contains o = true -> s.H o = some ob -> ∃ ob', hp (l.map fun q => (tau τ q.1, renOb (tau τ) q.2)) (tau τ o) = some ob' /\ Like ob ob' /\ ∀ x, κ.μ o = some x -> (⟨μ2, κ.im⟩ : Kz).μ (tau τ o) = some x := fun o ob hd h => by
  obtain ⟨ob0, h0⟩ := hp_dom.1 hd
  have hm := hp_mem h0
  have := hl _ hm
  simp only at this
  rw [h] at this
  cases this
  exact ⟨_, hnew _ hm, like_ren _ _, fun x hx => by show μ2 _ = _; rw [hμ _ hm, hx]⟩
 have hm : ∀ {x : AV} {v : Value}, RV κ s.H w x v -> x.refs (dom l).contains = true -> RV ⟨μ2, κ.im⟩ (hp (l.map fun q => (tau τ q.1, renOb (tau τ) q.2))) w (ren (tau τ) x) v := fun h hx => RV.fwd (κ := κ) (κ' := ⟨μ2, κ.im⟩) (fun _ h => h) (fun _ _ => rfl) hS h hx
 refine ⟨⟨μ2, κ.im⟩, fun p ob h => ?_, fun p p' ob ob' x x' h h' hx hx' he => ?_, fun t => ?_, R.size, R.defers, R.os, R.tape, R.output, R.le, R.block, fun p ob x h hx => ?_, R.im0, R.imlt, R.imnew, fun p ob x hpp h => ?_, R.pinlo, fun g => ?_⟩
 ·obtain ⟨q, hq, rfl, rfl⟩ := hcase p ob h
  exact ObRep.fwd (κ := κ) (κ' := ⟨μ2, κ.im⟩) (fun _ h => h) (fun _ _ => rfl) hS (List.all_eq_true.1 hrl q hq) (hμ q hq) (fun _ _ _ _ h => ⟨h, rfl⟩) (R.rep q.1 q.2 (hl q hq))
 ·obtain ⟨q, hq, rfl, rfl⟩ := hcase p ob h
  obtain ⟨q', hq', rfl, rfl⟩ := hcase p' ob' h'
  have e1 : μ2 _ = _ := hx
  have e2 : μ2 _ = _ := hx'
  rw [hμ q hq] at e1
  rw [hμ q' hq'] at e2
  rw [R.inj q.1 q'.1 q.2 q'.2 x x' (hl q hq) (hl q' hq') e1 e2 he]
 ·show RV _ _ w (env (e.map fun p => (p.1, ren (tau τ) p.2)) t) _
  rcases env_mem (l := e.map fun p => (p.1, ren (tau τ) p.2)) (t := t) with h | ⟨x, h1, h2⟩
  ·rw [h]; exact .junk _
  ·rw [h2]
   obtain ⟨q, hq, hqe⟩ := List.mem_map.1 h1
   cases hqe
   exact hm (he q hq ▸ R.env q.1) (List.all_eq_true.1 hre q hq)
 ·obtain ⟨q, hq, rfl, rfl⟩ := hcase p ob h
  have e1 : μ2 _ = _ := hx
  rw [hμ q hq] at e1
  exact R.own q.1 q.2 x (hl q hq) e1
 ·obtain ⟨q, hq, rfl, rfl⟩ := hcase p ob h
  show μ2 _ = _
  rw [hμ q hq]
  rcases hpin q.1 (mem_dom (ob := q.2) hq) with h | h
  ·rw [h] at hpp; exact R.pin q.1 q.2 x hpp (hl q hq)
  ·rw [h] at hpp; cases hpp
 ·rcases hG g with h | h
  ·have := (R.glob g).pure_of h
   exact RV.mono (κ := ⟨noμ, κ.im⟩) (κ' := ⟨μ2, κ.im⟩) (H := noH) (fun _ h => h) (fun _ _ => rfl) (fun o ob h => by cases h) this
  ·show RV _ _ w (cx.G g) _
   rw [h]; exact .junk _
end
end Go.Aw

/- Drawn regions with calls that work on objects. Own work. -/
namespace Go.Aw
open Go
def killL : List Nat -> AV -> AV
 | [], x => x
 | o :: l, x => killL l (kill o x)
theorem killL_junk : ∀ (l : List Nat), killL l .junk = .junk
 | [] => rfl
 | _ :: l => killL_junk l
theorem killL_free {D : Nat -> Bool} : ∀ {l : List Nat}, (∀ o ∈ l, D o = false) -> ∀ {x : AV}, x.refs D = true -> killL l x = x
 | [], _, _, _ => rfl
 | o :: l, h, x, hx => by
  simp only [killL]
  rw [kill_free (h o (by simp)) hx]
  exact killL_free (fun o ho => h o (by simp [ho])) hx
def dropH (H : Hp) : List Nat -> Hp
 | [] => H
 | o :: l => dropH (fun p => if p = o then none else (H p).map (subOb o (fun _ _ => .junk) (fun _ _ => .junk))) l
theorem dropAll_eq : ∀ {l : List Nat} {s : St}, dropAll s l = ⟨fun t => killL l (s.ρ t), dropH s.H l⟩
 | [], s => rfl
 | o :: l, s => by
  simp only [dropAll, killL, dropH]
  rw [dropAll_eq (l := l)]
  rfl
theorem dropH_sz : ∀ {l : List Nat} {H : Hp} {p : Nat}, p ∉ l -> (dropH H l p).map Ob.sz = (H p).map Ob.sz
 | [], _, _, _ => rfl
 | o :: l, H, p, h => by
  simp only [List.mem_cons, not_or] at h
  simp only [dropH]
  rw [dropH_sz h.2]
  simp only [if_neg h.1]
  cases H p <;> rfl
def HO.bad (h : HO) : List Nat := h.lost ++ ((dom h.l').filter fun o => !(dom h.l).contains o).map (tau h.τ)
def HO.badT (h : HO) : List Nat := h.lost ++ (dom h.l').map (tau h.τ)
def HO.badG (h : HO) (g : List Nat) : List Nat := if g.contains 888887 = true then h.badT else h.bad
def isHC (hk : List Tmp) (o : Oper) : Bool := match o.op with
 | .call cl => match cl.callee with
  | .value _ => hk.contains (o.dst.getD 0)
  | _ => false
 | _ => false
def stepD (cx : Cx) (fr : List Nat) (oh : List (Tmp × HO)) (orc : List (Tmp × AV)) (ds : List (Option Tmp)) (o : Oper) (s : St) : Option (St × Prop) :=
 match o.op with
 | .call cl => match cl.callee with
  | .value f => match orcH oh (o.dst.getD 0) with
   | some h => match gcond ds s.ρ o.guard with
    | some true => if clearOf fr s.ρ (h.badG fr) then scallH cx h true o cl f s else none
    | _ => none
   | none => sstep cx fr orc ds o s
  | _ => sstep cx fr orc ds o s
 | _ => sstep cx fr orc ds o s
def commD (hk : List Tmp) (fr : List Nat) (ds : List (Option Tmp)) (x y : Oper) : Bool :=
 if isHC hk x then apartA ds x y && okY fr ds y
 else if isHC hk y then apartA ds x y && okY fr ds x
 else commB fr ds x y || commA fr ds x y
def isApp : Op -> Bool
 | .call c => match c.callee with
  | .builtin .append => true
  | _ => false
 | _ => false
def anyApp (hk : List Tmp) : List Oper -> Bool
 | [] => false
 | o :: l => if isApp o.op || isHC hk o then true else anyApp hk l
theorem orcH_none {oh : List (Tmp × HO)} {d : Tmp} (h : (oh.map (·.1)).contains d = false) : orcH oh d = none := by
 induction oh with
 | nil => rfl
 | cons a oh ih =>
  obtain ⟨t, v⟩ := a
  simp only [List.map_cons, List.contains_cons, Bool.or_eq_false_iff, beq_eq_false_iff_ne] at h
  simp only [orcH]
  rw [if_neg (fun e => h.1 e.symm)]
  exact ih h.2
theorem orcH_some {oh : List (Tmp × HO)} {d : Tmp} (h : (oh.map (·.1)).contains d = true) : ∃ v, orcH oh d = some v := by
 induction oh with
 | nil => simp at h
 | cons a oh ih =>
  obtain ⟨t, v⟩ := a
  simp only [List.map_cons, List.contains_cons, Bool.or_eq_true, beq_iff_eq] at h
  simp only [orcH]
  by_cases e : t = d
  ·exact ⟨v, by rw [if_pos e]⟩
  ·rw [if_neg e]
   exact ih (h.resolve_left fun h => e h.symm)
section
variable {cx : Cx} {fr : List Nat} {oh : List (Tmp × HO)} {orc : List (Tmp × AV)} {ds : List (Option Tmp)} {x y o : Oper} {s s1 s2 : St} {φ φ1 φ2 : Prop}
theorem stepD_no (h : isHC (oh.map (·.1)) o = false) : stepD cx fr oh orc ds o s = sstep cx fr orc ds o s := by
 unfold stepD
 unfold isHC at h
 split
 ·rename_i cl hop
  rw [hop] at h
  simp only at h
  split
  ·rename_i f hcl
   rw [hcl] at h
   rw [orcH_none h]
  ·rfl
 ·rfl
theorem okY_noHC {hk : List Tmp} (h : okY fr ds y = true) : isHC hk y = false := by
 simp only [okY, Bool.and_eq_true] at h
 unfold isHC
 cases hop : y.op <;> first | rfl | (rw [hop] at h; simp at h)
theorem call_all (hx : isHC (oh.map (·.1)) x = true) (h : stepD cx fr oh orc ds x s = some (s1, φ)) (hφ : φ) :
  ∃ (K : List Nat) (bad : List Nat) (v : AV) (H1 : Hp), s1 = putv ⟨fun t => killL K (s.ρ t), H1⟩ x.dst v /\ (∀ o ∈ K, bad.contains o = true) /\ (∀ p, bad.contains p = false -> (H1 p).map Ob.sz = (s.H p).map Ob.sz) /\ clearOf fr s.ρ bad = true /\ (fr.contains 888887 = true -> ∀ p, bad.contains p = false -> H1 p = dropH s.H K p) /\
   ∀ t : St, (∀ z ∈ looks ds x, s.ρ z = t.ρ z) -> s.H = t.H -> clearOf fr t.ρ bad = true -> stepD cx fr oh orc ds x t = some (putv ⟨fun z => killL K (t.ρ z), H1⟩ x.dst v, φ) := by
 have hae : ∀ t : St, (∀ z ∈ looks ds x, s.ρ z = t.ρ z) -> ∀ z ∈ opnds x.op, aev cx s.ρ z = aev cx t.ρ z := fun t ht z hz => aev_agree fun t' ht' => ht t' (looks_op hz ht')
 unfold isHC at hx
 unfold stepD at h
 split at h
 case h_2 => rename_i hno; split at hx <;> first | exact absurd ‹_› (hno _) | cases hx
 rename_i cl hop
 rw [hop] at hx
 simp only at hx
 split at h
 case h_2 => rename_i hno; split at hx <;> first | exact absurd ‹_› (hno _) | cases hx
 rename_i f hcl
 rw [hcl] at hx
 obtain ⟨ho, hor⟩ := orcH_some hx
 rw [hor] at h
 simp only at h
 split at h
 case h_2 => cases h
 rename_i hg
 split at h
 case isFalse => cases h
 rename_i hclr
 have h0 := h
 unfold scallH at h
 simp only at h
 split at h
 case h_2 => cases h
 rename_i k first cap hf
 cases h
 obtain ⟨hB, K⟩ := hφ
 have K0 := K
 replace K := K.to0
 have sub : ∀ p, (ho.badG fr).contains p = false -> ho.bad.contains p = false := fun p hp => by
  unfold HO.badG at hp
  split at hp
  ·simp only [HO.badT, HO.bad, List.contains_eq_mem, List.mem_append, List.mem_map, List.mem_filter, decide_eq_false_iff_not, not_or, not_exists, not_and] at hp ⊢
   exact ⟨hp.1, fun o h1 e => hp.2 o h1.1 e⟩
  ·exact hp
 refine ⟨ho.lost, ho.badG fr, _, newH ho (dropH s.H ho.lost), by rw [dropAll_eq], fun o h => ?_, fun p hp => ?_, hclr, fun hm p hp => ?_, fun t ht hH hct => ?_⟩
 ·cases hb : (ho.badG fr).contains o with
  | true => rfl
  | false =>
   have := sub o hb
   simp only [HO.bad, List.contains_eq_mem, List.mem_append, decide_eq_false_iff_not, not_or] at this
   exact absurd h this.1
 ·have hp2 : p ∉ ho.lost /\ ∀ o ∈ dom ho.l', (dom ho.l).contains o = false -> tau ho.τ o ≠ p := by
   have hp := sub p hp
   simp only [HO.bad, List.contains_eq_mem, List.mem_append, List.mem_map, List.mem_filter, decide_eq_false_iff_not, not_or, not_exists, not_and] at hp
   exact ⟨hp.1, fun o h1 h2 e => hp.2 o ⟨h1, by simp at h2; simpa using h2⟩ e⟩
  simp only [newH]
  cases hnw : Aw.hp (ho.l'.map fun q => (tau ho.τ q.1, renOb (tau ho.τ) q.2)) p with
  | none => exact dropH_sz hp2.1
  | some ob =>
   obtain ⟨q, ob0, h1, h2, h3⟩ := tau_find hnw
   have hdl : (dom ho.l).contains q = true := by
    cases hc : (dom ho.l).contains q with
    | true => rfl
    | false => exact absurd h2 (hp2.2 q (mem_dom h1) hc)
   obtain ⟨oba, ha⟩ := hp_dom.1 hdl
   have hpin : ho.pins.contains q = true := by
    cases hc : ho.pins.contains q with
    | true => rfl
    | false =>
     refine absurd ?_ hp2.1
     simp only [HO.lost, List.mem_map, List.mem_filter]
     exact ⟨q, ⟨by simpa using hdl, by rw [hc]; rfl⟩, h2⟩
   have hsh := K.pins q (by simpa using hpin)
   unfold sameShape at hsh
   have hb := hp_of_mem (nodup_of K.nd') h1
   rw [ha, hb] at hsh
   have hs := K.old (q, oba) (hp_mem ha)
   simp only at hs
   rw [h2] at hs
   rw [hs, <- h3]
   simp only [Option.map_some, renOb, hsh.2.1]
 ·have hp2 : p ∉ ho.lost /\ ∀ o ∈ dom ho.l', tau ho.τ o ≠ p := by
   unfold HO.badG at hp
   rw [if_pos hm] at hp
   simp only [HO.badT, List.contains_eq_mem, List.mem_append, List.mem_map, decide_eq_false_iff_not, not_or, not_exists, not_and] at hp
   exact ⟨hp.1, fun o h1 e => hp.2 o h1 e⟩
  simp only [newH]
  cases hnw : Aw.hp (ho.l'.map fun q => (tau ho.τ q.1, renOb (tau ho.τ) q.2)) p with
  | none => rfl
  | some ob =>
   obtain ⟨q, ob0, h1, h2, h3⟩ := tau_find hnw
   exact absurd h2 (hp2.2 q (mem_dom h1))
 ·have e := hae t ht
  have hgt : gcond ds t.ρ x.guard = some true := (gcond_agree ht).symm.trans hg
  have ef := e f (by rw [hop]; simp only [opnds, hcl]; simp)
  have ea : cl.args.toList.map (fun z => stripV (aev cx s.ρ z)) = cl.args.toList.map (fun z => stripV (aev cx t.ρ z)) := List.map_congr_left fun z hz => by rw [e z (by rw [hop]; simp only [opnds, hcl]; exact List.mem_cons_of_mem _ hz)]
  have eB : allB cx s.ρ (f :: cl.args.toList) = allB cx t.ρ (f :: cl.args.toList) := allB_agree fun z hz => e z (by rw [hop]; simp only [opnds, hcl]; exact hz)
  unfold stepD
  simp only [hop, hcl, hor, hgt, hct, if_true, scallH, <- ef, hf]
  rw [<- ea, <- eB, <- hH, dropAll_eq, hH]
theorem call_loc (hx : isHC (oh.map (·.1)) x = true) (h : stepD cx fr oh orc ds x s = some (s1, φ)) (hφ : φ) :
  ∃ (K : List Nat) (bad : List Nat) (v : AV) (H1 : Hp), s1 = putv ⟨fun t => killL K (s.ρ t), H1⟩ x.dst v /\ (∀ o ∈ K, bad.contains o = true) /\ (∀ p, bad.contains p = false -> (H1 p).map Ob.sz = (s.H p).map Ob.sz) /\ clearOf fr s.ρ bad = true /\
   ∀ t : St, (∀ z ∈ looks ds x, s.ρ z = t.ρ z) -> s.H = t.H -> clearOf fr t.ρ bad = true -> stepD cx fr oh orc ds x t = some (putv ⟨fun z => killL K (t.ρ z), H1⟩ x.dst v, φ) := by
 obtain ⟨K, bad, v, H1, h1, h2, h3, h4, _, h5⟩ := call_all hx h hφ
 exact ⟨K, bad, v, H1, h1, h2, h3, h4, h5⟩
theorem swapD (hcx : CxOk cx) (hc : commD (oh.map (·.1)) fr ds x y = true) (hJ : isY x.op = true -> ∀ d, x.dst = some d -> s.ρ d = .junk) (h1 : stepD cx fr oh orc ds x s = some (s1, φ1)) (hφ1 : φ1) (h2 : stepD cx fr oh orc ds y s1 = some (s2, φ2)) (hφ2 : φ2) :
  ∃ s1', stepD cx fr oh orc ds y s = some (s1', φ2) /\ stepD cx fr oh orc ds x s1' = some (s2, φ1) := by
 unfold commD at hc
 by_cases hx : isHC (oh.map (·.1)) x = true
 ·rw [if_pos hx, Bool.and_eq_true] at hc
  obtain ⟨hap, hy⟩ := hc
  obtain ⟨a1, a2, a3⟩ := apartA_spec hap
  have hny := okY_noHC (hk := oh.map (·.1)) hy
  rw [stepD_no hny] at h2
  simp only [stepD_no hny]
  obtain ⟨K, bad, v, H1, rfl, hq, hsz, hcl, hF⟩ := call_loc hx h1 hφ1
  obtain ⟨k1, k2⟩ := okY_k hy
  have hKD : ∀ o ∈ K, (fun p => !bad.contains p) o = false := fun o ho => by simp only [hq o ho, Bool.not_true]
  have hfree : ∀ z ∈ kset fr, killL K (s.ρ z) = s.ρ z := fun z hz => killL_free hKD (clear_iff.1 hcl z hz)
  have hlk : ∀ z ∈ looks ds y, (putv ⟨fun t => killL K (s.ρ t), H1⟩ x.dst v).ρ z = s.ρ z := fun z hz => by
   rw [putv_ρ fun d hd => a1 d hd z hz]
   exact hfree z (k1 z hz)
  obtain ⟨u, rfl, hu, hG⟩ := okY_loc hcx hy h2 (D := fun p => !bad.contains p) (fun z hz => by rw [hlk z hz]; exact clear_iff.1 hcl z (k1 z hz))
  have g1 := hG s hlk (fun p hp => by rw [putv_H]; exact hsz p (by simpa using hp))
  refine ⟨_, g1, ?_⟩
  have g2 := hF (putv s y.dst u) (fun z hz => (putv_ρ fun e he => a3 e he z hz).symm) putv_H.symm (clear_iff.2 fun t ht => by
    by_cases hte : y.dst = some t
    ·rw [hte]
     show (upd s.ρ t u t).refs _ = true
     rw [upd_same]
     exact hu
    ·rw [putv_ρ fun e he e2 => hte (by rw [he, e2])]
     exact clear_iff.1 hcl t ht)
  rw [g2]
  cases hyd : y.dst with
  | none => rfl
  | some e =>
   have huk : killL K u = u := killL_free hKD hu
   cases hxd : x.dst with
   | none =>
    simp only [putv]
    congr 3
    funext t
    by_cases ht : t = e
    ·subst ht; simp only [upd_same, huk]
    ·simp only [upd_ne _ _ ht]
   | some d =>
    have hne := a2 d e hxd hyd
    simp only [putv]
    congr 3
    rw [upd_comm _ _ _ hne]
    congr 1
    funext t
    by_cases ht : t = e
    ·subst ht; simp only [upd_same, huk]
    ·simp only [upd_ne _ _ ht]
 ·rw [if_neg hx] at hc
  have hnx : isHC (oh.map (·.1)) x = false := by simpa using hx
  rw [stepD_no hnx] at h1
  simp only [stepD_no hnx]
  by_cases hy : isHC (oh.map (·.1)) y = true
  ·rw [if_pos hy, Bool.and_eq_true] at hc
   obtain ⟨hap, hxk⟩ := hc
   obtain ⟨a1, a2, a3⟩ := apartA_spec hap
   obtain ⟨K, bad, v, H1, rfl, hq, hsz, hcl, hF⟩ := call_loc hy h2 hφ2
   obtain ⟨k1, k2⟩ := okY_k hxk
   obtain ⟨u0, e0, _, _⟩ := okY_loc (D := fun _ => true) hcx hxk h1 (fun z hz => refs_all (fun _ => rfl) _)
   have hkeep : ∀ t, (∀ e, x.dst = some e -> t ≠ e) -> s1.ρ t = s.ρ t := fun t ht => by rw [e0]; exact putv_ρ ht
   have hH : s1.H = s.H := by rw [e0]; exact putv_H
   have hcs : clearOf fr s.ρ bad = true := clear_iff.2 fun t ht => by
    by_cases hte : x.dst = some t
    ·rw [hJ (okY_isY hxk) t hte]; rfl
    ·rw [<- hkeep t fun e he e2 => hte (by rw [he, e2])]
     exact clear_iff.1 hcl t ht
   have g1 := hF s (fun z hz => hkeep z fun e he => a1 e he z hz) hH hcs
   refine ⟨_, g1, ?_⟩
   have hKD : ∀ o ∈ K, (fun p => !bad.contains p) o = false := fun o ho => by simp only [hq o ho, Bool.not_true]
   obtain ⟨u, rfl, hu, hG⟩ := okY_loc (D := fun p => !bad.contains p) hcx hxk h1 (fun z hz => clear_iff.1 hcs z (k1 z hz))
   have hfree : ∀ z ∈ kset fr, killL K (s.ρ z) = s.ρ z := fun z hz => killL_free hKD (clear_iff.1 hcs z hz)
   have g2 := hG (putv ⟨fun z => killL K (s.ρ z), H1⟩ y.dst v) (fun z hz => by
    rw [putv_ρ fun d hd => a3 d hd z hz]; exact (hfree z (k1 z hz)).symm) (fun p hp => by rw [putv_H, <- hH]; exact (hsz p (by simpa using hp)).symm)
   rw [g2]
   have huk : killL K u = u := killL_free hKD hu
   cases hxd : x.dst with
   | none => rfl
   | some e =>
    cases hyd : y.dst with
    | none =>
     simp only [putv]
     congr 3
     funext t
     by_cases ht : t = e
     ·subst ht; simp only [upd_same, huk]
     ·simp only [upd_ne _ _ ht]
    | some d =>
     have hne := a2 e d hxd hyd
     simp only [putv]
     congr 3
     rw [<- upd_comm _ _ _ hne]
     congr 1
     funext t
     by_cases ht : t = e
     ·subst ht; simp only [upd_same, huk]
     ·simp only [upd_ne _ _ ht]
  ·have hny : isHC (oh.map (·.1)) y = false := by simpa using hy
   rw [if_neg hy, Bool.or_eq_true] at hc
   rw [stepD_no hny] at h2
   simp only [stepD_no hny]
   rcases hc with hc | hc
   ·exact swap hc h1 h2 hφ2
   ·exact swapA hcx hc hJ h1 h2
end
end Go.Aw

