/- A framework of the hand for programs over the model: abstract values, an interpreter, that it is sound. Own work. -/
import Derived.Tactics
import Derived.Orders
import Derived.Below
import Derived.Laws.Cells
import Derived.Laws.Slices
import Derived.Laws.AppendOwn
import Derived.KernelRfl
import Derived.OrdersIn
import Derived.RangeFuncRecord
import Derived.Laws.StructEq
import Derived.Laws.BitsLemmas
import Derived.ChangeKeysEq
import Derived.MapKept
import Derived.Laws.Tables
/- Abstract values and states for Go's memory; what it means that a state stands for a frame and a world. Own work. -/
namespace Go.Aw
open Go
inductive AV where
 | junk
 | int (k : IntKind) (n : Int)
 | bool (b : Bool)
 | str (s : ByteArray)
 | nilp
 | ptr (o i c : Nat)
 | rop (e : AV) (c : Nat)
 | nilsl
 | ro (sz : Nat) (es : List AV)
 | sl (o lo len : Nat)
 | asl (o i c len esz : Nat)
 | agg (cs : List AV)
 | tup (cs : List AV)
 | fn (f : Fn) (first cap : List AV)
 | nilf
 | gd (b : Bool) (v : AV)
 | ifc (t : TypeId) (v : AV)
 | nili
 | mp (o c : Nat)
 | nilm
 deriving Inhabited
def AV.cells : AV -> List AV
 | .agg cs => cs
 | .tup _ => []
 | v => [v]
def AV.isImm : AV -> Bool
 | .int _ _ | .bool _ | .str _ | .ro _ _ | .nilp | .nilf | .nili | .nilm => true
 | _ => false
def AV.refs (D : Nat -> Bool) : AV -> Bool
 | .ptr o _ _ | .sl o _ _ | .asl o _ _ _ _ | .mp o _ => D o
 | .agg cs | .tup cs => refsl cs
 | .fn _ a b => refsl a && refsl b
 | .gd _ v => v.refs D
 | .ifc _ v => v.refs D
 | _ => true
where
 refsl : List AV -> Bool
  | [] => true
  | x :: r => x.refs D && refsl r
theorem refsl_iff {D : Nat -> Bool} {l : List AV} : AV.refs.refsl D l = true ↔ ∀ x ∈ l, x.refs D = true := by
 induction l with
 | nil => simp [AV.refs.refsl]
 | cons x r ih => simp [AV.refs.refsl, ih]
structure Ob where
 box : Bool
 sz : Nat
 es : List AV
theorem heap_cell {w w' : World} {a : Addr} (h : w'.heap[a.block]? = w.heap[a.block]?) : w'.cell? a = w.cell? a := by
 unfold World.cell?
 rw [h]
inductive RI (im : Nat -> Prop) (w : World) : AV -> Value -> Prop
 | int (k : IntKind) (n : Int) : RI im w (.int k n) (.int k n)
 | bool (b : Bool) : RI im w (.bool b) (.bool b)
 | str (s : ByteArray) : RI im w (.str s) (.string s)
 | nilp : RI im w .nilp (.pointer none)
 | nilf : RI im w .nilf .nilFunc
 | nili : RI im w .nili .nilIface
 | nilm : RI im w .nilm (.map none)
 | ro (sz : Nat) (es : List AV) (A : Option Addr) (cap : Nat) (b off : Nat) (vs : Nat -> Nat -> Value)
   (hA : 0 < es.length -> A = some ⟨b, off, none⟩ /\ im b) (hcap : es.length ≤ cap)
   (hz : ∀ (i : Nat) (e : AV), es[i]? = some e -> e.cells.length = sz)
   (hc : ∀ (i : Nat) (e : AV) (j : Nat) (x : AV), es[i]? = some e -> e.cells[j]? = some x -> w.cell? ⟨b, off + i * sz + j, none⟩ = some (vs i j))
   (hr : ∀ (i : Nat) (e : AV) (j : Nat) (x : AV), es[i]? = some e -> e.cells[j]? = some x -> RI im w x (vs i j)) : RI im w (.ro sz es) (.slice A es.length cap)
theorem RI.mono {im im' : Nat -> Prop} {w w' : World} (hi : ∀ b, im b -> im' b) (hw : ∀ b, im b -> w'.heap[b]? = w.heap[b]?) {x : AV} {v : Value} (h : RI im w x v) : RI im' w' x v := by
 induction h with
 | int k n => exact .int k n
 | bool b => exact .bool b
 | str s => exact .str s
 | nilp => exact .nilp
 | nilf => exact .nilf
 | nili => exact .nili
 | nilm => exact .nilm
 | ro sz es A cap b off vs hA hcap hz hc hr ih =>
  refine .ro sz es A cap b off vs (fun h => ⟨(hA h).1, hi _ (hA h).2⟩) hcap hz (fun i e j x hi' hj => ?_) ih
  have hpos : 0 < es.length := by
   have := (List.getElem?_eq_some_iff.1 hi').1
   omega
  rw [<- hc i e j x hi' hj]
  exact heap_cell (hw _ (hA hpos).2)
theorem RI.one {im : Nat -> Prop} {w : World} {x : AV} {v : Value} (h : RI im w x v) : v.oneCell' = true := by
 cases h <;> rfl
structure Kz where
 μ : Nat -> Option (Nat × Nat × Nat)
 im : Nat -> Prop
abbrev Hp := Nat -> Option Ob
inductive RV (κ : Kz) (H : Hp) (w : World) : AV -> Value -> Prop
 | junk (v : Value) : RV κ H w .junk v
 | imm {x : AV} {v : Value} (h : RI κ.im w x v) : RV κ H w x v
 | ptr (o i c : Nat) (ob : Ob) (b base n : Nat) (hH : H o = some ob) (hμ : κ.μ o = some (b, base, n)) (hi : i < ob.es.length) :
   RV κ H w (.ptr o i c) (.pointer (some ⟨b, base + i * ob.sz + c, none⟩))
 | rop (e : AV) (c b off : Nat) (vs : Nat -> Value) (hb : κ.im b) (hc : ∀ (j : Nat) (x : AV), e.cells[j]? = some x -> w.cell? ⟨b, off + j, none⟩ = some (vs j))
   (hr : ∀ (j : Nat) (x : AV), e.cells[j]? = some x -> RI κ.im w x (vs j)) : RV κ H w (.rop e c) (.pointer (some ⟨b, off + c, none⟩))
 | nilsl : RV κ H w .nilsl (.slice none 0 0)
 | sl (o lo len : Nat) (ob : Ob) (A : Option Addr) (cap : Nat) (hH : H o = some ob) (hbox : ob.box = false) (hlen : lo + len ≤ ob.es.length) (hcap : len ≤ cap)
   (hA : cap = 0 \/ ∃ b base n, κ.μ o = some (b, base, n) /\ A = some ⟨b, base + lo * ob.sz, none⟩ /\ base + (lo + cap) * ob.sz ≤ n) :
   RV κ H w (.sl o lo len) (.slice A len cap)
 | asl (o i c len esz : Nat) (ob : Ob) (A : Option Addr) (cap b base n : Nat) (hH : H o = some ob) (hμ : κ.μ o = some (b, base, n)) (hi : i < ob.es.length) (hlen : c + len * esz ≤ ob.sz) (hcap : len ≤ cap)
   (hA : len = 0 \/ A = some ⟨b, base + i * ob.sz + c, none⟩) : RV κ H w (.asl o i c len esz) (.slice A len cap)
 | agg (cs : List AV) (vs : Array Value) (hl : vs.size = cs.length) (h : ∀ (i : Nat) (x : AV) (v : Value), cs[i]? = some x -> vs[i]? = some v -> RV κ H w x v) (h1 : ∀ (i : Nat) (v : Value), vs[i]? = some v -> v.oneCell' = true) :
   RV κ H w (.agg cs) (.agg vs)
 | tup (cs : List AV) (vs : Array Value) (hl : vs.size = cs.length) (h : ∀ (i : Nat) (x : AV) (v : Value), cs[i]? = some x -> vs[i]? = some v -> RV κ H w x v) : RV κ H w (.tup cs) (.tuple vs)
 | fn (f : Fn) (first cap : List AV) (as bs : Array Value) (hl : as.size = first.length) (hl' : bs.size = cap.length)
   (h : ∀ (i : Nat) (x : AV) (v : Value), first[i]? = some x -> as[i]? = some v -> RV κ H w x v) (h' : ∀ (i : Nat) (x : AV) (v : Value), cap[i]? = some x -> bs[i]? = some v -> RV κ H w x v) : RV κ H w (.fn f first cap) (.func f as bs)
 | gd (b : Bool) (x : AV) (v : Value) (h : b = true -> RV κ H w x v) (hf : b = false -> v = undef) : RV κ H w (.gd b x) v
 | ifc (t : TypeId) (x : AV) (v : Value) (h : RV κ H w x v) : RV κ H w (.ifc t x) (.iface t v)
 | mp (o c : Nat) (ob : Ob) (b : Nat) (hH : H o = some ob) (hμ : κ.μ o = some (b, c + 1, 0)) : RV κ H w (.mp o c) (.map (some b))
def Same (κ κ' : Kz) (H H' : Hp) : Prop :=
 ∀ o ob, H o = some ob -> ∃ ob', H' o = some ob' /\ ob'.box = ob.box /\ ob'.sz = ob.sz /\ ob.es.length ≤ ob'.es.length /\ κ'.μ o = κ.μ o
theorem Same.refl (κ : Kz) (H : Hp) : Same κ κ H H := fun _ ob h => ⟨ob, h, rfl, rfl, Nat.le_refl _, rfl⟩
theorem RV.mono {κ κ' : Kz} {H H' : Hp} {w w' : World} (hi : ∀ b, κ.im b -> κ'.im b) (hw : ∀ b, κ.im b -> w'.heap[b]? = w.heap[b]?) (hS : Same κ κ' H H') {x : AV} {v : Value}
  (h : RV κ H w x v) : RV κ' H' w' x v := by
 induction h with
 | junk v => exact .junk v
 | imm h => exact .imm (h.mono hi hw)
 | ptr o i c ob b base n hH hμ hlt =>
  obtain ⟨ob', h1, h2, h3, h4, h5⟩ := hS o ob hH
  have := RV.ptr (κ := κ') (H := H') (w := w') o i c ob' b base n h1 (h5.trans hμ) (by omega)
  rwa [h3] at this
 | rop e c b off vs hb hc hr =>
  exact .rop e c b off vs (hi _ hb) (fun j x hj => by rw [<- hc j x hj]; exact heap_cell (hw _ hb)) (fun j x hj => (hr j x hj).mono hi hw)
 | nilsl => exact .nilsl
 | sl o lo len ob A cap hH hbox hlen hcap hA =>
  obtain ⟨ob', h1, h2, h3, h4, h5⟩ := hS o ob hH
  refine .sl o lo len ob' A cap h1 (by rw [h2, hbox]) (by omega) hcap ?_
  rcases hA with h | ⟨b, base, n, e1, e2, e3⟩
  ·exact .inl h
  ·exact .inr ⟨b, base, n, h5.trans e1, by rw [h3]; exact e2, by rw [h3]; exact e3⟩
 | asl o i c len esz ob A cap b base n hH hμ hlt hlen hcap hA =>
  obtain ⟨ob', h1, h2, h3, h4, h5⟩ := hS o ob hH
  exact .asl o i c len esz ob' A cap b base n h1 (h5.trans hμ) (by omega) (by omega) hcap (by rw [h3]; exact hA)
 | agg cs vs hl h h1 ih => exact .agg cs vs hl ih h1
 | tup cs vs hl h ih => exact .tup cs vs hl ih
 | fn f first cap as bs hl hl' h h' ih ih' => exact .fn f first cap as bs hl hl' ih ih'
 | gd b x v h hf ih => exact .gd b x v ih hf
 | ifc t x v h ih => exact .ifc t x v ih
 | mp o c ob b hH hμ =>
  obtain ⟨ob', h1, _, _, _, h5⟩ := hS o ob hH
  exact .mp o c ob' b h1 (h5.trans hμ)
theorem RV.imm_of {κ : Kz} {H : Hp} {w : World} {x : AV} {v : Value} (h : RV κ H w x v) (hx : x.isImm = true) : RI κ.im w x v := by
 cases h <;> first | assumption | simp [AV.isImm] at hx
end Go.Aw

/- States, what they stand for, and the moves that keep it: put, draw, alloc, store, forget. Own work. -/
namespace Go.Aw
open Go
def upd {α : Type} (f : Nat -> α) (d : Nat) (x : α) : Nat -> α := fun t => if t = d then x else f t
theorem upd_same {α : Type} (f : Nat -> α) (d : Nat) (x : α) : upd f d x d = x := by simp [upd]
theorem upd_ne {α : Type} (f : Nat -> α) {d t : Nat} (x : α) (h : t ≠ d) : upd f d x t = f t := by simp [upd, h]
structure St where
 ρ : Nat -> AV
 H : Hp
structure Cx where
 P : Program
 n : Nat
 w0 : World
 M : Nat -> Prop
 im0 : Nat -> Prop
 pin : Nat -> Option (Nat × Nat × Nat)
 G : Nat -> AV
 rd : Option Nat := none
 fzl : List Nat := []
 a0 : Array Value := #[]
def Cx.ok (cx : Cx) (d : Tmp) : Prop := d < cx.n /\ cx.fzl.contains d = false
structure Nb where
 n : Nat
 z : List Nat
 r : Bool
def Cx.nb (cx : Cx) : Nb := ⟨cx.n, cx.fzl, cx.rd.isSome⟩
def FR (r : Option Nat) : Fence := { fn := fun _ => True, depth := none, alive := false, round := r }
def Dfr (m : Nat) (w : World) : List Deferred -> Prop
 | [] => True
 | d :: ds => (∃ D, d = { target := .collected D, args := #[] } /\ m ≤ D /\ w.heap[D]? = some (.deferred (some [])) /\ ∀ d' ∈ ds, d' ≠ d) /\ Dfr m w ds
theorem Dfr.mono {m : Nat} {w w' : World} (h : ∀ D : Nat, m ≤ D -> w.heap[D]? = some (.deferred (some [])) -> w'.heap[D]? = some (.deferred (some []))) : ∀ {ds : List Deferred}, Dfr m w ds -> Dfr m w' ds
 | [], _ => trivial
 | _ :: _, ⟨⟨D, h1, h2, h3, h4⟩, h5⟩ => ⟨⟨D, h1, h2, h D h2 h3, h4⟩, Dfr.mono h h5⟩
def Fz (cx : Cx) (a : Act) : Prop := ∀ t, cx.fzl.contains t = true -> a.tmps.getD t undef = cx.a0.getD t undef
def ikc : IntKind -> Nat
 | .i8 => 0 | .i16 => 1 | .i32 => 2 | .i64 => 3 | .u8 => 4 | .u16 => 5 | .u32 => 6 | .u64 => 7
def keyV (c : Nat) : AV -> Option Value
 | .str s => if c = 0 then some (.string s) else none
 | .bool b => if c = 1 then some (.bool b) else none
 | .int k n => if c = ikc k + 2 then some (.int k n) else none
 | _ => none
def noCells : Obj -> Bool
 | .cells .. | .map .. => false
 | _ => true
def MpRep (κ : Kz) (H : Hp) (w : World) (o : Nat) (ob : Ob) : Prop :=
 ob.sz = 0 /\ ∃ (b c : Nat) (es : Array MapEntry) (clock : Nat), κ.μ o = some (b, c + 1, 0) /\ ¬ κ.im b /\ w.heap[b]? = some (.map es clock) /\ es.size = ob.es.length /\
  ∀ (i : Nat) (e : AV), ob.es[i]? = some e -> ∃ (k v : AV) (m : MapEntry), e = .tup [k, v] /\ es[i]? = some m /\ keyV c k = some m.key /\ RV κ H w v m.val
def ObRep (κ : Kz) (H : Hp) (w : World) (o : Nat) (ob : Ob) : Prop :=
 (∀ (i : Nat) (e : AV), ob.es[i]? = some e -> e.cells.length = ob.sz) /\
 ((κ.μ o = none /\ ob.box = false /\ ob.es = []) \/
  (∃ (b base : Nat) (cs : Array Value) (el : TypeId), κ.μ o = some (b, base, cs.size) /\ ¬ κ.im b /\ w.heap[b]? = some (.cells cs el (0, 0)) /\ base + ob.es.length * ob.sz ≤ cs.size /\
   ∀ (i : Nat) (e : AV) (j : Nat) (x : AV), ob.es[i]? = some e -> e.cells[j]? = some x -> ∃ v, cs[base + i * ob.sz + j]? = some v /\ RV κ H w x v /\ v.oneCell' = true) \/
  MpRep κ H w o ob)
theorem MpRep.mono {κ κ' : Kz} {H H' : Hp} {w w' : World} {o o' : Nat} {ob ob' : Ob} (f : AV -> AV) (h : MpRep κ H w o ob) (hsz : ob'.sz = ob.sz) (hes : ob'.es = ob.es.map f) (hf : ∀ k v c m, keyV c k = some m -> f (.tup [k, v]) = .tup [k, f v])
  (hμ : κ'.μ o' = κ.μ o) (him : ∀ x, κ.μ o = some x -> ¬ κ.im x.1 -> ¬ κ'.im x.1) (hw : ∀ x, κ.μ o = some x -> w'.heap[x.1]? = w.heap[x.1]?) (hm : ∀ {k x : AV} {v : Value}, .tup [k, x] ∈ ob.es -> RV κ H w x v -> RV κ' H' w' (f x) v) : MpRep κ' H' w' o' ob' := by
 obtain ⟨h0, b, c, es, clock, h1, h2, h3, h4, h5⟩ := h
 refine ⟨hsz.trans h0, b, c, es, clock, hμ.trans h1, him _ h1 h2, (hw _ h1).trans h3, by rw [hes, List.length_map]; exact h4, fun i e he => ?_⟩
 rw [hes, List.getElem?_map] at he
 obtain ⟨e0, he0, rfl⟩ := Option.map_eq_some_iff.1 he
 obtain ⟨k, v, m, rfl, g1, g2, g3⟩ := h5 i e0 he0
 exact ⟨k, f v, m, hf k v c _ g2, g1, g2, hm (List.mem_of_getElem? he0) g3⟩
theorem MpRep.same {κ κ' : Kz} {H H' : Hp} {w w' : World} {o : Nat} {ob : Ob} (h : MpRep κ H w o ob)
  (hμ : κ'.μ o = κ.μ o) (him : ∀ x, κ.μ o = some x -> ¬ κ.im x.1 -> ¬ κ'.im x.1) (hw : ∀ x, κ.μ o = some x -> w'.heap[x.1]? = w.heap[x.1]?) (hm : ∀ {x : AV} {v : Value}, RV κ H w x v -> RV κ' H' w' x v) : MpRep κ' H' w' o ob :=
 h.mono (fun x => x) rfl (by simp) (fun _ _ _ _ _ => rfl) hμ him hw fun _ => hm
theorem MpRep.lies {κ : Kz} {H : Hp} {w : World} {o : Nat} {ob : Ob} (h : MpRep κ H w o ob) {x : Nat × Nat × Nat} (hx : κ.μ o = some x) : ∃ es clock c, w.heap[x.1]? = some (.map es clock) /\ x.2 = (c + 1, 0) /\ ¬ κ.im x.1 := by
 obtain ⟨_, b, c, es, clock, h1, h2, h3, _⟩ := h
 rw [h1] at hx
 cases hx
 exact ⟨es, clock, c, h3, rfl, h2⟩
theorem MpRep.no_cell {κ : Kz} {H : Hp} {w : World} {o i j : Nat} {ob : Ob} {e x : AV} (h : MpRep κ H w o ob) (he : ob.es[i]? = some e) (hx : e.cells[j]? = some x) : False := by
 obtain ⟨_, b, c, es, clock, _, _, _, _, h5⟩ := h
 obtain ⟨k, v, m, rfl, _⟩ := h5 i e he
 simp [AV.cells] at hx
structure RelK (cx : Cx) (κ : Kz) (s : St) (a : Act) (w : World) : Prop where
 rep : ∀ o ob, s.H o = some ob -> ObRep κ s.H w o ob
 inj : ∀ o o' ob ob' x x', s.H o = some ob -> s.H o' = some ob' -> κ.μ o = some x -> κ.μ o' = some x' -> x.1 = x'.1 -> o = o'
 env : ∀ t, RV κ s.H w (s.ρ t) (a.tmps.getD t undef)
 size : a.tmps.size = cx.n
 defers : Dfr cx.w0.heap.size w a.defers /\ Fz cx a
 os : w.os = cx.w0.os
 tape : w.tape = cx.w0.tape
 output : w.output = cx.w0.output
 le : cx.w0.heap.size ≤ w.heap.size
 block : ∀ b, b < cx.w0.heap.size -> ¬ cx.M b -> w.heap[b]? = cx.w0.heap[b]?
 own : ∀ o ob x, s.H o = some ob -> κ.μ o = some x -> cx.M x.1 \/ cx.w0.heap.size ≤ x.1
 im0 : ∀ b, cx.im0 b -> κ.im b
 imlt : ∀ b, κ.im b -> b < w.heap.size
 imnew : ∀ b, κ.im b -> cx.im0 b \/ cx.M b \/ cx.w0.heap.size ≤ b
 pin : ∀ o ob x, cx.pin o = some x -> s.H o = some ob -> κ.μ o = some x
 pinlo : ∀ o x, cx.pin o = some x -> 100000 ≤ o
 glob : ∀ g, RV κ s.H w (cx.G g) (.pointer (some ⟨g, 0, none⟩))
def Rel (cx : Cx) (s : St) (a : Act) (w : World) : Prop := ∃ κ, RelK cx κ s a w
section
variable {cx : Cx} {κ : Kz} {s : St} {a : Act} {w : World}
theorem RelK.noD (R : RelK cx κ s a w) {o : Nat} {ob : Ob} {x : Nat × Nat × Nat} (ho : s.H o = some ob) (hx : κ.μ o = some x) : x.1 < w.heap.size /\ ∀ oj, w.heap[x.1]? = some oj -> noCells oj = false := by
 obtain ⟨_, h⟩ := R.rep o ob ho
 rcases h with ⟨h, _⟩ | ⟨b, base, cs, el, e1, _, e3, _⟩ | h
 ·rw [h] at hx; cases hx
 ·rw [e1] at hx; cases hx; exact ⟨(Array.getElem?_eq_some_iff.1 e3).1, fun oj h => by simp only at h; rw [e3] at h; cases h; rfl⟩
 ·obtain ⟨es, clock, c, h3, _⟩ := h.lies hx
  exact ⟨(Array.getElem?_eq_some_iff.1 h3).1, fun oj h => by rw [h3] at h; cases h; rfl⟩
theorem getD_put (a : Act) (d t : Nat) (v : Value) : (a.put (some d) v).tmps.getD t undef = if t = d /\ d < a.tmps.size then v else a.tmps.getD t undef := by
 simp only [Act.put, Array.getD_eq_getD_getElem?, Array.getElem?_setIfInBounds]
 by_cases h : d = t
 ·subst h
  by_cases hd : d < a.tmps.size <;> simp [hd]
 ·have : ¬ t = d := fun e => h e.symm
  simp [h, this]
theorem RelK.put (R : RelK cx κ s a w) {x : AV} {v : Value} (d : Nat) (hd : cx.ok d) (h : RV κ s.H w x v) : RelK cx κ { s with ρ := upd s.ρ d x } (a.put (some d) v) w where
 rep := R.rep
 inj := R.inj
 env t := by
  rw [getD_put]
  by_cases e : t = d
  ·subst e
   have : t < a.tmps.size := by rw [R.size]; exact hd.1
   simp only [this, and_self, if_true, upd_same]
   exact h
  ·simp only [e, false_and, if_false, upd_ne _ _ e]
   exact R.env t
 size := by simp [Act.put, R.size]
 defers := ⟨R.defers.1, fun t ht => by
  rw [getD_put]
  by_cases e : t = d
  ·subst e
   rw [hd.2] at ht
   cases ht
  ·simp only [e, false_and, if_false]
   exact R.defers.2 t ht⟩
 os := R.os
 tape := R.tape
 output := R.output
 le := R.le
 block := R.block
 own := R.own
 im0 := R.im0
 imlt := R.imlt
 imnew := R.imnew
 pin := R.pin
 pinlo := R.pinlo
 glob := R.glob
theorem RelK.heap_same (R : RelK cx κ s a w) {w' : World} (hh : w'.heap = w.heap) (h1 : w'.os = w.os) (h2 : w'.tape = w.tape) (h3 : w'.output = w.output) : RelK cx κ s a w' := by
 have hm : ∀ {x : AV} {v : Value}, RV κ s.H w x v -> RV κ s.H w' x v := fun h => h.mono (fun _ h => h) (fun b _ => by rw [hh]) (Same.refl _ _)
 refine ⟨fun o ob ho => ?_, R.inj, fun t => hm (R.env t), R.size, ⟨R.defers.1.mono fun D _ => by rw [hh]; exact id, R.defers.2⟩, h1.trans R.os, h2.trans R.tape, h3.trans R.output, by rw [hh]; exact R.le,
  fun b hb hM => by rw [hh]; exact R.block b hb hM, R.own, R.im0, fun b hb => by rw [hh]; exact R.imlt b hb, R.imnew, R.pin, R.pinlo, fun g => hm (R.glob g)⟩
 obtain ⟨h0, h⟩ := R.rep o ob ho
 refine ⟨h0, ?_⟩
 rcases h with h | ⟨b, base, cs, el, e1, e2, e3, e4, e5⟩ | h
 ·exact .inl h
 ·refine .inr (.inl ⟨b, base, cs, el, e1, e2, by rw [hh]; exact e3, e4, fun i e j x hi hj => ?_⟩)
  obtain ⟨v, g1, g2, g3⟩ := e5 i e j x hi hj
  exact ⟨v, g1, hm g2, g3⟩
 ·exact .inr (.inr (h.same rfl (fun _ _ h => h) (fun _ _ => by rw [hh]) hm))
theorem RelK.drew (R : RelK cx κ s a w) : RelK cx κ s a { w with drawn := w.drawn + 1 } := R.heap_same rfl rfl rfl rfl
theorem RelK.alloc (R : RelK cx κ s a w) (d : Nat) (hd : d < 100000) (hn : s.H d = none) (ob : Ob) (cs : Array Value) (el : TypeId) (hsz : ob.es.length * ob.sz ≤ cs.size)
  (hz : ∀ (i : Nat) (e : AV), ob.es[i]? = some e -> e.cells.length = ob.sz)
  (hc : ∀ (i : Nat) (e : AV) (j : Nat) (x : AV), ob.es[i]? = some e -> e.cells[j]? = some x -> ∃ v, cs[i * ob.sz + j]? = some v /\ RV κ s.H w x v /\ v.oneCell' = true) :
  RelK cx { κ with μ := upd κ.μ d (some (w.heap.size, 0, cs.size)) } { s with H := upd s.H d (some ob) } a (w.alloc (.cells cs el)) := by
 have hold : ∀ b, b < w.heap.size -> (w.alloc (.cells cs el)).heap[b]? = w.heap[b]? := fun b hb => by
  simp only [World.alloc, Array.getElem?_push]
  rw [if_neg (by omega)]
 have hS : Same κ { κ with μ := upd κ.μ d (some (w.heap.size, 0, cs.size)) } s.H (upd s.H d (some ob)) := fun o ob' ho => by
  have hne : o ≠ d := fun e => by rw [e, hn] at ho; cases ho
  exact ⟨ob', by rw [upd_ne _ _ hne]; exact ho, rfl, rfl, Nat.le_refl _, upd_ne _ _ hne⟩
 have hm : ∀ {x : AV} {v : Value}, RV κ s.H w x v -> RV { κ with μ := upd κ.μ d (some (w.heap.size, 0, cs.size)) } (upd s.H d (some ob)) (w.alloc (.cells cs el)) x v := fun h =>
  RV.mono (κ := κ) (κ' := { κ with μ := upd κ.μ d (some (w.heap.size, 0, cs.size)) }) (fun _ h => h) (fun b hb => hold b (R.imlt b hb)) hS h
 refine ⟨fun o ob' ho => ?_, fun o o' ob1 ob2 x x' ho ho' hx hx' he => ?_, fun t => hm (R.env t), R.size, ⟨R.defers.1.mono fun D _ h => by rw [hold D (Array.getElem?_eq_some_iff.1 h).1]; exact h, R.defers.2⟩, R.os, R.tape, R.output, by simp only [World.size_alloc]; have := R.le; omega,
  fun b hb hM => by rw [hold b (Nat.lt_of_lt_of_le hb R.le)]; exact R.block b hb hM, fun o ob' x ho hx => ?_, R.im0, fun b hb => by simp only [World.size_alloc]; have := R.imlt b hb; omega, R.imnew,
  fun o ob' x hp ho => ?_, R.pinlo, fun g => hm (R.glob g)⟩
 ·by_cases hod : o = d
  ·subst hod
   simp only [upd_same, Option.some.injEq] at ho
   subst ho
   refine ⟨hz, .inr (.inl ⟨w.heap.size, 0, cs, el, upd_same _ _ _, fun him => Nat.lt_irrefl _ (R.imlt _ him), by simp only [World.alloc, Array.getElem?_push_size], by omega, fun i e j x hi hj => ?_⟩)⟩
   obtain ⟨v, g1, g2, g3⟩ := hc i e j x hi hj
   exact ⟨v, by rw [Nat.zero_add]; exact g1, hm g2, g3⟩
  ·simp only [upd_ne _ _ hod] at ho
   obtain ⟨h0, h⟩ := R.rep o ob' ho
   refine ⟨h0, ?_⟩
   rcases h with ⟨h1, h2, h3⟩ | ⟨b, base, cs', el', e1, e2, e3, e4, e5⟩ | h
   ·exact .inl ⟨by show upd κ.μ d _ o = none; rw [upd_ne _ _ hod]; exact h1, h2, h3⟩
   ·refine .inr (.inl ⟨b, base, cs', el', by show upd κ.μ d _ o = _; rw [upd_ne _ _ hod]; exact e1, e2, ?_, e4, fun i e j x hi hj => ?_⟩)
    ·rw [hold b (Array.getElem?_eq_some_iff.1 e3).1]; exact e3
    ·obtain ⟨v, g1, g2, g3⟩ := e5 i e j x hi hj
     exact ⟨v, g1, hm g2, g3⟩
   ·exact .inr (.inr (h.same (upd_ne _ _ hod) (fun _ _ h => h) (fun x hx => hold _ (R.noD ho hx).1) hm))
 ·have key : ∀ (o : Nat) (ob : Ob) (x : Nat × Nat × Nat), o ≠ d -> s.H o = some ob -> κ.μ o = some x -> x.1 < w.heap.size := fun o ob x _ ho hx => by
   exact (R.noD ho hx).1
  by_cases h1 : o = d <;> by_cases h2 : o' = d
  ·rw [h1, h2]
  ·subst h1
   simp only [upd_ne _ _ h2] at ho' hx'
   simp only [upd_same, Option.some.injEq] at hx
   have := key o' ob2 x' h2 ho' hx'
   subst hx
   simp only at he
   omega
  ·subst h2
   simp only [upd_ne _ _ h1] at ho hx
   simp only [upd_same, Option.some.injEq] at hx'
   have := key o ob1 x h1 ho hx
   subst hx'
   simp only at he
   omega
  ·simp only [upd_ne _ _ h1] at ho hx
   simp only [upd_ne _ _ h2] at ho' hx'
   exact R.inj o o' ob1 ob2 x x' ho ho' hx hx' he
 ·by_cases h1 : o = d
  ·subst h1
   simp only [upd_same, Option.some.injEq] at hx
   subst hx
   exact .inr R.le
  ·simp only [upd_ne _ _ h1] at ho hx
   exact R.own o ob' x ho hx
 ·have h1 : o ≠ d := fun e => by have := R.pinlo o x hp; omega
  simp only [upd_ne _ _ h1] at ho
  show upd κ.μ d _ o = _
  rw [upd_ne _ _ h1]
  exact R.pin o ob' x hp ho
theorem RelK.allocMap (R : RelK cx κ s a w) (d c : Nat) (hd : d < 100000) (hn : s.H d = none) :
  RelK cx { κ with μ := upd κ.μ d (some (w.heap.size, c + 1, 0)) } { s with H := upd s.H d (some ⟨true, 0, []⟩) } a (w.alloc (.map #[] 0)) := by
 have hold : ∀ b, b < w.heap.size -> (w.alloc (.map #[] 0)).heap[b]? = w.heap[b]? := fun b hb => by
  simp only [World.alloc, Array.getElem?_push]
  rw [if_neg (by omega)]
 have hS : Same κ { κ with μ := upd κ.μ d (some (w.heap.size, c + 1, 0)) } s.H (upd s.H d (some ⟨true, 0, []⟩)) := fun o ob' ho => by
  have hne : o ≠ d := fun e => by rw [e, hn] at ho; cases ho
  exact ⟨ob', by rw [upd_ne _ _ hne]; exact ho, rfl, rfl, Nat.le_refl _, upd_ne _ _ hne⟩
 have hm : ∀ {x : AV} {v : Value}, RV κ s.H w x v -> RV { κ with μ := upd κ.μ d (some (w.heap.size, c + 1, 0)) } (upd s.H d (some ⟨true, 0, []⟩)) (w.alloc (.map #[] 0)) x v := fun h =>
  RV.mono (κ := κ) (κ' := { κ with μ := upd κ.μ d (some (w.heap.size, c + 1, 0)) }) (fun _ h => h) (fun b hb => hold b (R.imlt b hb)) hS h
 refine ⟨fun o ob' ho => ?_, fun o o' ob1 ob2 x x' ho ho' hx hx' he => ?_, fun t => hm (R.env t), R.size, ⟨R.defers.1.mono fun D _ h => by rw [hold D (Array.getElem?_eq_some_iff.1 h).1]; exact h, R.defers.2⟩, R.os, R.tape, R.output, by simp only [World.size_alloc]; have := R.le; omega,
  fun b hb hM => by rw [hold b (Nat.lt_of_lt_of_le hb R.le)]; exact R.block b hb hM, fun o ob' x ho hx => ?_, R.im0, fun b hb => by simp only [World.size_alloc]; have := R.imlt b hb; omega, R.imnew,
  fun o ob' x hp ho => ?_, R.pinlo, fun g => hm (R.glob g)⟩
 ·by_cases hod : o = d
  ·subst hod
   simp only [upd_same, Option.some.injEq] at ho
   subst ho
   exact ⟨by simp, .inr (.inr ⟨rfl, w.heap.size, c, #[], 0, upd_same _ _ _, fun him => Nat.lt_irrefl _ (R.imlt _ him), by simp only [World.alloc, Array.getElem?_push_size], rfl, by simp⟩)⟩
  ·simp only [upd_ne _ _ hod] at ho
   obtain ⟨h0, h⟩ := R.rep o ob' ho
   refine ⟨h0, ?_⟩
   rcases h with ⟨h1, h2, h3⟩ | ⟨b, base, cs', el', e1, e2, e3, e4, e5⟩ | h
   ·exact .inl ⟨by show upd κ.μ d _ o = none; rw [upd_ne _ _ hod]; exact h1, h2, h3⟩
   ·refine .inr (.inl ⟨b, base, cs', el', by show upd κ.μ d _ o = _; rw [upd_ne _ _ hod]; exact e1, e2, ?_, e4, fun i e j x hi hj => ?_⟩)
    ·rw [hold b (Array.getElem?_eq_some_iff.1 e3).1]; exact e3
    ·obtain ⟨v, g1, g2, g3⟩ := e5 i e j x hi hj
     exact ⟨v, g1, hm g2, g3⟩
   ·exact .inr (.inr (h.same (upd_ne _ _ hod) (fun _ _ h => h) (fun x hx => hold _ (R.noD ho hx).1) hm))
 ·have key : ∀ (o : Nat) (ob : Ob) (x : Nat × Nat × Nat), o ≠ d -> s.H o = some ob -> κ.μ o = some x -> x.1 < w.heap.size := fun o ob x _ ho hx => by
   exact (R.noD ho hx).1
  by_cases h1 : o = d <;> by_cases h2 : o' = d
  ·rw [h1, h2]
  ·subst h1
   simp only [upd_ne _ _ h2] at ho' hx'
   simp only [upd_same, Option.some.injEq] at hx
   have := key o' ob2 x' h2 ho' hx'
   subst hx
   simp only at he
   omega
  ·subst h2
   simp only [upd_ne _ _ h1] at ho hx
   simp only [upd_same, Option.some.injEq] at hx'
   have := key o ob1 x h1 ho hx
   subst hx'
   simp only at he
   omega
  ·simp only [upd_ne _ _ h1] at ho hx
   simp only [upd_ne _ _ h2] at ho' hx'
   exact R.inj o o' ob1 ob2 x x' ho ho' hx hx' he
 ·by_cases h1 : o = d
  ·subst h1
   simp only [upd_same, Option.some.injEq] at hx
   subst hx
   exact .inr R.le
  ·simp only [upd_ne _ _ h1] at ho hx
   exact R.own o ob' x ho hx
 ·have h1 : o ≠ d := fun e => by have := R.pinlo o x hp; omega
  simp only [upd_ne _ _ h1] at ho
  show upd κ.μ d _ o = _
  rw [upd_ne _ _ h1]
  exact R.pin o ob' x hp ho
end
end Go.Aw

/- Stores; objects that are forgotten; objects that nobody writes any more. Own work. -/
namespace Go.Aw
open Go
def put1 (e : AV) (c : Nat) (x : AV) : AV :=
 match e with
 | .agg cs => .agg (cs.set c x)
 | _ => x
theorem cells_put1 {e x y : AV} {c : Nat} (hx : x.cells = [x]) (h : e.cells[c]? = some y) : (put1 e c x).cells = e.cells.set c x := by
 unfold put1
 split
 ·rfl
 ·rename_i h0
  have hc : e.cells = [e] := by
   cases e <;> first | rfl | exact absurd rfl (h0 _) | (simp [AV.cells] at h; done)
  rw [hc] at h ⊢
  have : c = 0 := by
   have := (List.getElem?_eq_some_iff.1 h).1
   simp at this
   exact this
  subst this
  simpa using hx
theorem flat_inj {i i' c j sz : Nat} (h : i * sz + c = i' * sz + j) (hc : c < sz) (hj : j < sz) : i = i' /\ c = j := by
 have h1 : (i * sz + c) / sz = i := by
  rw [Nat.add_comm, Nat.add_mul_div_right _ _ (by omega), Nat.div_eq_of_lt hc, Nat.zero_add]
 have h2 : (i' * sz + j) / sz = i' := by
  rw [Nat.add_comm, Nat.add_mul_div_right _ _ (by omega), Nat.div_eq_of_lt hj, Nat.zero_add]
 have h3 : i = i' := by rw [<- h1, <- h2, h]
 subst h3
 omega
theorem setCell_heap_same {w : World} {b k : Nat} {cs : Array Value} {el : TypeId} {fr : Nat × Nat} (v : Value) (h : w.heap[b]? = some (.cells cs el fr)) :
  (w.setCell ⟨b, k, none⟩ v).heap[b]? = some (.cells (cs.setIfInBounds k v) el fr) := by
 simp only [World.setCell, Array.getElem?_modify, if_true, h, Option.map_some]
 rfl
theorem setCell_heap_ne {w : World} {b b' k : Nat} (v : Value) (h : b' ≠ b) : (w.setCell ⟨b, k, none⟩ v).heap[b']? = w.heap[b']? := by
 simp only [World.setCell, Array.getElem?_modify]
 rw [if_neg (fun e => h e.symm)]
section
variable {cx : Cx} {κ : Kz} {s : St} {a : Act} {w : World}
theorem RelK.at_cell (R : RelK cx κ s a w) {o i c b base n : Nat} {ob : Ob} {e x : AV} (hH : s.H o = some ob) (hμ : κ.μ o = some (b, base, n)) (he : ob.es[i]? = some e) (hx : e.cells[c]? = some x) :
  ∃ v, w.cell? ⟨b, base + i * ob.sz + c, none⟩ = some v /\ RV κ s.H w x v /\ v.oneCell' = true /\ w.frozen? ⟨b, base + i * ob.sz + c, none⟩ = false := by
 obtain ⟨h0, h⟩ := R.rep o ob hH
 rcases h with ⟨h1, _⟩ | ⟨b', base', cs, el, e1, e2, e3, e4, e5⟩ | h
 ·rw [h1] at hμ; cases hμ
 ·rw [e1] at hμ
  simp only [Option.some.injEq, Prod.mk.injEq] at hμ
  obtain ⟨rfl, rfl, rfl⟩ := hμ
  obtain ⟨v, g1, g2, g3⟩ := e5 i e c x he hx
  refine ⟨v, ?_, g2, g3, ?_⟩
  ·simp only [World.cell?, e3]
   exact g1
  ·simp [World.frozen?, e3]
 ·exact (h.no_cell he hx).elim
theorem RelK.setCell (R : RelK cx κ s a w) {o i c b base n : Nat} {ob : Ob} {e x0 x : AV} {v : Value} (hH : s.H o = some ob) (hμ : κ.μ o = some (b, base, n)) (he : ob.es[i]? = some e)
  (hx0 : e.cells[c]? = some x0) (hx : x.cells = [x]) (hv : RV κ s.H w x v) (h1 : v.oneCell' = true) :
  RelK cx κ { s with H := upd s.H o (some { ob with es := ob.es.set i (put1 e c x) }) } a (w.setCell ⟨b, base + i * ob.sz + c, none⟩ v) := by
 obtain ⟨h0, h⟩ := R.rep o ob hH
 rcases h with ⟨hno, _⟩ | ⟨b', base', cs, el, e1, e2, e3, e4, e5⟩ | h
 ·rw [hno] at hμ; cases hμ
 case inr.inr => exact (h.no_cell he hx0).elim
 have hμ' := hμ
 rw [e1] at hμ'
 simp only [Option.some.injEq, Prod.mk.injEq] at hμ'
 obtain ⟨rfl, rfl, rfl⟩ := hμ'
 have hcsz : c < ob.sz := by
  rw [<- h0 i e he]
  exact (List.getElem?_eq_some_iff.1 hx0).1
 have hpc : (put1 e c x).cells = e.cells.set c x := cells_put1 hx hx0
 have hother : ∀ b2, b2 ≠ b' -> (w.setCell ⟨b', base' + i * ob.sz + c, none⟩ v).heap[b2]? = w.heap[b2]? := fun b2 hb => setCell_heap_ne v hb
 have hS : Same κ κ s.H (upd s.H o (some { ob with es := ob.es.set i (put1 e c x) })) := fun o2 ob2 ho => by
  by_cases hoo : o2 = o
  ·subst hoo
   rw [hH] at ho
   cases ho
   exact ⟨_, upd_same _ _ _, rfl, rfl, by simp, rfl⟩
  ·exact ⟨ob2, by rw [upd_ne _ _ hoo]; exact ho, rfl, rfl, Nat.le_refl _, rfl⟩
 have hm : ∀ {x : AV} {u : Value}, RV κ s.H w x u -> RV κ (upd s.H o (some { ob with es := ob.es.set i (put1 e c x) })) (w.setCell ⟨b', base' + i * ob.sz + c, none⟩ v) x u := by
  intro x' u h
  exact RV.mono (fun _ h => h) (fun b2 hb => hother b2 (fun e => e2 (e ▸ hb))) (fun o2 ob2 ho => by
   by_cases hoo : o2 = o
   ·subst hoo
    rw [hH] at ho
    cases ho
    exact ⟨_, upd_same _ _ _, rfl, rfl, by simp, rfl⟩
   ·exact ⟨ob2, by rw [upd_ne _ _ hoo]; exact ho, rfl, rfl, Nat.le_refl _, rfl⟩) h
 have hm2 : ∀ {y : AV} {u : Value}, RV κ s.H w y u -> RV κ (upd s.H o (some { ob with es := ob.es.set i (put1 e c x) })) (w.setCell ⟨b', base' + i * ob.sz + c, none⟩ v) y u := fun h =>
  RV.mono (fun _ h => h) (fun b2 hb => hother b2 (fun e => e2 (e ▸ hb))) hS h
 clear hm
 refine ⟨fun o2 ob2 ho => ?_, fun o1 o2 ob1 ob2 y y' ho1 ho2 hy hy' hyy => ?_, fun t => hm2 (R.env t), R.size, ⟨R.defers.1.mono fun D _ h => by rw [hother D fun e => by rw [e, e3] at h; cases h]; exact h, R.defers.2⟩, R.os, R.tape, R.output, by simp only [World.size_setCell]; exact R.le,
  fun b2 hb hM => ?_, fun o2 ob2 y ho hy => ?_, R.im0, fun b2 hb => by simp only [World.size_setCell]; exact R.imlt b2 hb, R.imnew, fun o2 ob2 y hp ho => ?_, R.pinlo, fun g => hm2 (R.glob g)⟩
 ·by_cases hoo : o2 = o
  ·subst hoo
   simp only [upd_same, Option.some.injEq] at ho
   subst ho
   refine ⟨fun i' e' hi' => ?_, .inr (.inl ⟨b', base', cs.setIfInBounds (base' + i * ob.sz + c) v, el, by rw [Array.size_setIfInBounds]; exact e1, e2, setCell_heap_same v e3, by simpa using e4, fun i' e' j y hi' hj => ?_⟩)⟩
   ·simp only [List.getElem?_set] at hi'
    split at hi'
    ·split at hi'
     ·cases hi'
      rw [hpc, List.length_set]
      exact h0 i e he
     ·cases hi'
    ·exact h0 i' e' hi'
   ·simp only [List.getElem?_set] at hi'
    by_cases hii : i = i'
    ·subst hii
     have hlt : i < ob.es.length := (List.getElem?_eq_some_iff.1 he).1
     simp only [if_true, hlt, Option.some.injEq] at hi'
     subst hi'
     rw [hpc] at hj
     simp only [List.getElem?_set] at hj
     by_cases hcj : c = j
     ·subst hcj
      have hlc : c < e.cells.length := (List.getElem?_eq_some_iff.1 hx0).1
      simp only [if_true, hlc, Option.some.injEq] at hj
      subst hj
      refine ⟨v, ?_, hm2 hv, h1⟩
      obtain ⟨u, g1, _⟩ := e5 i e c x0 he hx0
      have := (Array.getElem?_eq_some_iff.1 g1).1
      simp [this]
     ·rw [if_neg hcj] at hj
      obtain ⟨u, g1, g2, g3⟩ := e5 i e j y he hj
      refine ⟨u, ?_, hm2 g2, g3⟩
      show (cs.setIfInBounds (base' + i * ob.sz + c) v)[base' + i * ob.sz + j]? = some u
      rw [Array.getElem?_setIfInBounds_ne (by omega)]
      exact g1
    ·rw [if_neg hii] at hi'
     obtain ⟨u, g1, g2, g3⟩ := e5 i' e' j y hi' hj
     refine ⟨u, ?_, hm2 g2, g3⟩
     have hjsz : j < ob.sz := by
      rw [<- h0 i' e' hi']
      exact (List.getElem?_eq_some_iff.1 hj).1
     show (cs.setIfInBounds (base' + i * ob.sz + c) v)[base' + i' * ob.sz + j]? = some u
     rw [Array.getElem?_setIfInBounds_ne (fun he' => hii (flat_inj (show i * ob.sz + c = i' * ob.sz + j by omega) hcsz hjsz).1)]
     exact g1
  ·simp only [upd_ne _ _ hoo] at ho
   obtain ⟨k0, k⟩ := R.rep o2 ob2 ho
   refine ⟨k0, ?_⟩
   rcases k with k1 | ⟨b2, base2, cs2, el2, f1, f2, f3, f4, f5⟩ | k
   ·exact .inl k1
   ·have hne : b2 ≠ b' := fun hb => hoo (R.inj o2 o ob2 ob _ _ ho hH f1 e1 hb)
    refine .inr (.inl ⟨b2, base2, cs2, el2, f1, f2, by rw [hother b2 hne]; exact f3, f4, fun i' e' j y hi' hj => ?_⟩)
    obtain ⟨u, g1, g2, g3⟩ := f5 i' e' j y hi' hj
    exact ⟨u, g1, hm2 g2, g3⟩
   ·exact .inr (.inr (k.same rfl (fun _ _ h => h) (fun x hx => hother _ fun hb => hoo (R.inj o2 o ob2 ob _ _ ho hH hx e1 hb)) hm2))
 ·have key : ∀ (o3 : Nat) (ob3 : Ob), upd s.H o (some { ob with es := ob.es.set i (put1 e c x) }) o3 = some ob3 -> ∃ ob4, s.H o3 = some ob4 := fun o3 ob3 h => by
   by_cases h3 : o3 = o
   ·subst h3; exact ⟨ob, hH⟩
   ·rw [upd_ne _ _ h3] at h; exact ⟨ob3, h⟩
  obtain ⟨_, k1⟩ := key _ _ ho1
  obtain ⟨_, k2⟩ := key _ _ ho2
  exact R.inj o1 o2 _ _ y y' k1 k2 hy hy' hyy
 ·rw [hother b2 (fun e => ?_)]
  ·exact R.block b2 hb hM
  ·subst e
   rcases R.own o ob _ hH e1 with h | h
   ·exact hM h
   ·simp only at h; omega
 ·by_cases hoo : o2 = o
  ·subst hoo; exact R.own o2 ob y hH hy
  ·simp only [upd_ne _ _ hoo] at ho; exact R.own o2 ob2 y ho hy
 ·by_cases hoo : o2 = o
  ·subst hoo; exact R.pin o2 ob y hp hH
  ·simp only [upd_ne _ _ hoo] at ho; exact R.pin o2 ob2 y hp ho
end
end Go.Aw

/- Objects that are forgotten, that nobody writes any more, or that get another name. Own work. -/
namespace Go.Aw
open Go
def sub (o : Nat) (fs : Nat -> Nat -> AV) (fp : Nat -> Nat -> AV) : AV -> AV
 | .ptr o' i c => if o' = o then fp i c else .ptr o' i c
 | .sl o' lo len => if o' = o then fs lo len else .sl o' lo len
 | .asl o' i c len esz => if o' = o then .junk else .asl o' i c len esz
 | .mp o' c => if o' = o then .junk else .mp o' c
 | .agg cs => .agg (subs o fs fp cs)
 | .tup cs => .tup (subs o fs fp cs)
 | .fn f a b => .fn f (subs o fs fp a) (subs o fs fp b)
 | .gd b v => .gd b (sub o fs fp v)
 | .ifc t v => .ifc t (sub o fs fp v)
 | .junk => .junk
 | .int k n => .int k n
 | .bool b => .bool b
 | .str s => .str s
 | .nilp => .nilp
 | .rop e c => .rop e c
 | .nilsl => .nilsl
 | .ro sz es => .ro sz es
 | .nilf => .nilf
 | .nili => .nili
 | .nilm => .nilm
where
 subs (o : Nat) (fs : Nat -> Nat -> AV) (fp : Nat -> Nat -> AV) : List AV -> List AV
  | [] => []
  | x :: r => sub o fs fp x :: subs o fs fp r
theorem subs_eq (o : Nat) (fs fp : Nat -> Nat -> AV) (l : List AV) : sub.subs o fs fp l = l.map (sub o fs fp) := by
 induction l with
 | nil => rfl
 | cons x r ih => simp [sub.subs, ih]
theorem cells_sub {o : Nat} {fs fp : Nat -> Nat -> AV} (hs : ∀ i j, (fs i j).cells = [fs i j]) (hp : ∀ i j, (fp i j).cells = [fp i j]) (e : AV) : (sub o fs fp e).cells = e.cells.map (sub o fs fp) := by
 cases e with
 | ptr o' i c => simp only [sub]; split <;> simp_all [AV.cells, sub]
 | sl o' lo len => simp only [sub]; split <;> simp_all [AV.cells, sub]
 | asl o' i c len esz => simp only [sub]; split <;> simp_all [AV.cells, sub]
 | mp o' c => simp only [sub]; split <;> simp_all [AV.cells, sub]
 | agg cs => simp [sub, subs_eq, AV.cells]
 | _ => simp [sub, AV.cells]
theorem RV.sub {κ κ' : Kz} {H H' : Hp} {w : World} {o : Nat} {fs fp : Nat -> Nat -> AV} (hi : ∀ b, κ.im b -> κ'.im b)
  (hs : ∀ lo len v, RV κ H w (.sl o lo len) v -> RV κ' H' w (fs lo len) v) (hp : ∀ i c v, RV κ H w (.ptr o i c) v -> RV κ' H' w (fp i c) v)
  (hS : ∀ p ob, p ≠ o -> H p = some ob -> ∃ ob', H' p = some ob' /\ ob'.box = ob.box /\ ob'.sz = ob.sz /\ ob.es.length ≤ ob'.es.length /\ κ'.μ p = κ.μ p)
  {x : AV} {v : Value} (h : RV κ H w x v) : RV κ' H' w (sub o fs fp x) v := by
 induction h with
 | junk v => exact .junk v
 | imm h => cases h <;> exact .imm (RI.mono hi (fun _ _ => rfl) (by first | exact .int _ _ | exact .bool _ | exact .str _ | exact .nilp | exact .nilf | exact .nili | exact .nilm | (constructor <;> assumption)))
 | ptr p i c ob b base n hH hμ hlt =>
  simp only [Aw.sub]
  split
  ·rename_i e; subst e; exact hp i c _ (.ptr p i c ob b base n hH hμ hlt)
  ·rename_i e
   obtain ⟨ob', h1, h2, h3, h4, h5⟩ := hS p ob e hH
   have := RV.ptr (κ := κ') (H := H') (w := w) p i c ob' b base n h1 (h5.trans hμ) (by omega)
   rwa [h3] at this
 | rop e c b off vs hb hc hr => exact .rop e c b off vs (hi _ hb) hc (fun j x hj => (hr j x hj).mono hi (fun _ _ => rfl))
 | nilsl => exact .nilsl
 | sl p lo len ob A cap hH hbox hlen hcap hA =>
  simp only [Aw.sub]
  split
  ·rename_i e; subst e; exact hs lo len _ (.sl p lo len ob A cap hH hbox hlen hcap hA)
  ·rename_i e
   obtain ⟨ob', h1, h2, h3, h4, h5⟩ := hS p ob e hH
   refine .sl p lo len ob' A cap h1 (by rw [h2, hbox]) (by omega) hcap ?_
   rcases hA with h | ⟨b, base, n, e1, e2, e3⟩
   ·exact .inl h
   ·exact .inr ⟨b, base, n, h5.trans e1, by rw [h3]; exact e2, by rw [h3]; exact e3⟩
 | asl p i c len esz ob A cap b base n hH hμ hlt hlen hcap hA =>
  simp only [Aw.sub]
  split
  ·exact .junk _
  ·rename_i e
   obtain ⟨ob', h1, h2, h3, h4, h5⟩ := hS p ob e hH
   exact .asl p i c len esz ob' A cap b base n h1 (h5.trans hμ) (by omega) (by omega) hcap (by rw [h3]; exact hA)
 | agg cs vs hl h h1 ih =>
  simp only [Aw.sub, subs_eq]
  refine .agg _ vs (by simpa using hl) (fun i x v hx hv => ?_) h1
  rw [List.getElem?_map] at hx
  obtain ⟨y, hy, rfl⟩ := Option.map_eq_some_iff.1 hx
  exact ih i y v hy hv
 | tup cs vs hl h ih =>
  simp only [Aw.sub, subs_eq]
  refine .tup _ vs (by simpa using hl) (fun i x v hx hv => ?_)
  rw [List.getElem?_map] at hx
  obtain ⟨y, hy, rfl⟩ := Option.map_eq_some_iff.1 hx
  exact ih i y v hy hv
 | fn f first cap as bs hl hl' h h' ih ih' =>
  simp only [Aw.sub, subs_eq]
  refine .fn f _ _ as bs (by simpa using hl) (by simpa using hl') (fun i x v hx hv => ?_) (fun i x v hx hv => ?_)
  ·rw [List.getElem?_map] at hx
   obtain ⟨y, hy, rfl⟩ := Option.map_eq_some_iff.1 hx
   exact ih i y v hy hv
  ·rw [List.getElem?_map] at hx
   obtain ⟨y, hy, rfl⟩ := Option.map_eq_some_iff.1 hx
   exact ih' i y v hy hv
 | gd b x v h hf ih => exact .gd b _ v ih hf
 | ifc t x v h ih => exact .ifc t _ v ih
 | mp p c ob b hH hμ =>
  simp only [Aw.sub]
  split
  ·exact .junk _
  ·rename_i e
   obtain ⟨ob', h1, _, _, _, h5⟩ := hS p ob e hH
   exact .mp p c ob' b h1 (h5.trans hμ)
theorem sub_pair {o c : Nat} {fs fp : Nat -> Nat -> AV} {k v : AV} {m : Value} (h : keyV c k = some m) : Aw.sub o fs fp (.tup [k, v]) = .tup [k, Aw.sub o fs fp v] := by
 have : Aw.sub o fs fp k = k := by cases k <;> first | rfl | cases h
 simp only [Aw.sub, sub.subs, this]
def subOb (o : Nat) (fs fp : Nat -> Nat -> AV) (ob : Ob) : Ob := { ob with es := ob.es.map (sub o fs fp) }
def St.sub (s : St) (o : Nat) (fs fp : Nat -> Nat -> AV) : St :=
 {ρ := fun t => Aw.sub o fs fp (s.ρ t), H := fun p => if p = o then none else (s.H p).map (subOb o fs fp) }
section
variable {cx : Cx} {κ : Kz} {s : St} {a : Act} {w : World}
theorem RelK.sub (R : RelK cx κ s a w) {o : Nat} {fs fp : Nat -> Nat -> AV} (im' : Nat -> Prop) (hcs : ∀ i j, (fs i j).cells = [fs i j]) (hcp : ∀ i j, (fp i j).cells = [fp i j])
  (hi : ∀ b, κ.im b -> im' b) (hi' : ∀ b, im' b -> κ.im b \/ ∃ ob base n, s.H o = some ob /\ κ.μ o = some (b, base, n))
  (hs : ∀ lo len v, RV κ s.H w (.sl o lo len) v -> RV { κ with im := im' } (s.sub o fs fp).H w (fs lo len) v)
  (hp : ∀ i c v, RV κ s.H w (.ptr o i c) v -> RV { κ with im := im' } (s.sub o fs fp).H w (fp i c) v) (hG : ∀ g, Aw.sub o fs fp (cx.G g) = cx.G g) :
  RelK cx { κ with im := im' } (s.sub o fs fp) a w := by
 have hS : ∀ p ob, p ≠ o -> s.H p = some ob -> ∃ ob', (s.sub o fs fp).H p = some ob' /\ ob'.box = ob.box /\ ob'.sz = ob.sz /\ ob.es.length ≤ ob'.es.length /\ ({ κ with im := im' } : Kz).μ p = κ.μ p := fun p ob hne hH =>
  ⟨subOb o fs fp ob, by simp [St.sub, hne, hH], rfl, rfl, by simp [subOb], rfl⟩
 have hm : ∀ {x : AV} {v : Value}, RV κ s.H w x v -> RV { κ with im := im' } (s.sub o fs fp).H w (Aw.sub o fs fp x) v := fun h => RV.sub (κ' := { κ with im := im' }) hi hs hp hS h
 have hob : ∀ p ob', (s.sub o fs fp).H p = some ob' -> p ≠ o /\ ∃ ob, s.H p = some ob /\ ob' = subOb o fs fp ob := fun p ob' h => by
  simp only [St.sub] at h
  split at h
  ·cases h
  ·rename_i hne
   obtain ⟨ob, h1, h2⟩ := Option.map_eq_some_iff.1 h
   exact ⟨hne, ob, h1, h2.symm⟩
 refine ⟨fun p ob' ho => ?_, fun p p' ob1 ob2 x x' h1 h2 hx hx' he => ?_, fun t => hm (R.env t), R.size, R.defers, R.os, R.tape, R.output, R.le, R.block, fun p ob' x ho hx => ?_, fun b hb => hi b (R.im0 b hb),
  fun b hb => ?_, fun b hb => ?_, fun p ob' x hp' ho => ?_, R.pinlo, fun g => ?_⟩
 ·obtain ⟨hne, ob, hH, rfl⟩ := hob p ob' ho
  obtain ⟨h0, h⟩ := R.rep p ob hH
  refine ⟨fun i e hi2 => ?_, ?_⟩
  ·simp only [subOb, List.getElem?_map] at hi2
   obtain ⟨e', h1, rfl⟩ := Option.map_eq_some_iff.1 hi2
   rw [cells_sub hcs hcp, List.length_map]
   exact h0 i e' h1
  ·rcases h with ⟨h1, h2, h3⟩ | ⟨b, base, cs, el, e1, e2, e3, e4, e5⟩ | h
   ·exact .inl ⟨h1, h2, by simp [subOb, h3]⟩
   case inr.inr =>
    refine .inr (.inr (h.mono (Aw.sub o fs fp) rfl rfl (fun k v c m hk => sub_pair hk) rfl (fun x hx hn him => ?_) (fun _ _ => rfl) fun _ => hm))
    rcases hi' _ him with h | ⟨ob2, base2, n2, g1, g2⟩
    ·exact hn h
    ·exact hne (R.inj p o ob ob2 _ _ hH g1 hx g2 rfl)
   ·refine .inr (.inl ⟨b, base, cs, el, e1, fun him => ?_, e3, by simpa [subOb] using e4, fun i e j x hi2 hj => ?_⟩)
    ·rcases hi' b him with h | ⟨ob2, base2, n2, g1, g2⟩
     ·exact e2 h
     ·exact hne (R.inj p o ob ob2 _ _ hH g1 e1 g2 rfl)
    ·simp only [subOb, List.getElem?_map] at hi2
     obtain ⟨e', h1, rfl⟩ := Option.map_eq_some_iff.1 hi2
     rw [cells_sub hcs hcp, List.getElem?_map] at hj
     obtain ⟨x', h2, rfl⟩ := Option.map_eq_some_iff.1 hj
     obtain ⟨v, g1, g2, g3⟩ := e5 i e' j x' h1 h2
     exact ⟨v, g1, hm g2, g3⟩
 ·obtain ⟨_, ob3, h3, _⟩ := hob p ob1 h1
  obtain ⟨_, ob4, h4, _⟩ := hob p' ob2 h2
  exact R.inj p p' ob3 ob4 x x' h3 h4 hx hx' he
 ·obtain ⟨_, ob3, h3, _⟩ := hob p ob' ho
  exact R.own p ob3 x h3 hx
 ·rcases hi' b hb with h | ⟨ob, base, n, h1, h2⟩
  ·exact R.imlt b h
  ·exact (R.noD h1 h2).1
 ·rcases hi' b hb with h | ⟨_, _, _, h1, h2⟩
  ·exact R.imnew b h
  ·exact .inr (R.own o _ _ h1 h2)
 ·obtain ⟨_, ob3, h3, _⟩ := hob p ob' ho
  exact R.pin p ob3 x hp' h3
 ·exact hG g ▸ hm (R.glob g)
end
end Go.Aw

/- drop, freeze, rename: three uses of RelK.sub. Own work. -/
namespace Go.Aw
open Go
def kill (o : Nat) : AV -> AV := sub o (fun _ _ => .junk) (fun _ _ => .junk)
def St.drop (s : St) (o : Nat) : St := s.sub o (fun _ _ => .junk) (fun _ _ => .junk)
def St.freeze (s : St) (o : Nat) (ob : Ob) : St := s.sub o (fun lo len => .ro ob.sz ((ob.es.drop lo).take len)) (fun i c => .rop (ob.es.getD i .junk) c)
def Ob.Imm (ob : Ob) : Prop := ∀ e ∈ ob.es, ∀ x ∈ e.cells, x.isImm = true
section
variable {cx : Cx} {κ : Kz} {s : St} {a : Act} {w : World}
theorem RelK.drop (R : RelK cx κ s a w) (o : Nat) (hG : ∀ g, kill o (cx.G g) = cx.G g) : RelK cx κ (s.drop o) a w :=
 RelK.sub R κ.im (fun _ _ => rfl) (fun _ _ => rfl) (fun _ h => h) (fun _ h => .inl h) (fun _ _ v _ => .junk v) (fun _ _ v _ => .junk v) hG
theorem RelK.freeze (R : RelK cx κ s a w) {o : Nat} {ob : Ob} (ho : s.H o = some ob) (hi : ob.Imm)
  (hG : ∀ g, Aw.sub o (fun lo len => .ro ob.sz ((ob.es.drop lo).take len)) (fun i c => .rop (ob.es.getD i .junk) c) (cx.G g) = cx.G g) :
  RelK cx { κ with im := fun b => κ.im b \/ ∃ base n, κ.μ o = some (b, base, n) } (s.freeze o ob) a w := by
 obtain ⟨h0, h⟩ := R.rep o ob ho
 refine RelK.sub R _ (fun _ _ => rfl) (fun _ _ => rfl) (fun _ h => .inl h) (fun b hb => ?_) (fun lo len v hv => ?_) (fun i c v hv => ?_) hG
 ·rcases hb with hb | ⟨base, n, hb⟩
  ·exact .inl hb
  ·exact .inr ⟨ob, base, n, ho, hb⟩
 ·cases hv with
  | imm h => cases h
  | sl _ _ _ ob2 A cap hH hbox hlen hcap hA =>
   rw [ho] at hH
   cases hH
   have hl : ((ob.es.drop lo).take len).length = len := by rw [List.length_take, List.length_drop]; omega
   rcases h with ⟨h1, h2, h3⟩ | ⟨b, base, cs, el, e1, e2, e3, e4, e5⟩ | hmp
   case inr.inr =>
    have hl0 : len = 0 := by
     rcases hA with hA | ⟨b', base', n', f1, f2, f3⟩
     ·omega
     ·obtain ⟨_, _, c, _, h2, _⟩ := hmp.lies f1
      simp only [Prod.mk.injEq] at h2
      omega
    subst hl0
    exact .imm (.ro ob.sz [] A cap 0 0 (fun _ _ => undef) (fun h => absurd h (by simp)) (by simp) (by simp) (by simp) (by simp))
   ·have hl0 : len = 0 := by rw [h3] at hlen; simp at hlen; omega
    subst hl0
    exact .imm (.ro ob.sz [] A cap 0 0 (fun _ _ => undef) (fun h => absurd h (by simp)) (by simp) (by simp) (by simp) (by simp))
   ·have hg : ∀ (i : Nat) (e : AV), ((ob.es.drop lo).take len)[i]? = some e -> ob.es[lo + i]? = some e := fun i e hi => by
     rw [List.getElem?_take] at hi
     split at hi
     ·rwa [List.getElem?_drop] at hi
     ·cases hi
    have hcell : ∀ (i : Nat) (e : AV) (j : Nat) (x : AV), ((ob.es.drop lo).take len)[i]? = some e -> e.cells[j]? = some x ->
      ∃ v, cs[base + (lo + i) * ob.sz + j]? = some v /\ RI κ.im w x v := fun i e j x hi2 hj => by
     obtain ⟨v, g1, g2, _⟩ := e5 (lo + i) e j x (hg i e hi2) hj
     exact ⟨v, g1, g2.imm_of (hi e (List.mem_of_getElem? (hg i e hi2)) x (List.mem_of_getElem? hj))⟩
    have := RI.ro (im := fun b => κ.im b \/ ∃ base n, κ.μ o = some (b, base, n)) (w := w) ob.sz ((ob.es.drop lo).take len) A cap b (base + lo * ob.sz) (fun i j => (cs[base + (lo + i) * ob.sz + j]?).getD undef)
     (fun hpos => by
      rw [hl] at hpos
      rcases hA with hA | ⟨b', base', n', f1, f2, f3⟩
      ·omega
      ·rw [e1] at f1
       cases f1
       exact ⟨f2, .inr ⟨base, cs.size, e1⟩⟩)
     (by rw [hl]; exact hcap)
     (fun i e hi2 => h0 _ e (hg i e hi2))
     (fun i e j x hi2 hj => by
      obtain ⟨v, g1, _⟩ := hcell i e j x hi2 hj
      have : base + lo * ob.sz + i * ob.sz + j = base + (lo + i) * ob.sz + j := by rw [Nat.add_mul]; omega
      simp only [World.cell?, e3, this, g1]
      rfl)
     (fun i e j x hi2 hj => by
      obtain ⟨v, g1, g2⟩ := hcell i e j x hi2 hj
      simp only [g1, Option.getD_some]
      exact g2.mono (fun _ h => .inl h) (fun _ _ => rfl))
    rw [hl] at this
    exact .imm this
 ·cases hv with
  | imm h => cases h
  | ptr _ _ _ ob2 b base n hH hμ hlt =>
   rw [ho] at hH
   cases hH
   rcases h with ⟨h1, h2, h3⟩ | ⟨b', base', cs, el, e1, e2, e3, e4, e5⟩ | hmp
   ·rw [h1] at hμ; cases hμ
   case inr.inr =>
    have he : ob.es[i]? = some (ob.es.getD i .junk) := by
     rw [List.getD_eq_getElem?_getD, List.getElem?_eq_getElem hlt]; rfl
    obtain ⟨es, clock, k, h3, h4, _⟩ := hmp.lies hμ
    exact .rop (ob.es.getD i .junk) c b (base + i * ob.sz) (fun _ => undef) (.inr ⟨base, n, hμ⟩) (fun j x hj => (hmp.no_cell he hj).elim) (fun j x hj => (hmp.no_cell he hj).elim)
   ·rw [e1] at hμ
    cases hμ
    have he : ob.es[i]? = some (ob.es.getD i .junk) := by
     rw [List.getD_eq_getElem?_getD, List.getElem?_eq_getElem hlt]; rfl
    refine .rop (ob.es.getD i .junk) c b (base + i * ob.sz) (fun j => (cs[base + i * ob.sz + j]?).getD undef) (.inr ⟨base, _, e1⟩) (fun j x hj => ?_) (fun j x hj => ?_)
    ·obtain ⟨v, g1, _⟩ := e5 i _ j x he hj
     simp only [World.cell?, e3, g1]
     rfl
    ·obtain ⟨v, g1, g2, _⟩ := e5 i _ j x he hj
     simp only [g1, Option.getD_some]
     exact (g2.imm_of (hi _ (List.mem_of_getElem? he) x (List.mem_of_getElem? hj))).mono (fun _ h => .inl h) (fun _ _ => rfl)
def St.rename (s : St) (o d : Nat) : St :=
 {ρ := fun t => Aw.sub o (fun lo len => .sl d lo len) (fun i c => .ptr d i c) (s.ρ t),
  H := fun p => if p = d then (s.H o).map (subOb o (fun lo len => .sl d lo len) (fun i c => .ptr d i c)) else if p = o then none else (s.H p).map (subOb o (fun lo len => .sl d lo len) (fun i c => .ptr d i c)) }
theorem RelK.rename (R : RelK cx κ s a w) {o d : Nat} (hod : o ≠ d) (hd : s.H d = none) (hp : cx.pin d = none)
  (hG : ∀ g, Aw.sub o (fun lo len => .sl d lo len) (fun i c => .ptr d i c) (cx.G g) = cx.G g) : RelK cx { κ with μ := upd κ.μ d (κ.μ o) } (s.rename o d) a w := by
 have hH : ∀ p ob', (s.rename o d).H p = some ob' -> ∃ q ob, s.H q = some ob /\ ob' = subOb o (fun lo len => .sl d lo len) (fun i c => .ptr d i c) ob /\ (upd κ.μ d (κ.μ o)) p = κ.μ q /\ ((p = d /\ q = o) \/ (p ≠ d /\ p ≠ o /\ q = p)) := fun p ob' h => by
  simp only [St.rename] at h
  split at h
  ·rename_i e
   obtain ⟨ob, h1, h2⟩ := Option.map_eq_some_iff.1 h
   subst e
   exact ⟨o, ob, h1, h2.symm, upd_same _ _ _, .inl ⟨rfl, rfl⟩⟩
  ·rename_i e
   split at h
   ·cases h
   ·rename_i e2
    obtain ⟨ob, h1, h2⟩ := Option.map_eq_some_iff.1 h
    exact ⟨p, ob, h1, h2.symm, upd_ne _ _ e, .inr ⟨e, e2, rfl⟩⟩
 have hm : ∀ {x : AV} {v : Value}, RV κ s.H w x v -> RV { κ with μ := upd κ.μ d (κ.μ o) } (s.rename o d).H w (Aw.sub o (fun lo len => .sl d lo len) (fun i c => .ptr d i c) x) v := fun h => by
  refine RV.sub (κ := κ) (κ' := { κ with μ := upd κ.μ d (κ.μ o) }) (fun _ h => h) (fun lo len v hv => ?_) (fun i c v hv => ?_) (fun p ob hne hp2 => ?_) h
  ·cases hv with
   | imm h => cases h
   | sl _ _ _ ob A cap hH2 hbox hlen hcap hA =>
    refine .sl d lo len (subOb o (fun lo len => .sl d lo len) (fun i c => .ptr d i c) ob) A cap (by simp [St.rename, hH2]) hbox (by simpa [subOb] using hlen) hcap ?_
    show cap = 0 \/ ∃ b base n, upd κ.μ d (κ.μ o) d = some (b, base, n) /\ _
    rw [upd_same]
    exact hA
  ·cases hv with
   | imm h => cases h
   | ptr _ _ _ ob b base n hH2 hμ hlt =>
    exact .ptr d i c (subOb o (fun lo len => .sl d lo len) (fun i c => .ptr d i c) ob) b base n (by simp [St.rename, hH2]) (by show upd κ.μ d (κ.μ o) d = _; rw [upd_same]; exact hμ) (by simpa [subOb] using hlt)
  ·have hpd : p ≠ d := fun e => by subst e; rw [hd] at hp2; cases hp2
   exact ⟨subOb o (fun lo len => .sl d lo len) (fun i c => .ptr d i c) ob, by simp [St.rename, hpd, hne, hp2], rfl, rfl, by simp [subOb], upd_ne _ _ hpd⟩
 refine ⟨fun p ob' ho => ?_, fun p p' ob1 ob2 x x' h1 h2 hx hx' he => ?_, fun t => hm (R.env t), R.size, R.defers, R.os, R.tape, R.output, R.le, R.block, fun p ob' x ho hx => ?_, R.im0,
  R.imlt, R.imnew, fun p ob' x hp' ho => ?_, R.pinlo, fun g => hG g ▸ hm (R.glob g)⟩
 ·obtain ⟨q, ob, hq, rfl, hμ, _⟩ := hH p ob' ho
  obtain ⟨h0, h⟩ := R.rep q ob hq
  refine ⟨fun i e hi2 => ?_, ?_⟩
  ·simp only [subOb, List.getElem?_map] at hi2
   obtain ⟨e', h1, rfl⟩ := Option.map_eq_some_iff.1 hi2
   rw [cells_sub (fun _ _ => rfl) (fun _ _ => rfl), List.length_map]
   exact h0 i e' h1
  ·rcases h with ⟨h1, h2, h3⟩ | ⟨b, base, cs, el, e1, e2, e3, e4, e5⟩ | hmp
   ·exact .inl ⟨hμ.trans h1, h2, by simp [subOb, h3]⟩
   case inr.inr => exact .inr (.inr (hmp.mono _ rfl rfl (fun k v c m hk => sub_pair hk) hμ (fun _ _ h => h) (fun _ _ => rfl) fun _ => hm))
   ·refine .inr (.inl ⟨b, base, cs, el, hμ.trans e1, e2, e3, by simpa [subOb] using e4, fun i e j x hi2 hj => ?_⟩)
    simp only [subOb, List.getElem?_map] at hi2
    obtain ⟨e', h1, rfl⟩ := Option.map_eq_some_iff.1 hi2
    rw [cells_sub (fun _ _ => rfl) (fun _ _ => rfl), List.getElem?_map] at hj
    obtain ⟨x', h2, rfl⟩ := Option.map_eq_some_iff.1 hj
    obtain ⟨v, g1, g2, g3⟩ := e5 i e' j x' h1 h2
    exact ⟨v, g1, hm g2, g3⟩
 ·obtain ⟨q, ob3, h3, _, hμ, hc⟩ := hH p ob1 h1
  obtain ⟨q', ob4, h4, _, hμ', hc'⟩ := hH p' ob2 h2
  have hq := R.inj q q' ob3 ob4 x x' h3 h4 (hμ.symm.trans hx) (hμ'.symm.trans hx') he
  rcases hc with ⟨c1, c2⟩ | ⟨c1, c2, c3⟩ <;> rcases hc' with ⟨d1, d2⟩ | ⟨d1, d2, d3⟩
  ·rw [c1, d1]
  ·exact absurd (d3.symm.trans (hq.symm.trans c2)) d2
  ·exact absurd (c3.symm.trans (hq.trans d2)) c2
  ·rw [<- c3, <- d3, hq]
 ·obtain ⟨q, ob3, h3, _, hμ, _⟩ := hH p ob' ho
  exact R.own q ob3 x h3 (hμ.symm.trans hx)
 ·obtain ⟨q, ob3, h3, _, hμ, hc⟩ := hH p ob' ho
  rcases hc with ⟨c1, c2⟩ | ⟨c1, c2, c3⟩
  ·subst c1; rw [hp] at hp'; cases hp'
  ·subst c3; exact hμ.trans (R.pin q ob3 x hp' h3)
end
end Go.Aw

/- The logic of code over abstract states: control. Own work. -/
namespace Go.Aw
open Go
def AW (cx : Cx) (c : Code) (Q : Exit -> St -> Prop) (s : St) : Prop :=
 ∀ a w, Rel cx s a w -> c.wpIn (FR cx.rd) 0 cx.P (fun e a' w' => ∃ s', Q e s' /\ Rel cx s' a' w') a w
def thenQ (next : St -> Prop) (Q : Exit -> St -> Prop) : Exit -> St -> Prop
 | .normal, s => next s
 | .exit id, s => Q (.exit id) s
 | .goto l, s => Q (.goto l) s
 | .ret, s => Q .ret s
 | .panic ch, s => Q (.panic ch) s
 | .outgrown, s => Q .outgrown s
@[simp] theorem thenQ_normal (next : St -> Prop) (Q : Exit -> St -> Prop) (s : St) : thenQ next Q .normal s = next s := rfl
@[simp] theorem thenQ_exit (next : St -> Prop) (Q : Exit -> St -> Prop) (id : Nat) (s : St) : thenQ next Q (.exit id) s = Q (.exit id) s := rfl
@[simp] theorem thenQ_ret (next : St -> Prop) (Q : Exit -> St -> Prop) (s : St) : thenQ next Q .ret s = Q .ret s := rfl
def blockQ (id : Nat) (Q : Exit -> St -> Prop) : Exit -> St -> Prop
 | .exit id', s => if id' = id then Q .normal s else Q (.exit id') s
 | e, s => Q e s
@[simp] theorem blockQ_normal (id : Nat) (Q : Exit -> St -> Prop) (s : St) : blockQ id Q .normal s = Q .normal s := rfl
@[simp] theorem blockQ_ret (id : Nat) (Q : Exit -> St -> Prop) (s : St) : blockQ id Q .ret s = Q .ret s := rfl
@[simp] theorem blockQ_exit_same (id : Nat) (Q : Exit -> St -> Prop) (s : St) : blockQ id Q (.exit id) s = Q .normal s := by simp [blockQ]
theorem blockQ_exit (id id' : Nat) (Q : Exit -> St -> Prop) (s : St) : blockQ id Q (.exit id') s = if id' = id then Q .normal s else Q (.exit id') s := rfl
section
variable {cx : Cx} {Q Q' : Exit -> St -> Prop} {s s' : St}
theorem AW.mono {c : Code} (h : AW cx c Q s) (hq : ∀ e s, Q e s -> Q' e s) : AW cx c Q' s :=
 fun a w R => wpIn_mono (h a w R) fun e _ _ ⟨s', q, r⟩ => ⟨s', hq e s' q, r⟩
theorem AW.weak {c : Code} (hr : ∀ a w, Rel cx s a w -> Rel cx s' a w) (h : AW cx c Q s') : AW cx c Q s :=
 fun a w R => h a w (hr a w R)
theorem AW.skip (h : Q .normal s) : AW cx .skip Q s := fun _ _ R => wpIn_skip ⟨s, h, R⟩
theorem AW.exit {id : Nat} (h : Q (.exit id) s) : AW cx (.exit id) Q s := fun _ _ R => wpIn_exit ⟨s, h, R⟩
theorem AW.ret (h : Q .ret s) : AW cx .ret Q s := fun _ _ R => wpIn_ret ⟨s, h, R⟩
theorem AW.label {l : Nat} (h : Q .normal s) : AW cx (.label l) Q s := fun _ _ R => wpIn_label ⟨s, h, R⟩
theorem AW.seq {x y : Code} (h : AW cx x (thenQ (AW cx y Q) Q) s) : AW cx (.seq x y) Q s := fun a w R =>
 wpIn_seq (wpIn_mono (h a w R) fun e a' w' ⟨s', q, r⟩ => by
  cases e with
  | normal => exact q a' w' r
  | exit id => exact ⟨s', q, r⟩
  | goto l => exact ⟨s', q, r⟩
  | ret => exact ⟨s', q, r⟩
  | panic ch => exact ⟨s', q, r⟩
  | outgrown => exact ⟨s', q, r⟩)
theorem AW.block {id : Nat} {c : Code} (h : AW cx c (blockQ id Q) s) : AW cx (.block id c) Q s := fun a w R =>
 wpIn_block (wpIn_mono (h a w R) fun e a' w' ⟨s', q, r⟩ => by
  cases e with
  | exit id' =>
   simp only [blockQ] at q
   simp only [Exit.inBlock]
   split
   ·rename_i e; rw [if_pos e] at q; exact ⟨s', q, r⟩
   ·rename_i e; rw [if_neg e] at q; exact ⟨s', q, r⟩
  | normal => exact ⟨s', q, r⟩
  | goto l => exact ⟨s', q, r⟩
  | ret => exact ⟨s', q, r⟩
  | panic ch => exact ⟨s', q, r⟩
  | outgrown => exact ⟨s', q, r⟩)
theorem RV.bool_inv {κ : Kz} {H : Hp} {w : World} {b : Bool} {v : Value} (h : RV κ H w (.bool b) v) : v = .bool b := by
 cases h with
 | imm h => cases h; rfl
theorem AW.cond {t : Tmp} {x y : Code} {b : Bool} (hb : s.ρ t = .bool b) (h1 : b = true -> AW cx x Q s) (h2 : b = false -> AW cx y Q s) : AW cx (.cond (.tmp t) x y) Q s := fun a w R => by
 obtain ⟨κ, R'⟩ := R
 have hv : a.eval (.tmp t) = .bool b := RV.bool_inv (hb ▸ R'.env t)
 exact wpIn_cond_split hv (fun e => h1 e a w ⟨κ, R'⟩) (fun e => h2 e a w ⟨κ, R'⟩)
theorem AW.loop {c : Code} (J : Nat -> St -> Prop) (n : Nat) (h0 : J n s) (round : ∀ n s, J n s -> AW cx c (thenQ (fun s' => ∃ m, m < n /\ J m s') Q) s) : AW cx (.loop c) Q s := by
 intro a w R b k cs hro hb hr
 have key : ∀ n s a w, J n s -> Rel cx s a w ->
   ∃ e a' w', (∃ s', Q e s' /\ Rel cx s' a' w') /\ ArrivesIn (Machine.fenced cx.P (FR cx.rd)) cx.P (lone (b.atR a (.code c :: .inLoop c :: k)) cs w) b k cs e a' w' := by
  intro n
  induction n using Nat.strongRecOn with
  | _ n ih =>
   intro s a w hJ R
   obtain ⟨e, a₁, w₁, ⟨s₁, hq, R₁⟩, harr⟩ := round n s hJ a w R b (.inLoop c :: k) cs hro hb hr
   cases e with
   | normal =>
    obtain ⟨m, hlt, hJ₁⟩ := hq
    obtain ⟨e₂, a₂, w₂, hq₂, harr₂⟩ := ih m hlt s₁ a₁ w₁ hJ₁ R₁
    exact ⟨e₂, a₂, w₂, hq₂, .of_steps (StepsIn.trans harr (.one (fenced_calm hb hr rfl) stepR_inLoop)) harr₂⟩
   | exit id => exact ⟨_, a₁, w₁, ⟨s₁, hq, R₁⟩, .pass (x := .inLoop c) rfl (fun _ _ => .inl (by simp)) harr⟩
   | goto l => exact ⟨_, a₁, w₁, ⟨s₁, hq, R₁⟩, .pass (x := .inLoop c) rfl (fun _ _ => .inl (by simp)) harr⟩
   | ret => exact ⟨_, a₁, w₁, ⟨s₁, hq, R₁⟩, .pass (x := .inLoop c) rfl (fun _ _ => .inl (by simp)) harr⟩
   | panic ch => exact ⟨_, a₁, w₁, ⟨s₁, hq, R₁⟩, .pass (x := .inLoop c) rfl (fun _ _ => .inl (by simp)) harr⟩
   | outgrown => exact ⟨_, a₁, w₁, ⟨s₁, hq, R₁⟩, .pass (x := .inLoop c) rfl (fun _ _ => .inl (by simp)) harr⟩
 obtain ⟨e, a', w', hq, harr⟩ := key n s a w h0 R
 exact ⟨e, a', w', hq, .of_steps (.one (fenced_calm hb hr rfl) stepR_loop) harr⟩
theorem AW.drop {c : Code} (o : Nat) (hG : ∀ g, kill o (cx.G g) = cx.G g) (h : AW cx c Q (s.drop o)) : AW cx c Q s :=
 AW.weak (fun _ _ ⟨κ, R⟩ => ⟨κ, R.drop o hG⟩) h
end
end Go.Aw

/- The operations that only compute or read, over abstract values. Own work. -/
namespace Go.Aw
open Go
/-! ### What the types say -/
def tLoad (P : Program) (t : TypeId) : Option (Option Nat) :=
 match P.underlying t with
 | none => none
 | some (.struct _) | some (.array _ _) => (P.info? t).map fun i => some i.size
 | some _ => some none
def tField (P : Program) (s : TypeId) (f : Nat) : Option (Nat × Option Nat) :=
 match P.underlying s with
 | some (.struct fs) =>
  match fs[f]? with
  | some fd => match P.info? fd.type with
   | some i => if i.size = 0 then none else (tLoad P fd.type).map fun l => (fd.offset, l)
   | none => none
  | none => none
 | _ => none
def tIndex (P : Program) (t : TypeId) : Option (Option Nat × Nat × Option Nat) :=
 match P.underlying t with
 | some (.slice e) => match P.info? e with
  | some i => (tLoad P e).map fun l => (none, i.size, l)
  | none => none
 | some (.array n e) => match P.info? e with
  | some i => (tLoad P e).map fun l => (some n, i.size, l)
  | none => none
 | _ => none
inductive TK | int (k : IntKind) | bool | string | pointer | slice | func | other
def tKind (P : Program) (t : TypeId) : Option TK :=
 match P.underlying t with
 | some (.int k) => some (.int k)
 | some .bool => some .bool
 | some .string => some .string
 | some (.pointer _) => some .pointer
 | some (.slice _) => some .slice
 | some (.func ..) => some .func
 | some _ => some .other
 | none => none
section
variable {P : Program} {w : World}
theorem run_typeInfo {t : TypeId} {i : TypeInfo} (h : P.info? t = some i) : (typeInfo t).run P w = .ok i w := by simp [typeInfo, h]
theorem run_sizeOf {t : TypeId} {i : TypeInfo} (h : P.info? t = some i) : (sizeOf t).run P w = .ok i.size w := by simp [sizeOf, run_typeInfo h]
theorem tLoad_agg {t : TypeId} {n : Nat} (h : tLoad P t = some (some n)) : (isAgg t).run P w = .ok true w /\ (sizeOf t).run P w = .ok n w := by
 unfold tLoad at h
 split at h
 ·cases h
 ·rename_i fs hu
  obtain ⟨i, hi, e⟩ := Option.map_eq_some_iff.1 h
  cases e
  exact ⟨by simp [isAgg, run_underlying hu], run_sizeOf hi⟩
 ·rename_i len e hu
  obtain ⟨i, hi, e⟩ := Option.map_eq_some_iff.1 h
  cases e
  exact ⟨by simp [isAgg, run_underlying hu], run_sizeOf hi⟩
 ·cases h
theorem tLoad_one {t : TypeId} (h : tLoad P t = some none) : (isAgg t).run P w = .ok false w := by
 unfold tLoad at h
 split at h
 ·cases h
 ·obtain ⟨i, hi, e⟩ := Option.map_eq_some_iff.1 h; cases e
 ·obtain ⟨i, hi, e⟩ := Option.map_eq_some_iff.1 h; cases e
 ·rename_i d h1 h2 hu
  simp only [isAgg, Sem.run_bind, run_underlying hu, Result.andThen_ok]
  first | rfl | (split <;> first | rfl | (rename_i e; exact absurd e (by first | exact h1 _ | exact h2 _ _)))
end
/-! ### Loads -/
def cut (e : AV) (c : Nat) : Option Nat -> AV
 | none => e.cells.getD c .junk
 | some n => .agg ((e.cells.drop c).take n)
def fits (sz c : Nat) : Option Nat -> Prop
 | none => c < sz
 | some n => c + n ≤ sz
section
variable {cx : Cx} {κ : Kz} {s : St} {a : Act} {w : World}
theorem run_loadVar_cells {P : Program} {H : Hp} {t : TypeId} {l : Option Nat} (ht : tLoad P t = some l) {e : AV} {c b off : Nat} (hf : fits e.cells.length c l)
  (hc : ∀ j x, e.cells[j]? = some x -> ∃ v, w.cell? ⟨b, off + j, none⟩ = some v /\ RV κ H w x v /\ v.oneCell' = true) :
  ∃ v, (loadVar t ⟨b, off + c, none⟩).run P w = .ok v w /\ RV κ H w (cut e c l) v := by
 cases l with
 | none =>
  simp only [fits] at hf
  obtain ⟨v, h1, h2, _⟩ := hc c _ (List.getElem?_eq_getElem hf)
  refine ⟨v, ?_, by simp only [cut, List.getD_eq_getElem?_getD, List.getElem?_eq_getElem hf]; exact h2⟩
  simp only [loadVar, Sem.run_bind, tLoad_one ht, Result.andThen_ok, Bool.false_eq_true, if_false, run_load, h1]
 | some n =>
  simp only [fits] at hf
  obtain ⟨ha, hs⟩ := tLoad_agg (w := w) ht
  have hl := run_loadCells (P := P) w ⟨b, off + c, none⟩ n (fun j => (w.cell? ⟨b, off + c + j, none⟩).getD undef) (fun j hj => by
   obtain ⟨v, h1, _⟩ := hc (c + j) _ (List.getElem?_eq_getElem (by omega))
   rw [Addr.add_lit]
   rw [show off + c + j = off + (c + j) by omega, h1]
   rfl)
  refine ⟨.agg ((List.range n).map fun j => (w.cell? ⟨b, off + c + j, none⟩).getD undef).toArray, ?_, ?_⟩
  ·simp only [loadVar, Sem.run_bind, ha, hs, Result.andThen_ok, if_true, hl]
   rfl
  ·have hcell : ∀ i x v, ((e.cells.drop c).take n)[i]? = some x -> ((List.range n).map fun j => (w.cell? ⟨b, off + c + j, none⟩).getD undef).toArray[i]? = some v -> RV κ H w x v := fun i x v hx hv => by
    rw [List.getElem?_take] at hx
    split at hx
    ·rename_i hi
     rw [List.getElem?_drop] at hx
     obtain ⟨u, h1, h2, _⟩ := hc (c + i) x hx
     have hv' : ((w.cell? ⟨b, off + c + i, none⟩).getD undef) = v := by
      rw [List.getElem?_toArray, List.getElem?_map, List.getElem?_range hi] at hv
      exact Option.some.inj hv
     rw [show off + c + i = off + (c + i) by omega, h1] at hv'
     exact (show u = v from hv') ▸ h2
    ·cases hx
   refine .agg _ _ (by simp; omega) hcell (fun i v hv => ?_)
   have hi : i < n := by
    have := (Array.getElem?_eq_some_iff.1 hv).1
    simpa using this
   obtain ⟨u, h1, _, h3⟩ := hc (c + i) _ (List.getElem?_eq_getElem (by omega))
   have hv' : ((w.cell? ⟨b, off + c + i, none⟩).getD undef) = v := by
      rw [List.getElem?_toArray, List.getElem?_map, List.getElem?_range hi] at hv
      exact Option.some.inj hv
   rw [show off + c + i = off + (c + i) by omega, h1] at hv'
   exact (show u = v from hv') ▸ h3
theorem RelK.load_ptr (R : RelK cx κ s a w) {t : TypeId} {l : Option Nat} (ht : tLoad cx.P t = some l) {o i c : Nat} {ob : Ob} (hH : s.H o = some ob) (hf : fits ob.sz c l) {v : Value} (hv : RV κ s.H w (.ptr o i c) v) :
  ∃ u, (Instr.loadAt t v).run cx.P w = .ok u w /\ RV κ s.H w (cut (ob.es.getD i .junk) c l) u := by
 cases hv with
 | imm h => cases h
 | ptr _ _ _ ob' b base n hH' hμ hlt =>
  rw [hH] at hH'
  cases hH'
  have he : ob.es[i]? = some (ob.es.getD i .junk) := by rw [List.getD_eq_getElem?_getD, List.getElem?_eq_getElem hlt]; rfl
  obtain ⟨h0, _⟩ := R.rep o ob hH
  simp only [Instr.loadAt, Instr.sureAddr, pure_bind]
  exact run_loadVar_cells ht (by rw [h0 i _ he]; exact hf) (fun j x hj => by
   obtain ⟨u, h1, h2, h3, _⟩ := R.at_cell hH hμ he hj
   exact ⟨u, h1, h2, h3⟩)
theorem load_rop {P : Program} {H : Hp} {t : TypeId} {l : Option Nat} (ht : tLoad P t = some l) {e : AV} {c : Nat} (hf : fits e.cells.length c l) {v : Value} (hv : RV κ H w (.rop e c) v) :
  ∃ u, (Instr.loadAt t v).run P w = .ok u w /\ RV κ H w (cut e c l) u := by
 cases hv with
 | imm h => cases h
 | rop _ _ b off vs hb hc hr =>
  simp only [Instr.loadAt, Instr.sureAddr, pure_bind]
  exact run_loadVar_cells ht hf (fun j x hj => ⟨vs j, hc j x hj, .imm (hr j x hj), (hr j x hj).one⟩)
end
end Go.Aw

/- Comparison of structs and arrays of plain cells. Own work. -/
namespace Go.Aw
open Go
set_option linter.unusedVariables false
inductive Lk where
 | i (k : IntKind)
 | b
 | s
 deriving DecidableEq
def Lk.fits : Lk -> Value -> Bool
 | .i k, .int k' _ => decide (k = k')
 | .b, .bool _ => true
 | .s, .string _ => true
 | _, _ => false
def confB : List Lk -> List Value -> Bool
 | [], [] => true
 | k :: ks, v :: vs => k.fits v && confB ks vs
 | _, _ => false
def lvsF (g : TypeId -> Option (List Lk)) (c : TypeId -> Nat) : Nat -> List Field -> Option (List Lk)
 | _, [] => some []
 | off, f :: fs =>
  if f.name ≠ "_" /\ f.offset = off then
   match g f.type with
   | some l => if c f.type = l.length then
     match lvsF g c (off + l.length) fs with
     | some r => some (l ++ r)
     | none => none
    else none
   | none => none
  else none
def repL : Nat -> List Lk -> List Lk
 | 0, _ => []
 | n + 1, l => l ++ repL n l
def lvs (P : Program) : Nat -> TypeId -> Option (List Lk)
 | 0, _ => none
 | d + 1, t =>
  match P.underlying t with
  | some .bool => some [.b]
  | some (.int q) => some [.i q]
  | some .string => some [.s]
  | some (.array n e) =>
   match lvs P d e with
   | some l => if P.cellsOf e = l.length then some (repL n l) else none
   | none => none
  | some (.struct fs) => if P.stoodInHeld t = true then none else lvsF (lvs P d) P.cellsOf 0 fs.toList
  | _ => none
def leaves (P : Program) (t : TypeId) : Option (List Lk) := if P.eqGuardType P.depth t = true then none else
 match P.underlying t with
 | some (.array _ _) | some (.struct _) => lvs P 50 t
 | _ => none
theorem confB_len : ∀ {ks : List Lk} {vs : List Value}, confB ks vs = true -> vs.length = ks.length
 | [], [], _ => rfl
 | [], _ :: _, h => by cases h
 | _ :: _, [], h => by cases h
 | k :: ks, v :: vs, h => by
  simp only [confB, Bool.and_eq_true] at h
  simp [confB_len h.2]
theorem confB_app : ∀ {ks ls : List Lk} {vs : List Value}, confB (ks ++ ls) vs = true -> confB ks (vs.take ks.length) = true /\ confB ls (vs.drop ks.length) = true
 | [], ls, vs, h => ⟨rfl, h⟩
 | k :: ks, ls, [], h => by cases h
 | k :: ks, ls, v :: vs, h => by
  simp only [List.cons_append, confB, Bool.and_eq_true] at h
  obtain ⟨h1, h2⟩ := confB_app h.2
  simp [confB, h.1, h1, h2]
section
variable {P : Program}
def isCv (P : Program) (t : TypeId) (x : Value) (cs : List Value) : Prop :=
 match P.underlying t with
 | some (.array _ _) | some (.struct _) => ∃ a, x = .agg a /\ a.toList = cs
 | _ => cs = [x]
def EqCv (P : Program) (dd : Nat) (t : TypeId) (ls : List Lk) : Prop :=
 ∀ (w : World) (x y : Value) (xs ys : List Value), isCv P t x xs -> isCv P t y ys -> confB ls xs = true -> confB ls ys = true ->
  ∃ r : Bool, (Op.equalIn dd t x y).run P w = .ok r w /\ (r = true ↔ xs = ys)
theorem run_part_v {t : TypeId} {ls : List Lk} {d : Nat} (h : lvs P d t = some ls) (hc : P.cellsOf t = ls.length) {xs : Array Value} {off : Nat} (hx : confB ls ((xs.toList.drop off).take ls.length) = true) (w : World) :
  ∃ a, (part t xs off).run P w = .ok a w /\ isCv P t a ((xs.toList.drop off).take ls.length) := by
 cases d with
 | zero => cases h
 | succ d =>
  unfold lvs at h
  cases hu : P.underlying t with
  | none => simp [hu] at h
  | some kd =>
   have leaf : ls.length = 1 -> (match kd with | .array _ _ | .struct _ => False | _ => True) -> ∃ a, (part t xs off).run P w = .ok a w /\ isCv P t a ((xs.toList.drop off).take ls.length) := by
    intro h1 hk
    have hl := confB_len hx
    rw [h1] at hl ⊢
    obtain ⟨a, ha⟩ := List.length_eq_one_iff.1 hl
    have hg := getElem?_of_chunk ha
    refine ⟨a, ?_, ?_⟩
    ·cases kd <;> first | exact hk.elim | simp [part, isAgg, run_underlying hu, hg]
    ·unfold isCv
     rw [hu]
     cases kd <;> first | exact hk.elim | exact ha
   have wide : (match kd with | .array _ _ | .struct _ => True | _ => False) -> ∃ a, (part t xs off).run P w = .ok a w /\ isCv P t a ((xs.toList.drop off).take ls.length) := by
    intro hk
    obtain ⟨i, hi⟩ := info_of_underlying hu
    refine ⟨.agg (xs.extract off (off + ls.length)), ?_, ?_⟩
    ·cases kd <;> first | exact hk.elim | simp [part, isAgg, run_underlying hu, Go.run_sizeOf w hi, hc]
    ·unfold isCv
     rw [hu]
     cases kd <;> first | exact hk.elim | exact ⟨_, rfl, by rw [Array.toList_extract]; simp [List.extract]⟩
   rw [hu] at h
   cases kd <;> first
    | (exact wide trivial)
    | (cases h; exact leaf rfl trivial)
    | (cases h; done)
theorem eqFields_v {dd d : Nat} {xs ys : Array Value} (ih : ∀ (t : TypeId) (l : List Lk), lvs P d t = some l -> EqCv P dd t l) : ∀ (fs : List Field) (off : Nat) (ls : List Lk), lvsF (lvs P d) P.cellsOf off fs = some ls ->
  confB ls (xs.toList.drop off) = true -> confB ls (ys.toList.drop off) = true -> ∀ w : World, ∃ r : Bool, (Op.eqFields dd xs ys fs).run P w = .ok r w /\ (r = true ↔ xs.toList.drop off = ys.toList.drop off)
 | [], off, ls, h, hx, hy, w => by
  cases h
  have e1 := List.eq_nil_of_length_eq_zero (confB_len hx)
  have e2 := List.eq_nil_of_length_eq_zero (confB_len hy)
  exact ⟨true, by simp [Op.eqFields], by simp [e1, e2]⟩
 | f :: fs, off, ls, h, hx, hy, w => by
  unfold lvsF at h
  split at h
  ·rename_i hn
   obtain ⟨hn, rfl⟩ := hn
   split at h
   ·rename_i l hl
    split at h
    ·rename_i hc
     split at h
     ·rename_i r hr
      cases h
      obtain ⟨x1, x2⟩ := confB_app hx
      obtain ⟨y1, y2⟩ := confB_app hy
      rw [List.drop_drop] at x2 y2
      obtain ⟨a, p1, f1⟩ := run_part_v hl hc x1 w
      obtain ⟨b, p2, f2⟩ := run_part_v hl hc y1 w
      obtain ⟨q, hq, hiff⟩ := ih _ _ hl w a b _ _ f1 f2 x1 y1
      obtain ⟨q', hq', hiff'⟩ := eqFields_v ih fs (f.offset + l.length) r hr x2 y2 w
      have e : (xs.toList.drop f.offset = ys.toList.drop f.offset) ↔ ((xs.toList.drop f.offset).take l.length = (ys.toList.drop f.offset).take l.length /\ xs.toList.drop (f.offset + l.length) = ys.toList.drop (f.offset + l.length)) := by
       constructor
       ·intro h; rw [h, <- List.drop_drop, <- List.drop_drop, h]; exact ⟨rfl, rfl⟩
       ·rintro ⟨h1, h2⟩
        rw [<- List.take_append_drop l.length (xs.toList.drop f.offset), <- List.take_append_drop l.length (ys.toList.drop f.offset), h1, List.drop_drop, List.drop_drop, h2]
      simp only [Op.eqFields, hn, ne_eq, not_false_eq_true, if_true, Sem.run_bind, p1, p2, hq, Result.andThen_ok]
      rw [e]
      cases q
      ·exact ⟨false, by simp, by simp; intro e; exact absurd (hiff.2 e) (by simp)⟩
      ·refine ⟨q', by simpa using hq', ?_⟩
       rw [hiff']
       simp [hiff.1 rfl]
     ·cases h
    ·cases h
   ·cases h
  ·cases h
theorem eqItems_v {dd d : Nat} {e : TypeId} {l : List Lk} (hl : lvs P d e = some l) (hc : P.cellsOf e = l.length) (ih : EqCv P dd e l) {xs ys : Array Value} : ∀ (n k : Nat),
  confB (repL n l) (xs.toList.drop (k * l.length)) = true -> confB (repL n l) (ys.toList.drop (k * l.length)) = true -> ∀ w : World, ∃ r : Bool, (Op.eqItems dd e (P.cellsOf e) xs ys (List.range' k n)).run P w = .ok r w /\ (r = true ↔ xs.toList.drop (k * l.length) = ys.toList.drop (k * l.length))
 | 0, k, hx, hy, w => by
  have e1 := List.eq_nil_of_length_eq_zero (confB_len hx)
  have e2 := List.eq_nil_of_length_eq_zero (confB_len hy)
  exact ⟨true, by simp [Op.eqItems], by simp [e1, e2]⟩
 | n + 1, k, hx, hy, w => by
  obtain ⟨x1, x2⟩ := confB_app hx
  obtain ⟨y1, y2⟩ := confB_app hy
  have ek : k * l.length + l.length = (k + 1) * l.length := by rw [Nat.add_mul, Nat.one_mul]
  rw [List.drop_drop, ek] at x2 y2
  obtain ⟨a, p1, f1⟩ := run_part_v hl hc x1 w
  obtain ⟨b, p2, f2⟩ := run_part_v hl hc y1 w
  obtain ⟨q, hq, hiff⟩ := ih w a b _ _ f1 f2 x1 y1
  obtain ⟨q', hq', hiff'⟩ := eqItems_v hl hc ih n (k + 1) x2 y2 w
  have e : (xs.toList.drop (k * l.length) = ys.toList.drop (k * l.length)) ↔ ((xs.toList.drop (k * l.length)).take l.length = (ys.toList.drop (k * l.length)).take l.length /\ xs.toList.drop ((k + 1) * l.length) = ys.toList.drop ((k + 1) * l.length)) := by
   rw [<- ek]
   constructor
   ·intro h; rw [h, <- List.drop_drop, <- List.drop_drop, h]; exact ⟨rfl, rfl⟩
   ·rintro ⟨h1, h2⟩
    rw [<- List.take_append_drop l.length (xs.toList.drop (k * l.length)), <- List.take_append_drop l.length (ys.toList.drop (k * l.length)), h1, List.drop_drop, List.drop_drop, h2]
  simp only [List.range'_succ, Op.eqItems, Sem.run_bind, hc, p1, p2, hq, Result.andThen_ok]
  rw [e]
  rw [hc] at hq'
  cases q
  ·exact ⟨false, by simp, by simp; intro e; exact absurd (hiff.2 e) (by simp)⟩
  ·refine ⟨q', by simpa using hq', ?_⟩
   rw [hiff']
   simp [hiff.1 rfl]
theorem equalIn_v (d0 : Nat) : ∀ (d : Nat) (t : TypeId) (ls : List Lk), lvs P d t = some ls -> EqCv P (d0 + d) t ls
 | 0, _, _, h => by cases h
 | d + 1, t, ls, h => by
  intro w x y xs ys ix iy cx cy
  unfold lvs at h
  unfold isCv at ix iy
  cases hu : P.underlying t with
  | none => simp [hu] at h
  | some kd =>
   rw [hu] at h ix iy
   cases kd
   case bool =>
    cases h; cases ix; cases iy
    cases x <;> first | (cases cx; done) | skip
    cases y <;> first | (cases cy; done) | skip
    exact ⟨_, run_equalIn_bool w (d0 + d) t _ _ hu, by simp⟩
   case int q =>
    cases h; cases ix; cases iy
    cases x <;> first | (cases cx; done) | skip
    cases y <;> first | (cases cy; done) | skip
    simp only [confB, Lk.fits, Bool.and_true, decide_eq_true_eq] at cx cy
    subst cx; subst cy
    exact ⟨_, run_equalIn_int w (d0 + d) t _ _ _ _ hu, by simp⟩
   case string =>
    cases h; cases ix; cases iy
    cases x <;> first | (cases cx; done) | skip
    cases y <;> first | (cases cy; done) | skip
    exact ⟨_, run_equalIn_string w (d0 + d) t _ _ hu, by simp [ByteArray.toList_eq, ByteArray.ext_iff]⟩
   case array n e =>
    obtain ⟨a, rfl, rfl⟩ := ix
    obtain ⟨b, rfl, rfl⟩ := iy
    simp only at h
    split at h
    ·rename_i l hl
     split at h
     ·rename_i hc
      cases h
      obtain ⟨i, hi⟩ : ∃ i, P.info? e = some i := by
       cases d with
       | zero => cases hl
       | succ d =>
        unfold lvs at hl
        cases hue : P.underlying e with
        | none => simp [hue] at hl
        | some _ => exact info_of_underlying hue
      obtain ⟨r, hr, hiff⟩ := eqItems_v (xs := a) (ys := b) hl hc (equalIn_v d0 d e l hl) n 0 (by simpa using cx) (by simpa using cy) w
      refine ⟨r, ?_, by simpa using hiff⟩
      rw [show d0 + (d + 1) = (d0 + d) + 1 from rfl, run_equalIn_array w (d0 + d) a b hu hi, List.range_eq_range']
      exact hr
     ·cases h
    ·cases h
   case struct fs =>
    obtain ⟨a, rfl, rfl⟩ := ix
    obtain ⟨b, rfl, rfl⟩ := iy
    simp only at h
    split at h
    ·cases h
    ·rename_i hs
     have hfs : P.fieldsOf t = fs := by simp [Program.fieldsOf, hu]
     obtain ⟨r, hr, hiff⟩ := eqFields_v (xs := a) (ys := b) (fun t l => equalIn_v d0 d t l) fs.toList 0 ls h (by simpa using cx) (by simpa using cy) w
     refine ⟨r, ?_, by simpa using hiff⟩
     rw [show d0 + (d + 1) = (d0 + d) + 1 from rfl, run_equalIn_struct w (d0 + d) t a b (by rw [hfs]; exact hu) (by simpa using hs), hfs]
     exact hr
   all_goals (cases h; done)
theorem equal_v {t : TypeId} {ls : List Lk} (h : leaves P t = some ls) {w : World} {a b : Array Value} (ca : confB ls a.toList = true) (cb : confB ls b.toList = true) :
  P.eqGuardType P.depth t = false /\ ∃ r : Bool, (Op.equal t (.agg a) (.agg b)).run P w = .ok r w /\ (r = true ↔ a.toList = b.toList) := by
 unfold leaves at h
 split at h
 ·cases h
 ·rename_i hg
  refine ⟨by simpa using hg, ?_⟩
  have hw : isCv P t (.agg a) a.toList /\ isCv P t (.agg b) b.toList := by
   unfold isCv
   split at h
   ·exact ⟨⟨_, rfl, rfl⟩, ⟨_, rfl, rfl⟩⟩
   ·exact ⟨⟨_, rfl, rfl⟩, ⟨_, rfl, rfl⟩⟩
   ·cases h
  have hl : lvs P 50 t = some ls := by split at h <;> first | exact h | cases h
  exact equalIn_v 9950 50 t ls hl w _ _ _ _ hw.1 hw.2 ca cb
end
def eqAnd (b : Bool) : Option Bool -> Option Bool
 | some r => some (b && r)
 | none => none
def eqL : List Lk -> List AV -> List AV -> Option Bool
 | [], [], [] => some true
 | .i k :: ks, .int k1 a :: xs, .int k2 b :: ys => if k1 = k /\ k2 = k then eqAnd (a == b) (eqL ks xs ys) else none
 | .b :: ks, .bool a :: xs, .bool b :: ys => eqAnd (a == b) (eqL ks xs ys)
 | .s :: ks, .str a :: xs, .str b :: ys => eqAnd (a.toList == b.toList) (eqL ks xs ys)
 | _, _, _ => none
def binA (op : BinOp) : Option Bool -> Option (AV × Prop)
 | some r => match op with
  | .eql => some (.bool r, True)
  | .neq => some (.bool (!r), True)
  | _ => none
 | none => none
theorem eqAnd_some {b r : Bool} {o : Option Bool} (h : eqAnd b o = some r) : ∃ r', o = some r' /\ r = (b && r') := by
 cases o with
 | none => cases h
 | some r' => cases h; exact ⟨_, rfl, rfl⟩
section
variable {κ : Kz} {H : Hp} {w : World}
def AllCv (κ : Kz) (H : Hp) (w : World) : List AV -> List Value -> Prop
 | [], [] => True
 | x :: xs, v :: vs => RV κ H w x v /\ AllCv κ H w xs vs
 | _, _ => False
theorem AllCv.of : ∀ {cs : List AV} {vs : List Value}, vs.length = cs.length -> (∀ (i : Nat) (x : AV) (v : Value), cs[i]? = some x -> vs[i]? = some v -> RV κ H w x v) -> AllCv κ H w cs vs
 | [], [], _, _ => trivial
 | [], _ :: _, h, _ => by cases h
 | _ :: _, [], h, _ => by cases h
 | c :: cs, v :: vs, h, hv => ⟨hv 0 c v rfl rfl, AllCv.of (by simpa using h) fun i x v h1 h2 => hv (i + 1) x v (by simpa using h1) (by simpa using h2)⟩
theorem rvInt {k : IntKind} {n : Int} {v : Value} (h : RV κ H w (.int k n) v) : v = .int k n := by cases h with | imm h => cases h; rfl
theorem rvStr {b : ByteArray} {v : Value} (h : RV κ H w (.str b) v) : v = .string b := by cases h with | imm h => cases h; rfl
theorem rvBool {b : Bool} {v : Value} (h : RV κ H w (.bool b) v) : v = .bool b := by cases h with | imm h => cases h; rfl
theorem eqL_spec : ∀ (ks : List Lk) (xs ys : List AV) {r : Bool} {as bs : List Value}, eqL ks xs ys = some r -> AllCv κ H w xs as -> AllCv κ H w ys bs -> confB ks as = true /\ confB ks bs = true /\ (r = true ↔ as = bs)
 | ks, xs, ys, r, as, bs, h, hx, hy => by
  unfold eqL at h
  split at h
  ·cases h
   cases as <;> first | (cases hx; done) | skip
   cases bs <;> first | (cases hy; done) | skip
   exact ⟨rfl, rfl, by simp⟩
  ·split at h
   ·rename_i hk
    obtain ⟨rfl, rfl⟩ := hk
    obtain ⟨r', h', rfl⟩ := eqAnd_some h
    cases as <;> first | (cases hx; done) | skip
    cases bs <;> first | (cases hy; done) | skip
    obtain ⟨x1, x2⟩ := hx
    obtain ⟨y1, y2⟩ := hy
    obtain ⟨c1, c2, c3⟩ := eqL_spec _ _ _ h' x2 y2
    obtain rfl := rvInt x1
    obtain rfl := rvInt y1
    exact ⟨by simp [confB, Lk.fits, c1], by simp [confB, Lk.fits, c2], by simp [c3]⟩
   ·cases h
  ·obtain ⟨r', h', rfl⟩ := eqAnd_some h
   cases as <;> first | (cases hx; done) | skip
   cases bs <;> first | (cases hy; done) | skip
   obtain ⟨x1, x2⟩ := hx
   obtain ⟨y1, y2⟩ := hy
   obtain ⟨c1, c2, c3⟩ := eqL_spec _ _ _ h' x2 y2
   obtain rfl := rvBool x1
   obtain rfl := rvBool y1
   exact ⟨by simp [confB, Lk.fits, c1], by simp [confB, Lk.fits, c2], by simp [c3]⟩
  ·obtain ⟨r', h', rfl⟩ := eqAnd_some h
   cases as <;> first | (cases hx; done) | skip
   cases bs <;> first | (cases hy; done) | skip
   obtain ⟨x1, x2⟩ := hx
   obtain ⟨y1, y2⟩ := hy
   obtain ⟨c1, c2, c3⟩ := eqL_spec _ _ _ h' x2 y2
   obtain rfl := rvStr x1
   obtain rfl := rvStr y1
   exact ⟨by simp [confB, Lk.fits, c1], by simp [confB, Lk.fits, c2], by simp [c3, ByteArray.toList_eq, ByteArray.ext_iff]⟩
  ·cases h
end
section
variable {P : Program} {κ : Kz} {H : Hp} {w : World}
theorem eqGuard_agg {op : BinOp} {t : TypeId} {X Y : Operand} {a b : Array Value} (h : P.eqGuardType P.depth t = false) : (eqGuard op t X Y (.agg a) (.agg b)).run P w = .ok () w := by
 cases op <;> first | rfl | simp [eqGuard, h]
theorem bin_agg {op : BinOp} {t : TypeId} {ks : List Lk} (hl : leaves P t = some ks) {xs ys : List AV} {v : AV} {φ : Prop} (h : binA op (eqL ks xs ys) = some (v, φ)) {vx vy : Value} (hx : RV κ H w (.agg xs) vx) (hy : RV κ H w (.agg ys) vy) (X Y : Operand) :
  ∃ u, (do eqGuard op t X Y vx vy; binOp op t vx vy : Sem Value).run P w = .ok u w /\ RV κ H w v u := by
 cases hx with
 | imm h => cases h
 | agg _ a la ha _ =>
 cases hy with
 | imm h => cases h
 | agg _ b lb hb _ =>
 unfold binA at h
 split at h
 ·rename_i r hr
  obtain ⟨c1, c2, c3⟩ := eqL_spec (κ := κ) (H := H) (w := w) (as := a.toList) (bs := b.toList) _ _ _ hr (.of (by simpa using la) (fun i x v h1 h2 => ha i x v h1 (by simpa using h2))) (.of (by simpa using lb) (fun i x v h1 h2 => hb i x v h1 (by simpa using h2)))
  obtain ⟨hg, q, hq, hiff⟩ := equal_v hl (w := w) c1 c2
  have e : q = r := by
   cases q <;> cases r <;> simp_all
  subst e
  split at h
  ·cases h
   exact ⟨_, by simp [eqGuard_agg hg, binOp, hq], .imm (.bool _)⟩
  ·cases h
   exact ⟨_, by simp [eqGuard_agg hg, binOp, hq], .imm (.bool _)⟩
  ·cases h
 ·cases h
end
end Go.Aw

/- Arithmetic, comparisons, conversions over abstract values. Own work. -/
namespace Go.Aw
open Go
section
variable {κ : Kz} {H : Hp} {w : World}
theorem RV.int_inv {k : IntKind} {n : Int} {v : Value} (h : RV κ H w (.int k n) v) : v = .int k n := by cases h with | imm h => cases h; rfl
theorem RV.str_inv {b : ByteArray} {v : Value} (h : RV κ H w (.str b) v) : v = .string b := by cases h with | imm h => cases h; rfl
theorem RV.nilp_inv {v : Value} (h : RV κ H w .nilp v) : v = .pointer none := by cases h with | imm h => cases h; rfl
theorem RV.nilf_inv {v : Value} (h : RV κ H w .nilf v) : v = .nilFunc := by cases h with | imm h => cases h; rfl
theorem RV.nilsl_inv {v : Value} (h : RV κ H w .nilsl v) : v = .slice none 0 0 := by
 cases h with
 | imm h => cases h
 | nilsl => rfl
theorem RV.ptr_inv {o i c : Nat} {v : Value} (h : RV κ H w (.ptr o i c) v) : ∃ a, v = .pointer (some a) := by
 cases h with
 | imm h => cases h
 | ptr => exact ⟨_, rfl⟩
theorem RV.rop_inv {e : AV} {c : Nat} {v : Value} (h : RV κ H w (.rop e c) v) : ∃ a, v = .pointer (some a) := by
 cases h with
 | imm h => cases h
 | rop => exact ⟨_, rfl⟩
theorem RV.int (k : IntKind) (n : Int) : RV κ H w (.int k n) (.int k n) := .imm (.int k n)
theorem RV.bool (b : Bool) : RV κ H w (.bool b) (.bool b) := .imm (.bool b)
theorem RV.str (b : ByteArray) : RV κ H w (.str b) (.string b) := .imm (.str b)
end
def bitsI (op : BinOp) (k : IntKind) (a b : Int) : Int :=
 let x := BitVec.ofInt k.bits a
 let y := BitVec.ofInt k.bits b
 match op with
 | .and => k.wrap (x &&& y).toNat
 | .or => k.wrap (x ||| y).toNat
 | .xor => k.wrap (x ^^^ y).toNat
 | _ => k.wrap (x &&& ~~~y).toNat
def binv (P : Program) (op : BinOp) (t : TypeId) (x y : AV) : Option (AV × Prop) :=
 match x, y with
 | .int k a, .int k' b =>
  match op with
  | .shl => some (.int k (k.wrap (a * 2 ^ min b.toNat k.bits)), 0 ≤ b)
  | .shr => some (.int k (a.fdiv (2 ^ min b.toNat k.bits)), 0 ≤ b)
  | _ =>
  if k = k' then
   match op with
   | .add => some (.int k (k.wrap (a + b)), True)
   | .sub => some (.int k (k.wrap (a - b)), True)
   | .mul => some (.int k (k.wrap (a * b)), True)
   | .quo => some (.int k (k.wrap (a.tdiv b)), b ≠ 0)
   | .rem => some (.int k (a.tmod b), b ≠ 0)
   | .and | .or | .xor | .andNot => some (.int k (bitsI op k a b), True)
   | .eql => some (.bool (a == b), True)
   | .neq => some (.bool (a != b), True)
   | .lss => some (.bool (decide (a < b)), True)
   | .leq => some (.bool (decide (a ≤ b)), True)
   | .gtr => some (.bool (decide (a > b)), True)
   | .geq => some (.bool (decide (a ≥ b)), True)
   | _ => none
  else none
 | .str a, .str b =>
  match op with
  | .add => some (.str (a ++ b), a.size + b.size ≤ 9223372036854775807)
  | .eql => some (.bool (a.toList == b.toList), True)
  | .neq => some (.bool (!(a.toList == b.toList)), True)
  | .lss => some (.bool (Op.bytesLess a.toList b.toList), True)
  | .leq => some (.bool (Op.bytesLess a.toList b.toList || a.toList == b.toList), True)
  | .gtr => some (.bool (!(Op.bytesLess a.toList b.toList || a.toList == b.toList)), True)
  | .geq => some (.bool (!Op.bytesLess a.toList b.toList), True)
  | _ => none
 | .bool a, .bool b =>
  match tKind P t, op with
  | some .bool, .eql => some (.bool (a == b), True)
  | some .bool, .neq => some (.bool (!(a == b)), True)
  | _, _ => none
 | .ptr .., .nilp | .nilp, .ptr .. | .rop .., .nilp | .nilp, .rop .. =>
  match tKind P t, op with
  | some .pointer, .eql => some (.bool false, True)
  | some .pointer, .neq => some (.bool true, True)
  | _, _ => none
 | .nilp, .nilp =>
  match tKind P t, op with
  | some .pointer, .eql => some (.bool true, True)
  | some .pointer, .neq => some (.bool false, True)
  | _, _ => none
 | .nilsl, .nilsl =>
  match tKind P t, op with
  | some .slice, .eql => some (.bool true, True)
  | some .slice, .neq => some (.bool false, True)
  | _, _ => none
 | .fn .., .nilf =>
  match tKind P t, op with
  | some .func, .eql => some (.bool false, True)
  | some .func, .neq => some (.bool true, True)
  | _, _ => none
 | .agg xs, .agg ys =>
  match leaves P t with
  | some ks => binA op (eqL ks xs ys)
  | none => none
 | .junk, .int _ _ => match op with
  | .eql => some (.bool false, False)
  | _ => none
 | _, _ => none
theorem tKind_spec {P : Program} {t : TypeId} : (tKind P t = some .bool -> P.underlying t = some .bool) /\ (tKind P t = some .pointer -> ∃ e, P.underlying t = some (.pointer e)) /\
  (tKind P t = some .slice -> ∃ e, P.underlying t = some (.slice e)) /\ (tKind P t = some .func -> ∃ a b c, P.underlying t = some (.func a b c)) /\ (∀ k, tKind P t = some (.int k) -> P.underlying t = some (.int k)) /\
  (tKind P t = some .string -> P.underlying t = some .string) := by
 unfold tKind
 refine ⟨?_, ?_, ?_, ?_, ?_, ?_⟩ <;> intros <;> split at * <;> simp_all
section
variable {P : Program} {κ : Kz} {H : Hp} {w : World}
theorem eqIn_bool (d : Nat) {t : TypeId} (h : P.underlying t = some .bool) (a b : Bool) : (Op.equalIn (d + 1) t (.bool a) (.bool b)).run P w = .ok (a == b) w := by
 simp [Op.equalIn, run_underlying h]
theorem eqIn_ptr_nil (d : Nat) {t e : TypeId} (h : P.underlying t = some (.pointer e)) (a : Addr) : (Op.equalIn (d + 1) t (.pointer (some a)) (.pointer none)).run P w = .ok false w := by
 simp [Op.equalIn, run_underlying h]
theorem eqIn_nil_ptr (d : Nat) {t e : TypeId} (h : P.underlying t = some (.pointer e)) (a : Option Addr) : (Op.equalIn (d + 1) t (.pointer none) (.pointer a)).run P w = .ok a.isNone w := by
 simp [Op.equalIn, run_underlying h]
theorem eqIn_nil_slice (d : Nat) {t e : TypeId} (h : P.underlying t = some (.slice e)) (a : Option Addr) (n c m k : Nat) : (Op.equalIn (d + 1) t (.slice none n c) (.slice a m k)).run P w = .ok a.isNone w := by
 simp [Op.equalIn, run_underlying h]
theorem eqIn_fn_nil (d : Nat) {t : TypeId} {ps rs : Array TypeId} {v : Bool} (h : P.underlying t = some (.func ps rs v)) (f : Fn) (a b : Array Value) : (Op.equalIn (d + 1) t (.func f a b) .nilFunc).run P w = .ok false w := by
 simp [Op.equalIn, run_underlying h]
theorem run_eq_bool {t : TypeId} (h : P.underlying t = some .bool) (a b : Bool) : (Op.equal t (.bool a) (.bool b)).run P w = .ok (a == b) w := eqIn_bool 9999 h a b
theorem run_eq_ptr_nil {t e : TypeId} (h : P.underlying t = some (.pointer e)) (a : Addr) : (Op.equal t (.pointer (some a)) (.pointer none)).run P w = .ok false w := eqIn_ptr_nil 9999 h a
theorem run_eq_nil_ptr {t e : TypeId} (h : P.underlying t = some (.pointer e)) (a : Option Addr) : (Op.equal t (.pointer none) (.pointer a)).run P w = .ok a.isNone w := eqIn_nil_ptr 9999 h a
theorem run_eq_nil_slice {t e : TypeId} (h : P.underlying t = some (.slice e)) (a : Option Addr) (n c m k : Nat) : (Op.equal t (.slice none n c) (.slice a m k)).run P w = .ok a.isNone w := eqIn_nil_slice 9999 h a n c m k
theorem run_eq_fn_nil {t : TypeId} {ps rs : Array TypeId} {v : Bool} (h : P.underlying t = some (.func ps rs v)) (f : Fn) (a b : Array Value) : (Op.equal t (.func f a b) .nilFunc).run P w = .ok false w := eqIn_fn_nil 9999 h f a b
theorem binv_sound {op : BinOp} {t : TypeId} {x y : AV} {v : AV} {φ : Prop} (h : binv P op t x y = some (v, φ)) (hφ : φ) {vx vy : Value} (hx : RV κ H w x vx) (hy : RV κ H w y vy) (X Y : Operand) :
  ∃ u, (do eqGuard op t X Y vx vy; binOp op t vx vy : Sem Value).run P w = .ok u w /\ RV κ H w v u := by
 obtain ⟨kb, kp, ks, kf, _, _⟩ := tKind_spec (P := P) (t := t)
 unfold binv at h
 split at h
 ·rename_i k a k' b
  obtain rfl := hx.int_inv
  obtain rfl := hy.int_inv
  simp only [eqGuard_at_int, pure_bind]
  split at h
  ·cases h; exact ⟨_, by simp [binOp, Op.shift, show ¬ b < 0 by omega], .int _ _⟩
  ·cases h; exact ⟨_, by simp [binOp, Op.shift, show ¬ b < 0 by omega], .int _ _⟩
  ·split at h
   ·rename_i hk
    subst hk
    split at h <;> first
     | (cases h; refine ⟨_, ?_, .int _ _⟩; simp [binOp, Op.intArith]; done)
     | (cases h; refine ⟨_, ?_, .int _ _⟩; simp [binOp, Op.intDiv, hφ]; done)
     | (cases h; refine ⟨_, ?_, .int _ _⟩; simp [binOp, Op.intBits, bitsI]; done)
     | (cases h; refine ⟨_, ?_, .bool _⟩; simp [binOp, Op.intCmp]; done)
     | cases h
   ·cases h
 ·rename_i a b
  obtain rfl := hx.str_inv
  obtain rfl := hy.str_inv
  simp only [eqGuard_at_string, pure_bind]
  split at h <;> first
   | (cases h; refine ⟨_, ?_, .bool _⟩; simp [binOp, Op.stringOp]; done)
   | (cases h; refine ⟨.string (a ++ b), by
      simp only [binOp, Op.stringOp]
      rw [if_neg (by simp only [IntKind.max_i64]; omega)]
      rfl, .str _⟩; done)
   | cases h
 ·rename_i a b
  obtain rfl := hx.bool_inv
  obtain rfl := hy.bool_inv
  simp only [eqGuard_at_bool, pure_bind]
  split at h
  ·rename_i hk; cases h; exact ⟨_, by simp [binOp, run_eq_bool (kb hk)], .bool _⟩
  ·rename_i hk; cases h; exact ⟨_, by simp [binOp, run_eq_bool (kb hk)], .bool _⟩
  ·cases h
 ·obtain ⟨a, rfl⟩ := hx.ptr_inv
  obtain rfl := hy.nilp_inv
  simp only [eqGuard_at_pointer, pure_bind]
  split at h
  ·rename_i hk; obtain ⟨e, he⟩ := kp hk; cases h; exact ⟨_, by simp [binOp, run_eq_ptr_nil he], .bool _⟩
  ·rename_i hk; obtain ⟨e, he⟩ := kp hk; cases h; exact ⟨_, by simp [binOp, run_eq_ptr_nil he], .bool _⟩
  ·cases h
 ·obtain ⟨a, rfl⟩ := hy.ptr_inv
  obtain rfl := hx.nilp_inv
  simp only [eqGuard_at_pointer, pure_bind]
  split at h
  ·rename_i hk; obtain ⟨e, he⟩ := kp hk; cases h; exact ⟨_, by simp [binOp, run_eq_nil_ptr he], .bool _⟩
  ·rename_i hk; obtain ⟨e, he⟩ := kp hk; cases h; exact ⟨_, by simp [binOp, run_eq_nil_ptr he], .bool _⟩
  ·cases h
 ·obtain ⟨a, rfl⟩ := hx.rop_inv
  obtain rfl := hy.nilp_inv
  simp only [eqGuard_at_pointer, pure_bind]
  split at h
  ·rename_i hk; obtain ⟨e, he⟩ := kp hk; cases h; exact ⟨_, by simp [binOp, run_eq_ptr_nil he], .bool _⟩
  ·rename_i hk; obtain ⟨e, he⟩ := kp hk; cases h; exact ⟨_, by simp [binOp, run_eq_ptr_nil he], .bool _⟩
  ·cases h
 ·obtain ⟨a, rfl⟩ := hy.rop_inv
  obtain rfl := hx.nilp_inv
  simp only [eqGuard_at_pointer, pure_bind]
  split at h
  ·rename_i hk; obtain ⟨e, he⟩ := kp hk; cases h; exact ⟨_, by simp [binOp, run_eq_nil_ptr he], .bool _⟩
  ·rename_i hk; obtain ⟨e, he⟩ := kp hk; cases h; exact ⟨_, by simp [binOp, run_eq_nil_ptr he], .bool _⟩
  ·cases h
 ·obtain rfl := hx.nilp_inv
  obtain rfl := hy.nilp_inv
  simp only [eqGuard_at_pointer, pure_bind]
  split at h
  ·rename_i hk; obtain ⟨e, he⟩ := kp hk; cases h; exact ⟨_, by simp [binOp, run_eq_nil_ptr he], .bool _⟩
  ·rename_i hk; obtain ⟨e, he⟩ := kp hk; cases h; exact ⟨_, by simp [binOp, run_eq_nil_ptr he], .bool _⟩
  ·cases h
 ·obtain rfl := hx.nilsl_inv
  obtain rfl := hy.nilsl_inv
  simp only [eqGuard_at_slice, pure_bind]
  split at h
  ·rename_i hk; obtain ⟨e, he⟩ := ks hk; cases h; exact ⟨_, by simp [binOp, run_eq_nil_slice he], .bool _⟩
  ·rename_i hk; obtain ⟨e, he⟩ := ks hk; cases h; exact ⟨_, by simp [binOp, run_eq_nil_slice he], .bool _⟩
  ·cases h
 ·obtain rfl := hy.nilf_inv
  cases hx with
  | imm h => cases h
  | fn _ _ _ as bs _ _ _ _ =>
  simp only [eqGuard_at_func, pure_bind]
  split at h
  ·rename_i hk; obtain ⟨_, _, _, he⟩ := kf hk; cases h; exact ⟨_, by simp [binOp, run_eq_fn_nil he], .bool _⟩
  ·rename_i hk; obtain ⟨_, _, _, he⟩ := kf hk; cases h; exact ⟨_, by simp [binOp, run_eq_fn_nil he], .bool _⟩
  ·cases h
 ·split at h
  ·rename_i hl; exact bin_agg hl h hx hy X Y
  ·cases h
 ·split at h
  ·cases h; exact hφ.elim
  ·cases h
 ·cases h
end
end Go.Aw

/- The operations that compute or read: one table, and that it is right. Own work. -/
namespace Go.Aw
open Go
def bnd (g : Operand -> AV) (d : Int) : Option Operand -> Option Int
 | none => some d
 | some x => match g x with
  | .int _ n => some n
  | _ => none
def byteAt (s : ByteArray) (i : Nat) : Int := ((s.data[i]?).getD 0).toNat
def vload (P : Program) (H : Hp) (fr : List Nat) (t : TypeId) (x : AV) : Option (AV × Prop) :=
 match tLoad P t with
 | some l => match x with
  | .ptr o i c => if fr.contains o then none else match H o with
   | some ob => some (cut (ob.es.getD i .junk) c l, fits ob.sz c l)
   | none => none
  | .rop e c => some (cut e c l, fits e.cells.length c l)
  | _ => none
 | none => none
def vindexAddr (P : Program) (H : Hp) (t : TypeId) (x ix : AV) : Option (AV × Prop) :=
 match ix with
 | .int _ n => match tIndex P t with
  | some (none, esz, _) => match x with
   | .sl o lo len => match H o with
    | some ob => some (.ptr o (lo + n.toNat) 0, 0 ≤ n /\ n < len /\ ob.sz = esz)
    | none => none
   | .ro sz es => some (.rop (es.getD n.toNat .junk) 0, 0 ≤ n /\ n < es.length /\ sz = esz)
   | .asl o i c len esz' => some (.ptr o i (c + n.toNat * esz'), 0 ≤ n /\ n < len /\ esz' = esz)
   | _ => none
  | some (some L, esz, _) => match x with
   | .ptr o i c => some (.ptr o i (c + n.toNat * esz), 0 ≤ n /\ n < (L : Int))
   | .rop e c => some (.rop e (c + n.toNat * esz), 0 ≤ n /\ n < (L : Int))
   | _ => none
  | none => none
 | _ => none
def vindex (P : Program) (t : TypeId) (x ix : AV) : Option (AV × Prop) :=
 match ix with
 | .int _ n => match x with
  | .agg cs => match tIndex P t with
   | some (some L, esz, l) => some (cut (.agg cs) (n.toNat * esz) l, 0 ≤ n /\ n < (L : Int) /\ fits cs.length (n.toNat * esz) l)
   | _ => none
  | .str s => match tKind P t with
   | some .string => some (.int .u8 (byteAt s n.toNat), 0 ≤ n /\ n < s.size)
   | _ => none
  | _ => none
 | _ => none
def vslice (P : Program) (H : Hp) (t : TypeId) (x : AV) (l : Option Int) (h : Int -> Option Int) (m : Option (Option Int)) : Option (AV × Prop) :=
 match l, m with
 | some l, some m => match x with
  | .str s => match tKind P t, h s.size, m with
   | some .string, some h, none => some (.str (s.extract l.toNat h.toNat), 0 ≤ l /\ l ≤ h /\ h ≤ s.size)
   | _, _, _ => none
  | .ro sz es => match tIndex P t, h es.length with
   | some (none, esz, _), some h => some (.ro sz ((es.drop l.toNat).take (h.toNat - l.toNat)), 0 ≤ l /\ l ≤ h /\ h ≤ es.length /\ sz = esz /\ (∀ m', m = some m' -> h ≤ m' /\ m' ≤ es.length))
   | _, _ => none
  | .sl o lo len => match tIndex P t, h len, H o with
   | some (none, esz, _), some h, some ob => some (.sl o (lo + l.toNat) (h.toNat - l.toNat), 0 ≤ l /\ l ≤ h /\ h ≤ len /\ ob.sz = esz /\ (∀ m', m = some m' -> h ≤ m' /\ m' ≤ len))
   | _, _, _ => none
  | .nilsl => match tIndex P t, h 0 with
   | some (none, _, _), some h => some (.nilsl, l = 0 /\ h = 0 /\ (∀ m', m = some m' -> m' = 0))
   | _, _ => none
  | .ptr o i c => match tIndex P t, m with
   | some (some L, esz, _), none => match h L, H o with
    | some h, some ob => some (.asl o i (c + l.toNat * esz) (h.toNat - l.toNat) esz, 0 ≤ l /\ l ≤ h /\ h ≤ (L : Int) /\ c + L * esz ≤ ob.sz)
    | _, _ => none
   | _, _ => none
  | _ => none
 | _, _ => none
def vlen (P : Program) (t : TypeId) (x : AV) : Option (AV × Prop) :=
 match tKind P t, x with
 | some .string, .str s => some (.int .i64 s.size, True)
 | some .slice, .ro _ es => some (.int .i64 es.length, True)
 | some .slice, .sl _ _ len => some (.int .i64 len, True)
 | some .slice, .asl _ _ _ len _ => some (.int .i64 len, True)
 | some .slice, .nilsl => some (.int .i64 0, True)
 | _, _ => match P.underlying t with
  | some (.array n _) => some (.int .i64 n, True)
  | _ => none
def mx2 (mn : Bool) (a b : Int) : Int := if mn then (if b < a then b else a) else (if b > a then b else a)
def mxL (mn : Bool) (k : IntKind) : Int -> List AV -> Option Int
 | a, [] => some a
 | a, .int k' b :: r => if k = k' then mxL mn k (mx2 mn a b) r else none
 | _, _ :: _ => none
def mxO (k : IntKind) : Option Int -> Option (AV × Prop)
 | some v => some (.int k v, True)
 | none => none
def vmin (mn : Bool) : List AV -> Option (AV × Prop)
 | [.int k a, .int k' b] => if k = k' then some (.int k (if mn then (if b < a then b else a) else (if b > a then b else a)), True) else none
 | [.int k a, .int k' b, .int k'' c] => if k = k' /\ k' = k'' then
   some (.int k (if mn then (let d := if b < a then b else a; if c < d then c else d) else (let d := if b > a then b else a; if c > d then c else d)), True) else none
 | .int k a :: x :: y :: z :: r => mxO k (mxL mn k a (x :: y :: z :: r))
 | _ => none
def placeOf (P : Program) (t : TypeId) (i : Nat) : Option (Nat × Nat) :=
 match P.underlying t with
 | some (.struct fs) => (fs[i]?).map fun f => (f.offset, P.cellsOf f.type)
 | some (.array _ e) => some (i * P.cellsOf e, P.cellsOf e)
 | _ => none
def setl (cs : List AV) (off : Nat) : List AV -> List AV
 | [] => cs
 | x :: r => setl (cs.set off x) (off + 1) r
def AV.storable0 : AV -> Bool
 | .junk | .gd _ _ | .tup _ => false
 | _ => true
def fillS (place : Nat -> Option (Nat × Nat)) : List AV -> List (Nat × AV) -> Option (List AV × Prop)
 | cs, [] => some (cs, True)
 | cs, (i, v) :: r => match place i with
  | some (off, size) => if v.storable0 then match fillS place (setl cs off v.cells) r with
   | some (cs', φ) => some (cs', v.cells.length = size /\ off + size ≤ cs.length /\ φ)
   | none => none
   else none
  | none => none
def zero1 : Value -> AV
 | .int k n => .int k n
 | .bool b => .bool b
 | .string s => .str s
 | .pointer none => .nilp
 | .slice none 0 0 => .nilsl
 | .nilFunc => .nilf
 | .nilIface => .nili
 | .map none => .nilm
 | _ => .junk
def zeroOf (P : Program) (t : TypeId) : Option (List AV) :=
 match P.info? t with
 | some i => match i.zero with
  | some z => if z.cells.toList.all Value.oneCell' then some (z.cells.toList.map zero1) else none
  | none => none
 | none => none
def buildable (P : Program) (t : TypeId) : Bool :=
 match P.underlying t with
 | some (.struct fs) => fs.toList.all fun f => (P.info? f.type).isSome
 | some (.array _ e) => (P.info? e).isSome
 | _ => false
def vbuild (P : Program) (t : TypeId) (parts : List (Nat × AV)) : Option (AV × Prop) :=
 match zeroOf P t with
 | some zs => if buildable P t then match fillS (placeOf P t) zs parts with
  | some (cs, φ) => some (.agg cs, φ)
  | none => none
  else none
 | none => none
def vbuiltin (P : Program) (g : Operand -> AV) (b : Builtin) (args : List Operand) (ts : List TypeId) : Option (AV × Prop) :=
 match b with
 | .len => match args, ts with
  | [x], [t] => vlen P t (g x)
  | _, _ => none
 | .min => vmin true (args.map g)
 | .max => vmin false (args.map g)
 | _ => none
def keyD : TypeDesc -> Option Nat
 | .string => some 0
 | .bool => some 1
 | .int k => some (ikc k + 2)
 | _ => none
def zAV : Value -> Option AV
 | .agg cs => if cs.toList.all Value.oneCell' then some (.agg (cs.toList.map zero1)) else none
 | v => if v.oneCell' then some (zero1 v) else none
def tMap (P : Program) (t : TypeId) : Option (Nat × AV) :=
 match P.underlying t with
 | some (.map k e) => match P.underlying k, P.info? e with
  | some d, some i => match keyD d, i.zero with
   | some c, some z => match zAV z with
    | some v => some (c, v)
    | none => none
   | _, _ => none
  | _, _ => none
 | _ => none
def keyC : AV -> Option Nat
 | .str _ => some 0
 | .bool _ => some 1
 | .int k _ => some (ikc k + 2)
 | _ => none
def keyEq : AV -> AV -> Bool
 | .int _ a, .int _ b => a == b
 | .str a, .str b => a == b
 | .bool a, .bool b => a == b
 | _, _ => false
def mfind : List AV -> AV -> Option AV
 | [], _ => none
 | .tup [k', v] :: r, k => if keyEq k k' then some v else mfind r k
 | _ :: r, k => mfind r k
def mput : List AV -> AV -> AV -> List AV
 | [], k, v => [.tup [k, v]]
 | .tup [k', v'] :: r, k, v => if keyEq k k' then .tup [k', v] :: r else .tup [k', v'] :: mput r k v
 | e :: r, k, v => e :: mput r k v
def mlk (ok : Bool) (r : Option AV) (z : AV) : AV := bif ok then .tup [r.getD z, .bool r.isSome] else r.getD z
def vlook (P : Program) (H : Hp) (t : TypeId) (x k : AV) (ok : Bool) : Option (AV × Prop) :=
 match tMap P t with
 | some (c, z) => match x with
  | .nilm => if keyC k = some c then some (mlk ok none z, True) else none
  | .mp o c' => if c' = c /\ keyC k = some c then match H o with
   | some ob => some (mlk ok (mfind ob.es k) z, True)
   | none => none
   else none
  | _ => none
 | none => none
def vop (P : Program) (H : Hp) (fr : List Nat) (g : Operand -> AV) (op : Op) : Option (AV × Prop) :=
 match op with
 | .load t x => vload P H fr t (g x)
 | .nilCheck x => match g x with
  | .ptr o i c => some (.ptr o i c, True)
  | .rop e c => some (.rop e c, True)
  | .fn (.func f) a b => some (.fn (.func f) a b, True)
  | _ => none
 | .fieldAddr t x f => match tField P t f with
  | some (off, _) => match g x with
   | .ptr o i c => some (.ptr o i (c + off), True)
   | .rop e c => some (.rop e (c + off), True)
   | _ => none
  | none => none
 | .field t x f => match tField P t f, g x with
  | some (off, l), .agg cs => some (cut (.agg cs) off l, fits cs.length off l)
  | _, _ => none
 | .indexAddr t x ix => vindexAddr P H t (g x) (g ix)
 | .index t x ix => vindex P t (g x) (g ix)
 | .binOp op t x y _ => binv P op t (g x) (g y)
 | .unOp op _ x => match op, g x with
  | .not, .bool b => some (.bool !b, True)
  | .neg, .int k n => some (.int k (k.wrap (0 - n)), True)
  | .xor, .int k n => some (.int k (bitsI .xor k (if k.signed then -1 else k.max) n), True)
  | _, _ => none
 | .convert src dst x => match g x with
  | .int _ n => match tKind P src, tKind P dst with
   | some _, some (.int k) => some (.int k (k.wrap n), True)
   | _, _ => none
  | .str s => match tKind P src, tKind P dst with
   | some _, some .string => some (.str s, True)
   | _, _ => none
  | _ => none
 | .slice t x lo hi mx => vslice P H t (g x) (bnd g 0 lo) (fun n => bnd g n hi) (match mx, hi with | none, _ => some none | some y, some _ => (bnd g 0 (some y)).map some | _, _ => none)
 | .build t parts => vbuild P t (parts.toList.map fun p => (p.1, g p.2))
 | .extract x i => match g x with
  | .tup vs => match vs[i]? with
   | some v => some (v, True)
   | none => none
  | _ => none
 | .makeFunc f first cap => some (.fn f (first.toList.map g) (cap.toList.map g), True)
 | .lookup t x k ok => vlook P H t (g x) (g k) ok
 | .sliceToArrayPointer t x => match tIndex P t, g x with
  | some (some 1, _, _), .sl o lo len => some (.ptr o lo 0, 1 ≤ len)
  | some (some n, _, _), .ro sz es => some (.rop (.agg (es.take n)) 0, 0 < n /\ n ≤ es.length /\ sz = 1 /\ ∀ e ∈ es.take n, e.cells = [e])
  | _, _ => none
 | .makeInterface t x => match P.underlying t with
  | some (.interface _) => none
  | some _ => some (.ifc t (g x), True)
  | none => none
 | .call c => match c.callee with
  | .builtin b => vbuiltin P g b c.args.toList c.argTypes.toList
  | _ => none
 | _ => none
end Go.Aw

/- That the table of operations that compute or read is right. Own work. -/
namespace Go.Aw
open Go
section
variable {cx : Cx} {κ : Kz} {s : St} {a : Act} {w : World} {P : Program}
theorem vload_sound (R : RelK cx κ s a w) {fr : List Nat} {t : TypeId} {x v : AV} {φ : Prop} (h : vload cx.P s.H fr t x = some (v, φ)) (hφ : φ) {vx : Value} (hx : RV κ s.H w x vx) :
  ∃ u, (Instr.loadAt t vx).run cx.P w = .ok u w /\ RV κ s.H w v u := by
 unfold vload at h
 split at h
 ·rename_i l hl
  split at h
  ·split at h
   ·cases h
   ·split at h
    ·rename_i ob hob
     cases h
     exact R.load_ptr hl hob hφ hx
    ·cases h
  ·cases h
   exact load_rop hl hφ hx
  ·cases h
 ·cases h
theorem tField_spec {t : TypeId} {f off : Nat} {l : Option Nat} (h : tField P t f = some (off, l)) :
  ∃ fs fd i, P.underlying t = some (.struct fs) /\ fs[f]? = some fd /\ P.info? fd.type = some i /\ i.size ≠ 0 /\ fd.offset = off /\ tLoad P fd.type = some l := by
 unfold tField at h
 split at h
 ·rename_i fs hu
  split at h
  ·rename_i fd hf
   split at h
   ·rename_i i hi
    split at h
    ·cases h
    ·rename_i hz
     obtain ⟨l', h1, h2⟩ := Option.map_eq_some_iff.1 h
     cases h2
     exact ⟨fs, fd, i, hu, hf, hi, hz, rfl, h1⟩
   ·cases h
  ·cases h
 ·cases h
theorem run_fieldAt {t : TypeId} {f off : Nat} {l : Option Nat} (h : tField P t f = some (off, l)) (b o : Nat) :
  (Instr.fieldAt t (.pointer (some ⟨b, o, none⟩)) f).run P w = .ok (.pointer (some ⟨b, o + off, none⟩)) w := by
 obtain ⟨fs, fd, i, hu, hf, hi, hz, ho, _⟩ := tField_spec h
 simp [Instr.fieldAt, run_underlying hu, hf, Instr.sureAddr, fieldPlace, run_sizeOf hi, hz, Addr.add_lit, ho]
theorem run_part {H : Hp} {t : TypeId} {l : Option Nat} (hl : tLoad P t = some l) {cs : List AV} {vs : Array Value} {off : Nat} (hv : RV κ H w (.agg cs) (.agg vs)) (hf : fits cs.length off l) :
  ∃ u, (part t vs off).run P w = .ok u w /\ RV κ H w (cut (.agg cs) off l) u := by
 cases hv with
 | imm h => cases h
 | agg _ _ hlen hr h1 =>
  cases l with
  | none =>
   simp only [fits] at hf
   have hlt : off < vs.size := by omega
   refine ⟨vs[off], by simp [part, tLoad_one hl, Array.getElem?_eq_getElem hlt], ?_⟩
   simp only [cut, AV.cells, List.getD_eq_getElem?_getD, List.getElem?_eq_getElem hf, Option.getD_some]
   exact hr off _ _ (List.getElem?_eq_getElem hf) (Array.getElem?_eq_getElem hlt)
  | some n =>
   simp only [fits] at hf
   obtain ⟨ha, hs⟩ := tLoad_agg (w := w) hl
   refine ⟨.agg (vs.extract off (off + n)), by simp [part, ha, hs], ?_⟩
   simp only [cut, AV.cells]
   refine .agg _ _ (by simp; omega) (fun i x v hx hv => ?_) (fun i v hv => ?_)
   ·rw [List.getElem?_take] at hx
    split at hx
    ·rw [List.getElem?_drop] at hx
     rw [Array.getElem?_extract] at hv
     split at hv
     ·exact hr _ x v hx hv
     ·cases hv
    ·cases hx
   ·rw [Array.getElem?_extract] at hv
    split at hv
    ·exact h1 _ v hv
    ·cases hv
theorem RV.agg_inv {H : Hp} {cs : List AV} {v : Value} (h : RV κ H w (.agg cs) v) : ∃ vs, v = .agg vs := by
 cases h with
 | imm h => cases h
 | agg _ vs _ _ _ => exact ⟨vs, rfl⟩
theorem tIndex_slice {t : TypeId} {esz : Nat} {l : Option Nat} (h : tIndex P t = some (none, esz, l)) : ∃ e i, P.underlying t = some (.slice e) /\ P.info? e = some i /\ i.size = esz /\ tLoad P e = some l := by
 unfold tIndex at h
 split at h
 ·rename_i e hu
  split at h
  ·rename_i i hi
   obtain ⟨l', h1, h2⟩ := Option.map_eq_some_iff.1 h
   cases h2
   exact ⟨e, i, hu, hi, rfl, h1⟩
  ·cases h
 ·split at h
  ·obtain ⟨l', h1, h2⟩ := Option.map_eq_some_iff.1 h; cases h2
  ·cases h
 ·cases h
theorem tIndex_array {t : TypeId} {L esz : Nat} {l : Option Nat} (h : tIndex P t = some (some L, esz, l)) : ∃ e i, P.underlying t = some (.array L e) /\ P.info? e = some i /\ i.size = esz /\ tLoad P e = some l := by
 unfold tIndex at h
 split at h
 ·split at h
  ·obtain ⟨l', h1, h2⟩ := Option.map_eq_some_iff.1 h; cases h2
  ·cases h
 ·rename_i n e hu
  split at h
  ·rename_i i hi
   obtain ⟨l', h1, h2⟩ := Option.map_eq_some_iff.1 h
   cases h2
   exact ⟨e, i, hu, hi, rfl, h1⟩
  ·cases h
 ·cases h
theorem run_indexAt_sl {t e : TypeId} {i : TypeInfo} (hu : P.underlying t = some (.slice e)) (hi : P.info? e = some i) (b off len cap : Nat) (k : IntKind) (n : Int) (h0 : 0 ≤ n) (h1 : n < len) :
  (Instr.indexAt t (.slice (some ⟨b, off, none⟩) len cap) (.int k n)).run P w = .ok (.pointer (some ⟨b, off + n.toNat * i.size, none⟩)) w := by
 simp [Instr.indexAt, run_underlying hu, asIntOf, run_sizeOf hi, Addr.add_lit, h0, h1]
theorem run_indexAt_arr {t e : TypeId} {i : TypeInfo} {L : Nat} (hu : P.underlying t = some (.array L e)) (hi : P.info? e = some i) (b off : Nat) (k : IntKind) (n : Int) (h0 : 0 ≤ n) (h1 : n < (L : Int)) :
  (Instr.indexAt t (.pointer (some ⟨b, off, none⟩)) (.int k n)).run P w = .ok (.pointer (some ⟨b, off + n.toNat * i.size, none⟩)) w := by
 simp [Instr.indexAt, run_underlying hu, asIntOf, Instr.sureAddr, run_sizeOf hi, Addr.add_lit, h0, h1]
theorem vindexAddr_sound {H : Hp} {t : TypeId} {x ix v : AV} {φ : Prop} (h : vindexAddr P H t x ix = some (v, φ)) (hφ : φ) {vx vi : Value} (hx : RV κ H w x vx) (hi : RV κ H w ix vi) :
  ∃ u, (Instr.indexAt t vx vi).run P w = .ok u w /\ RV κ H w v u := by
 unfold vindexAddr at h
 split at h
 ·rename_i k n
  obtain rfl := hi.int_inv
  split at h
  ·rename_i esz l ht
   obtain ⟨e, i, hu, hi', hz, _⟩ := tIndex_slice ht
   split at h
   ·rename_i o lo len
    split at h
    ·rename_i ob hob
     cases h
     obtain ⟨h0, h1, h2⟩ := hφ
     cases hx with
     | imm h => cases h
     | sl _ _ _ ob' A cap hH hbox hlen hcap hA =>
      rw [hob] at hH
      cases hH
      rcases hA with hA | ⟨b, base, m, e1, e2, e3⟩
      ·omega
      ·subst e2
       refine ⟨_, run_indexAt_sl hu hi' b (base + lo * ob.sz) len cap k n h0 h1, ?_⟩
       have := RV.ptr (κ := κ) (H := H) (w := w) o (lo + n.toNat) 0 ob b base m hob e1 (by omega)
       rwa [show base + (lo + n.toNat) * ob.sz + 0 = base + lo * ob.sz + n.toNat * i.size by rw [Nat.add_mul, hz, <- h2]; omega] at this
    ·cases h
   ·rename_i sz es
    cases h
    obtain ⟨h0, h1, h2⟩ := hφ
    cases hx with
    | imm h =>
     cases h with
     | ro _ _ A cap b off vs hA hcap hz' hc hr =>
      obtain ⟨rfl, hb⟩ := hA (by omega)
      refine ⟨_, run_indexAt_sl hu hi' b off es.length cap k n h0 h1, ?_⟩
      have hlt : n.toNat < es.length := by omega
      have he : es[n.toNat]? = some (es.getD n.toNat .junk) := by rw [List.getD_eq_getElem?_getD, List.getElem?_eq_getElem hlt]; rfl
      have := RV.rop (κ := κ) (H := H) (w := w) (es.getD n.toNat .junk) 0 b (off + n.toNat * sz) (vs n.toNat) hb (fun j x hj => hc _ _ j x he hj) (fun j x hj => hr _ _ j x he hj)
      rwa [show off + n.toNat * sz + 0 = off + n.toNat * i.size by rw [hz, h2]; rfl] at this
   ·rename_i o i' c len esz'
    cases h
    obtain ⟨h0, h1, h2⟩ := hφ
    cases hx with
    | imm h => cases h
    | asl _ _ _ _ _ ob A cap b base m hH hμ hlt hlen hcap hA =>
     rcases hA with hA | rfl
     ·omega
     ·refine ⟨_, run_indexAt_sl hu hi' b _ len cap k n h0 h1, ?_⟩
      have := RV.ptr (κ := κ) (H := H) (w := w) o i' (c + n.toNat * esz') ob b base m hH hμ hlt
      rwa [show base + i' * ob.sz + (c + n.toNat * esz') = base + i' * ob.sz + c + n.toNat * i.size by rw [hz, h2]; omega] at this
   ·cases h
  ·rename_i L esz l ht
   obtain ⟨e, i, hu, hi', hz, _⟩ := tIndex_array ht
   split at h
   ·rename_i o i' c
    cases h
    obtain ⟨h0, h1⟩ := hφ
    cases hx with
    | imm h => cases h
    | ptr _ _ _ ob b base m hH hμ hlt =>
     refine ⟨_, run_indexAt_arr hu hi' b _ k n h0 h1, ?_⟩
     have := RV.ptr (κ := κ) (H := H) (w := w) o i' (c + n.toNat * esz) ob b base m hH hμ hlt
     rwa [show base + i' * ob.sz + (c + n.toNat * esz) = base + i' * ob.sz + c + n.toNat * i.size by rw [hz]; omega] at this
   ·rename_i e' c
    cases h
    obtain ⟨h0, h1⟩ := hφ
    cases hx with
    | imm h => cases h
    | rop _ _ b off vs hb hc hr =>
     refine ⟨_, run_indexAt_arr hu hi' b _ k n h0 h1, ?_⟩
     have := RV.rop (κ := κ) (H := H) (w := w) e' (c + n.toNat * esz) b off vs hb hc hr
     rwa [show off + (c + n.toNat * esz) = off + c + n.toNat * i.size by rw [hz]; omega] at this
   ·cases h
  ·cases h
 ·cases h
theorem vindex_sound {H : Hp} {t : TypeId} {x ix v : AV} {φ : Prop} (h : vindex P t x ix = some (v, φ)) (hφ : φ) {vx vi : Value} (hx : RV κ H w x vx) (hi : RV κ H w ix vi) :
  ∃ u, (Instr.index t vx vi).run P w = .ok u w /\ RV κ H w v u := by
 unfold vindex at h
 split at h
 ·rename_i k n
  obtain rfl := hi.int_inv
  split at h
  ·rename_i cs
   split at h
   ·rename_i L esz l ht
    cases h
    obtain ⟨h0, h1, h2⟩ := hφ
    obtain ⟨e, i, hu, hi', hz, hl⟩ := tIndex_array ht
    obtain ⟨vs, rfl⟩ := hx.agg_inv
    obtain ⟨u, g1, g2⟩ := run_part (P := P) hl hx h2
    refine ⟨u, ?_, g2⟩
    simp only [Instr.index, asIntOf, pure_bind, Sem.run_bind, run_underlying hu, Result.andThen_ok]
    rw [if_pos ⟨h0, h1⟩]
    simp only [Sem.run_bind, run_sizeOf hi', Result.andThen_ok, hz]
    exact g1
   ·cases h
  ·rename_i b
   split at h
   ·rename_i ht
    cases h
    obtain ⟨h0, h1⟩ := hφ
    obtain rfl := hx.str_inv
    have hu := (tKind_spec (P := P) (t := t)).2.2.2.2.2 ht
    have hlt : n.toNat < b.size := by omega
    refine ⟨.int .u8 (b[n.toNat]'hlt).toNat, ?_, ?_⟩
    ·simp only [Instr.index, asIntOf, pure_bind, Sem.run_bind, run_underlying hu, Result.andThen_ok]
     rw [if_pos h0]
     have : b[n.toNat]? = some b[n.toNat] := by simp [hlt]
     rw [this]
     rfl
    ·have : byteAt b n.toNat = ((b[n.toNat]'hlt).toNat : Int) := by
      unfold byteAt
      have h3 : n.toNat < b.data.size := hlt
      rw [Array.getElem?_eq_getElem h3]
      rfl
     rw [this]
     exact .int _ _
   ·cases h
  ·cases h
 ·cases h
end
end Go.Aw

/- Slicing, len, min, max; the table of operations as one. Own work. -/
namespace Go.Aw
open Go
section
variable {cx : Cx} {κ : Kz} {s : St} {a : Act} {w : World} {P : Program}
theorem run_bounds (isS : Bool) (len cap : Nat) {lo hi mx : Option Value} {l h : Int} {m : Option Int}
  (hl : (lo = none /\ l = 0) \/ ∃ k, lo = some (.int k l)) (hh : (hi = none /\ h = len) \/ ∃ k, hi = some (.int k h)) (hm : (mx = none /\ m = none) \/ ∃ k m', mx = some (.int k m') /\ m = some m' /\ hi ≠ none)
  (h0 : 0 ≤ l) (h1 : l ≤ h) (h2 : h ≤ m.getD cap) (h3 : m.getD cap ≤ (cap : Int)) :
  (Instr.sliceBounds isS len cap lo hi mx).run P w = .ok (l.toNat, h.toNat, (m.getD cap).toNat) w := by
 have eh : ((h.toNat : Nat) : Int) = h := Int.toNat_of_nonneg (by omega)
 rcases hm with ⟨rfl, rfl⟩ | ⟨km, m', rfl, rfl, hne⟩
 ·simp only [Option.getD_none, Int.toNat_natCast] at h2 h3 ⊢
  rcases hh with ⟨rfl, rfl⟩ | ⟨kh, rfl⟩ <;> rcases hl with ⟨rfl, rfl⟩ | ⟨kl, rfl⟩
  ·simp [Instr.sliceBounds]
  ·simp only [Instr.sliceBounds, Sem.run_bind, Sem.run_pure, Result.andThen_ok]
   rw [run_sliceBound w kl l len _ h0 h1]
   simp
  ·simp only [Instr.sliceBounds, Sem.run_bind, Sem.run_pure, Result.andThen_ok]
   rw [run_sliceBound w kh h cap _ (by omega) h2]
   simp
  ·simp only [Instr.sliceBounds, Sem.run_bind, Sem.run_pure, Result.andThen_ok]
   rw [run_sliceBound w kh h cap _ (by omega) h2]
   simp only [Result.andThen_ok]
   rw [run_sliceBound w kl l h.toNat _ h0 (by omega)]
   simp
 ·simp only [Option.getD_some] at h2 h3 ⊢
  have em : ((m'.toNat : Nat) : Int) = m' := Int.toNat_of_nonneg (by omega)
  rcases hh with ⟨rfl, rfl⟩ | ⟨kh, rfl⟩
  ·exact absurd rfl hne
  rcases hl with ⟨rfl, rfl⟩ | ⟨kl, rfl⟩
  ·simp only [Instr.sliceBounds, Sem.run_bind]
   rw [run_sliceBound w km m' cap _ (by omega) h3]
   simp only [Result.andThen_ok]
   rw [run_sliceBound w kh h m'.toNat _ (by omega) (by omega)]
   simp
  ·simp only [Instr.sliceBounds, Sem.run_bind]
   rw [run_sliceBound w km m' cap _ (by omega) h3]
   simp only [Result.andThen_ok]
   rw [run_sliceBound w kh h m'.toNat _ (by omega) (by omega)]
   simp only [Result.andThen_ok]
   rw [run_sliceBound w kl l h.toNat _ h0 (by omega)]
   simp
theorem bnd_ok {H : Hp} {g : Operand -> AV} {d : Int} {x : Option Operand} {l : Int} (h : bnd g d x = some l) (hg : ∀ y, x = some y -> RV κ H w (g y) (a.eval y)) : (x.map a.eval = none /\ l = d) \/ ∃ k, x.map a.eval = some (.int k l) := by
 unfold bnd at h
 split at h
 ·cases h; exact .inl ⟨rfl, rfl⟩
 ·rename_i y
  split at h
  ·rename_i k n hk
   cases h
   have := hg y rfl
   rw [hk] at this
   exact .inr ⟨k, by simp [this.int_inv]⟩
  ·cases h
theorem vslice_sound {H : Hp} {t : TypeId} {x v : AV} {lA : Option Int} {hA' : Int -> Option Int} {mA : Option (Option Int)} {φ : Prop} (h : vslice P H t x lA hA' mA = some (v, φ)) (hφ : φ) {vx : Value} (hx : RV κ H w x vx)
  {lo hi mx : Option Value} (hl : ∀ l, lA = some l -> (lo = none /\ l = 0) \/ ∃ k, lo = some (.int k l)) (hh : ∀ d l, hA' d = some l -> (hi = none /\ l = d) \/ ∃ k, hi = some (.int k l))
  (hm : ∀ m, mA = some m -> (mx = none /\ m = none) \/ ∃ k m', mx = some (.int k m') /\ m = some m' /\ hi ≠ none) :
  ∃ u, (Instr.sliceAt t vx lo hi mx).run P w = .ok u w /\ RV κ H w v u := by
 unfold vslice at h
 split at h
 case h_2 => cases h
 rename_i l m
 have hl := hl l rfl
 have hm := hm m rfl
 split at h
 ·rename_i b
  split at h
  case h_2 => cases h
  rename_i h' ht hh' _
  cases h
  obtain ⟨h0, h1, h2⟩ := hφ
  have hu := (tKind_spec (P := P) (t := t)).2.2.2.2.2 ht
  obtain rfl := hx.str_inv
  have hb := run_bounds (P := P) (w := w) false b.size b.size hl (hh _ _ hh') hm h0 h1 (by simpa using h2) (by simp)
  rcases hm with ⟨rfl, _⟩ | ⟨_, _, _, h, _⟩
  ·refine ⟨_, ?_, .str _⟩
   simp only [Instr.sliceAt, Sem.run_bind, run_underlying hu, Result.andThen_ok, Instr.slice, Option.isSome_none, Bool.false_eq_true, if_false, hb]
   rfl
  ·cases h
 ·rename_i sz es
  split at h
  case h_2 => cases h
  rename_i esz l' h' ht hh'
  cases h
  obtain ⟨h0, h1, h2, h3, h4⟩ := hφ
  obtain ⟨e, i, hu, hi', hz, _⟩ := tIndex_slice ht
  cases hx with
  | imm hx =>
   cases hx with
   | ro _ _ A cap b off vs hA hcap hz' hc hr =>
    have hmle : h' ≤ (m.getD cap : Int) /\ (m.getD cap : Int) ≤ cap := by
     cases m with
     | none => simp only [Option.getD_none]; omega
     | some m' => have := h4 m' rfl; simp only [Option.getD_some]; omega
    have hb := run_bounds (P := P) (w := w) true es.length cap hl (hh _ _ hh') hm h0 h1 hmle.1 hmle.2
    refine ⟨.slice (if (m.getD (cap : Int)).toNat = l.toNat then A else A.map (·.add (l.toNat * i.size))) (h'.toNat - l.toNat) ((m.getD (cap : Int)).toNat - l.toNat), ?_, ?_⟩
    ·simp only [Instr.sliceAt, Sem.run_bind, run_underlying hu, Result.andThen_ok, Instr.slice, hb, run_sizeOf hi']
     rfl
    ·have hlen : ((es.drop l.toNat).take (h'.toNat - l.toNat)).length = h'.toNat - l.toNat := by rw [List.length_take, List.length_drop]; omega
     have hget : ∀ (j : Nat) (y : AV), ((es.drop l.toNat).take (h'.toNat - l.toNat))[j]? = some y -> es[l.toNat + j]? = some y := fun j y hj => by
      rw [List.getElem?_take] at hj
      split at hj
      ·rwa [List.getElem?_drop] at hj
      ·cases hj
     have := RI.ro (im := κ.im) (w := w) sz ((es.drop l.toNat).take (h'.toNat - l.toNat)) (if (m.getD (cap : Int)).toNat = l.toNat then A else A.map (·.add (l.toNat * i.size))) ((m.getD (cap : Int)).toNat - l.toNat) b (off + l.toNat * sz)
      (fun i j => vs (l.toNat + i) j)
      (fun hpos => by
       rw [hlen] at hpos
       obtain ⟨rfl, hb'⟩ := hA (by omega)
       refine ⟨?_, hb'⟩
       rw [if_neg (by omega), Option.map_some, Addr.add_lit, hz, h3])
      (by rw [hlen]; omega)
      (fun i e hi => hz' _ e (hget i e hi))
      (fun i e j y hi hj => by
       have := hc _ e j y (hget i e hi) hj
       rwa [show off + l.toNat * sz + i * sz + j = off + (l.toNat + i) * sz + j by rw [Nat.add_mul]; omega])
      (fun i e j y hi hj => hr _ e j y (hget i e hi) hj)
     rw [hlen] at this
     exact .imm this
 ·rename_i o lo' len
  split at h
  case h_2 => cases h
  rename_i esz l' h' ob ht hh' hob
  cases h
  obtain ⟨h0, h1, h2, h3, h4⟩ := hφ
  obtain ⟨e, i, hu, hi', hz, _⟩ := tIndex_slice ht
  cases hx with
  | imm h => cases h
  | sl _ _ _ ob' A cap hH hbox hlen hcap hA =>
   rw [hob] at hH
   cases hH
   have hmle : h' ≤ (m.getD cap : Int) /\ (m.getD cap : Int) ≤ cap := by
    cases m with
    | none => simp only [Option.getD_none]; omega
    | some m' => have := h4 m' rfl; simp only [Option.getD_some]; omega
   have hb := run_bounds (P := P) (w := w) true len cap hl (hh _ _ hh') hm h0 h1 hmle.1 hmle.2
   refine ⟨.slice (if (m.getD (cap : Int)).toNat = l.toNat then A else A.map (·.add (l.toNat * i.size))) (h'.toNat - l.toNat) ((m.getD (cap : Int)).toNat - l.toNat), ?_, ?_⟩
   ·simp only [Instr.sliceAt, Sem.run_bind, run_underlying hu, Result.andThen_ok, Instr.slice, hb, run_sizeOf hi']
    rfl
   ·refine .sl o (lo' + l.toNat) (h'.toNat - l.toNat) ob _ _ hob hbox (by omega) (by omega) ?_
    by_cases hml : (m.getD (cap : Int)).toNat = l.toNat
    ·exact .inl (by omega)
    ·rw [if_neg hml]
     rcases hA with hA | ⟨b, base, n, e1, e2, e3⟩
     ·exact .inl (by omega)
     ·subst e2
      refine .inr ⟨b, base, n, e1, ?_, ?_⟩
      ·rw [Option.map_some, Addr.add_lit, hz, <- h3, Nat.add_mul, Nat.add_assoc]
      ·have : lo' + l.toNat + ((m.getD (cap : Int)).toNat - l.toNat) ≤ lo' + cap := by omega
       have := Nat.mul_le_mul_right ob.sz this
       omega
 ·split at h
  case h_2 => cases h
  rename_i esz l' h' ht hh'
  cases h
  obtain ⟨rfl, rfl, h4⟩ := hφ
  obtain ⟨e, i, hu, hi', hz, _⟩ := tIndex_slice ht
  obtain rfl := hx.nilsl_inv
  have hm0 : (m.getD ((0 : Nat) : Int)) = 0 := by
   cases m with
   | none => rfl
   | some m' => simpa using h4 m' rfl
  have hb := run_bounds (P := P) (w := w) true 0 0 hl (hh _ _ hh') hm (by omega) (by omega) (by rw [hm0]; omega) (by rw [hm0]; omega)
  rw [hm0] at hb
  refine ⟨.slice none 0 0, ?_, .nilsl⟩
  simp only [Instr.sliceAt, Sem.run_bind, run_underlying hu, Result.andThen_ok, Instr.slice, hb, run_sizeOf hi']
  rfl
 ·rename_i o i' c
  split at h
  case h_2 => cases h
  rename_i L esz l' ht _
  split at h
  case h_2 => cases h
  rename_i h' ob hh' hob
  cases h
  obtain ⟨h0, h1, h2, h3⟩ := hφ
  obtain ⟨e, i, hu, hi', hz, _⟩ := tIndex_array ht
  rcases hm with ⟨rfl, _⟩ | ⟨_, _, _, h, _⟩
  case inr => cases h
  cases hx with
  | imm h => cases h
  | ptr _ _ _ ob' b base n hH hμ hlt =>
   rw [hob] at hH
   cases hH
   have hb := run_bounds (P := P) (w := w) false L L hl (hh _ _ hh') (.inl ⟨rfl, rfl⟩) h0 h1 (by simpa using h2) (by simp)
   simp only [Option.getD_none, Int.toNat_natCast] at hb
   refine ⟨.slice (some (if L = l.toNat then ⟨b, base + i' * ob.sz + c, none⟩ else Addr.add ⟨b, base + i' * ob.sz + c, none⟩ (l.toNat * i.size))) (h'.toNat - l.toNat) (L - l.toNat), ?_, ?_⟩
   ·simp only [Instr.sliceAt, Sem.run_bind, run_underlying hu, Result.andThen_ok, Instr.sureAddr, Sem.run_pure, hb, run_sizeOf hi']
   ·have hle : l.toNat * esz + (h'.toNat - l.toNat) * esz ≤ L * esz := by
     rw [<- Nat.add_mul]
     exact Nat.mul_le_mul_right _ (by omega)
    refine .asl o i' _ _ esz ob _ _ b base n hob hμ hlt (by omega) (by omega) ?_
    by_cases hL : L = l.toNat
    ·exact .inl (by omega)
    ·refine .inr ?_
     rw [if_neg hL, Addr.add_lit, hz, Nat.add_assoc]
 ·cases h
theorem vlen_sound {H : Hp} {t : TypeId} {x v : AV} {φ : Prop} (h : vlen P t x = some (v, φ)) {vx : Value} (hx : RV κ H w x vx) (ty : TypeId) :
  ∃ u, (Builtin.len_ #[t] ty #[vx]).run P w = .ok u w /\ RV κ H w v u := by
 have hk := tKind_spec (P := P) (t := t)
 unfold vlen at h
 split at h
 ·rename_i b ht
  cases h
  obtain rfl := hx.str_inv
  exact ⟨_, by simp [Builtin.len_, run_underlying (hk.2.2.2.2.2 ht)]; rfl, .int _ _⟩
 ·rename_i sz es ht
  cases h
  obtain ⟨e, he⟩ := hk.2.2.1 ht
  cases hx with
  | imm h => cases h; exact ⟨_, by simp [Builtin.len_, run_underlying he]; rfl, .int _ _⟩
 ·rename_i o lo len ht
  cases h
  obtain ⟨e, he⟩ := hk.2.2.1 ht
  cases hx with
  | imm h => cases h
  | sl => exact ⟨_, by simp [Builtin.len_, run_underlying he]; rfl, .int _ _⟩
 ·rename_i o i c len esz ht
  cases h
  obtain ⟨e, he⟩ := hk.2.2.1 ht
  cases hx with
  | imm h => cases h
  | asl => exact ⟨_, by simp [Builtin.len_, run_underlying he]; rfl, .int _ _⟩
 ·rename_i ht
  cases h
  obtain ⟨e, he⟩ := hk.2.2.1 ht
  obtain rfl := hx.nilsl_inv
  exact ⟨_, by simp [Builtin.len_, run_underlying he]; rfl, .int _ _⟩
 ·split at h
  ·rename_i n e hu
   cases h
   refine ⟨.int .i64 n, ?_, .int _ _⟩
   simp only [Builtin.len_, List.getElem?_toArray, List.getElem?_cons_zero, Sem.run_bind, run_underlying hu, Result.andThen_ok]
   rfl
  ·cases h
theorem mxL_sound {H : Hp} {mn : Bool} {k : IntKind} : ∀ {l : List AV} {a v : Int} {vs : List Value}, mxL mn k a l = some v -> vs.length = l.length -> (∀ (i : Nat) (x : AV) (u : Value), l[i]? = some x -> vs[i]? = some u -> RV κ H w x u) ->
  (vs.foldlM (if mn then Builtin.min2 else Builtin.max2) (.int k a)).run P w = .ok (.int k v) w
 | [], a, v, vs, h, hl, _ => by
  simp only [mxL, Option.some.injEq] at h
  subst h
  have : vs = [] := List.eq_nil_of_length_eq_zero hl
  subst this
  rfl
 | x :: r, a, v, vs, h, hl, hv => by
  match vs, hl with
  | u :: us, hl =>
   cases x <;> simp only [mxL] at h <;> first | cases h | skip
   rename_i k' b hl2
   split at h
   ·rename_i hk
    subst hk
    have h1 := (hv 0 _ u rfl rfl).int_inv
    subst h1
    have ih := mxL_sound (vs := us) h (by simpa using hl) fun i x u hx hu => hv (i + 1) x u (by simpa using hx) (by simpa using hu)
    rw [List.foldlM_cons]
    have e : ((if mn then Builtin.min2 else Builtin.max2) (.int k a) (.int k b) : Sem Value) = pure (.int k (mx2 mn a b)) := by
     cases mn <;> simp [Builtin.min2, Builtin.max2, mx2]
    rw [e]
    simpa using ih
   ·cases h
theorem vmin_sound {H : Hp} {l : List AV} {v : AV} {φ : Prop} {mn : Bool} (h : vmin mn l = some (v, φ)) {vs : List Value} (hlen : vs.length = l.length) (hv : ∀ (i : Nat) (x : AV) (u : Value), l[i]? = some x -> vs[i]? = some u -> RV κ H w x u) (ts : Array TypeId) (ty : TypeId) :
  ∃ u, ((if mn then Builtin.min_ ts ty vs.toArray else Builtin.max_ ts ty vs.toArray)).run P w = .ok u w /\ RV κ H w v u := by
 unfold vmin at h
 split at h
 ·rename_i k a k' b
  split at h
  ·rename_i hk
   subst hk
   cases h
   match vs, hlen with
   | [x, y], _ =>
    have h1 := (hv 0 _ x rfl rfl).int_inv
    have h2 := (hv 1 _ y rfl rfl).int_inv
    subst h1 h2
    cases mn
    ·exact ⟨_, by simp [Builtin.max_, Builtin.max2], .int _ _⟩
    ·exact ⟨_, by simp [Builtin.min_, Builtin.min2], .int _ _⟩
  ·cases h
 ·rename_i k a k' b k'' c
  split at h
  ·rename_i hk
   obtain ⟨h1, h2⟩ := hk
   subst h1 h2
   cases h
   match vs, hlen with
   | [x, y, z], _ =>
    have h1 := (hv 0 _ x rfl rfl).int_inv
    have h2 := (hv 1 _ y rfl rfl).int_inv
    have h3 := (hv 2 _ z rfl rfl).int_inv
    subst h1 h2 h3
    cases mn
    ·exact ⟨_, by simp [Builtin.max_, Builtin.max2], .int _ _⟩
    ·exact ⟨_, by simp [Builtin.min_, Builtin.min2], .int _ _⟩
  ·cases h
 ·rename_i k a x y z r
  unfold mxO at h
  split at h
  ·rename_i v' hm
   cases h
   match vs, hlen with
   | u :: us, hlen =>
    have h1 := (hv 0 _ u rfl rfl).int_inv
    subst h1
    have := mxL_sound (P := P) (vs := us) hm (by simpa using hlen) fun i x u hx hu => hv (i + 1) x u (by simpa using hx) (by simpa using hu)
    refine ⟨_, ?_, .int _ v'⟩
    cases mn
    ·simpa [Builtin.max_] using this
    ·simpa [Builtin.min_] using this
  ·cases h
 ·cases h
end
end Go.Aw

/- Maps: what a look-up and a store do. Own work. -/
namespace Go.Aw
open Go Go.MapKept
theorem RV.zro1 {κ : Kz} {H : Hp} {w : World} (v : Value) : RV κ H w (zero1 v) v := by
 unfold Aw.zero1
 split <;> first | exact .imm (.int _ _) | exact .imm (.bool _) | exact .imm (.str _) | exact .imm .nilp | exact .nilsl | exact .imm .nilf | exact .imm .nili | exact .imm .nilm | exact .junk _
theorem RV.zAV {κ : Kz} {H : Hp} {w : World} {z : Value} {v : AV} (h : zAV z = some v) : RV κ H w v z := by
 unfold Aw.zAV at h
 split at h
 ·split at h
  ·rename_i cs hc
   cases h
   rw [List.all_eq_true] at hc
   refine .agg _ cs (by simp) (fun i x v hx hv => ?_) (fun i v hv => hc v (Array.mem_toList_iff.2 (Array.mem_of_getElem? hv)))
   rw [List.getElem?_map, Array.getElem?_toList, hv] at hx
   cases hx
   exact .zro1 v
  ·cases h
 ·split at h
  ·cases h; exact .zro1 _
  ·cases h
theorem tMap_spec {P : Program} {t : TypeId} {c : Nat} {z : AV} (h : tMap P t = some (c, z)) : ∃ k e d i z0, P.underlying t = some (.map k e) /\ P.underlying k = some d /\ keyD d = some c /\ P.info? e = some i /\ i.zero = some z0 /\ zAV z0 = some z := by
 unfold tMap at h
 split at h
 case h_2 => cases h
 rename_i k e hu
 split at h
 case h_2 => cases h
 rename_i d i hd hi
 split at h
 case h_2 => cases h
 rename_i c' z0 hc hz
 split at h
 case h_2 => cases h
 rename_i v hv
 cases h
 exact ⟨k, e, d, i, z0, hu, hd, hc, hi, hz, hv⟩
theorem ikc_inj {a b : IntKind} (h : ikc a = ikc b) : a = b := by cases a <;> cases b <;> first | rfl | cases h
theorem keyV_isKey {c : Nat} {d : TypeDesc} {k : AV} {m : Value} (hd : keyD d = some c) (h : keyV c k = some m) : IsKey d m := by
 cases d <;> simp only [keyD, Option.some.injEq, reduceCtorEq] at hd <;> subst hd <;> cases k <;> simp only [keyV, Option.ite_none_right_eq_some, reduceCtorEq, Option.some.injEq] at h
 ·obtain ⟨h1, rfl⟩ := h; first | trivial | (simp at h1; done) | omega
 all_goals (obtain ⟨h1, rfl⟩ := h; first | trivial | (simp at h1; done) | omega | skip)
 exact (ikc_inj (by omega)).symm
theorem keyV_of {c : Nat} {k : AV} (h : keyC k = some c) {κ : Kz} {H : Hp} {w : World} {v : Value} (hv : RV κ H w k v) : keyV c k = some v := by
 cases k <;> simp only [keyC, Option.some.injEq, reduceCtorEq] at h <;> subst h
 ·rw [hv.int_inv]; simp [keyV]
 ·rw [hv.bool_inv]; simp [keyV]
 ·rw [hv.str_inv]; simp [keyV]
theorem keyEq_iff {c : Nat} {k k' : AV} {m m' : Value} (h : keyV c k = some m) (h' : keyV c k' = some m') : keyEq k k' = true ↔ m = m' := by
 cases k <;> simp only [keyV, Option.ite_none_right_eq_some, reduceCtorEq, Option.some.injEq] at h <;> obtain ⟨h1, rfl⟩ := h <;> cases k' <;>
  simp only [keyV, Option.ite_none_right_eq_some, reduceCtorEq, Option.some.injEq] at h' <;> obtain ⟨h2, rfl⟩ := h'
 all_goals first | omega | (simp only [keyEq, beq_iff_eq, Value.int.injEq, Value.bool.injEq, Value.string.injEq, bytes_beq]; done) | skip
 all_goals (simp only [keyEq, beq_iff_eq, Value.int.injEq]; try exact ⟨fun h => ⟨ikc_inj (by omega), h⟩, fun h => h.2⟩)
def EntR (κ : Kz) (H : Hp) (w : World) (c : Nat) (es : List AV) (ms : List MapEntry) : Prop :=
 ms.length = es.length /\ ∀ (i : Nat) (e : AV), es[i]? = some e -> ∃ (k v : AV) (m : MapEntry), e = .tup [k, v] /\ ms[i]? = some m /\ keyV c k = some m.key /\ RV κ H w v m.val
theorem EntR.tail {κ : Kz} {H : Hp} {w : World} {c : Nat} {e : AV} {m : MapEntry} {es : List AV} {ms : List MapEntry} (h : EntR κ H w c (e :: es) (m :: ms)) : EntR κ H w c es ms :=
 ⟨by simpa using h.1, fun i x hx => by simpa using h.2 (i + 1) x hx⟩
theorem find_rel {κ : Kz} {H : Hp} {w : World} {c : Nat} {d : TypeDesc} {k : AV} {kv : Value} (hd : keyD d = some c) (hk : keyV c k = some kv) : ∀ {es : List AV} {ms : List MapEntry} (i : Nat), EntR κ H w c es ms ->
  (Instr.findNow d kv ms i = some none /\ mfind es k = none /\ ∀ v, mput es k v = es ++ [.tup [k, v]]) \/
  ∃ j m v k', Instr.findNow d kv ms i = some (some (i + j, m.val)) /\ ms[j]? = some m /\ m.key = kv /\ es[j]? = some (.tup [k', v]) /\ keyV c k' = some kv /\ mfind es k = some v /\ RV κ H w v m.val /\ ∀ u, mput es k u = es.set j (.tup [k', u])
 | [], [], _, _ => .inl ⟨rfl, rfl, fun _ => rfl⟩
 | [], _ :: _, _, h => by have := h.1; simp at this
 | _ :: _, [], _, h => by have := h.1; simp at this
 | e :: es, m :: ms, i, h => by
  obtain ⟨k', v, m', rfl, e1, e2, e3⟩ := h.2 0 e rfl
  cases e1
  obtain ⟨r, hr, hiff⟩ := sameNow_of_keys (keyV_isKey hd hk) (keyV_isKey hd e2)
  have hq := keyEq_iff hk e2
  cases r with
  | true =>
   have hm : kv = m.key := hiff.1 rfl
   have hqt := hq.2 hm
   exact .inr ⟨0, m, v, k', by simp [Instr.findNow, hr], rfl, hm.symm, rfl, by rw [hm]; exact e2, by simp [mfind, hqt], e3, fun u => by simp [mput, hqt]⟩
  | false =>
   have hqf : keyEq k k' = false := by
    cases hc : keyEq k k' with
    | false => rfl
    | true => have := hiff.2 (hq.1 hc); cases this
   rcases find_rel hd hk (i + 1) h.tail with ⟨h1, h2, h3⟩ | ⟨j, m2, v2, k2, h1, h2, h3, h4, h5, h6, h7, h8⟩
   ·exact .inl ⟨by simp [Instr.findNow, hr, h1], by simp [mfind, hqf, h2], fun u => by simp [mput, hqf, h3]⟩
   ·exact .inr ⟨j + 1, m2, v2, k2, by simp [Instr.findNow, hr, h1]; omega, by simpa using h2, h3, by simpa using h4, h5, by simp [mfind, hqf, h6], h7, fun u => by simp [mput, hqf, h8]⟩
section
variable {cx : Cx} {κ : Kz} {s : St} {a : Act} {w : World} {P : Program}
theorem RelK.map_at (R : RelK cx κ s a w) {o c : Nat} {vx : Value} (hx : RV κ s.H w (.mp o c) vx) : ∃ ob b es clock, vx = .map (some b) /\ s.H o = some ob /\ κ.μ o = some (b, c + 1, 0) /\ ¬ κ.im b /\ w.heap[b]? = some (.map es clock) /\ EntR κ s.H w c ob.es es.toList /\ ob.sz = 0 := by
 cases hx with
 | imm h => cases h
 | mp _ _ ob b hH hμ =>
  obtain ⟨_, h⟩ := R.rep o ob hH
  rcases h with ⟨h1, _⟩ | ⟨b', base, cs, el, e1, e2, e3, e4, e5⟩ | ⟨h0, b', c', es, clock, h1, h2, h3, h4, h5⟩
  ·rw [h1] at hμ; cases hμ
  ·rw [e1] at hμ
   simp only [Option.some.injEq, Prod.mk.injEq] at hμ
   omega
  ·rw [h1] at hμ
   simp only [Option.some.injEq, Prod.mk.injEq] at hμ
   obtain ⟨rfl, hc, _⟩ := hμ
   have : c' = c := by omega
   subst this
   exact ⟨ob, b', es, clock, rfl, hH, h1, h2, h3, ⟨by simpa using h4, fun i e he => by
    obtain ⟨k, v, m, g1, g2, g3, g4⟩ := h5 i e he
    exact ⟨k, v, m, g1, by simpa using g2, g3, g4⟩⟩, h0⟩
theorem mlk_rv {H : Hp} {ok : Bool} {r : Option AV} {z : AV} {v : Value} (h : RV κ H w (r.getD z) v) : RV κ H w (mlk ok r z) (if ok then .tuple #[v, .bool r.isSome] else v) := by
 cases ok with
 | false => exact h
 | true =>
  refine .tup _ _ rfl fun i x u hx hu => ?_
  match i with
  | 0 => cases hx; cases hu; exact h
  | 1 => cases hx; cases hu; exact .imm (.bool _)
  | i + 2 => simp at hx
theorem run_zeroValueM {t : TypeId} {i : TypeInfo} {z : Value} (hi : P.info? t = some i) (hz : i.zero = some z) : (zeroValue t).run P w = .ok z w := by
 simp [zeroValue, run_typeInfo hi, hz]
theorem vlook_sound (R : RelK cx κ s a w) {t : TypeId} {x k v : AV} {ok : Bool} {φ : Prop} (h : vlook cx.P s.H t x k ok = some (v, φ)) {vx vk : Value} (hx : RV κ s.H w x vx) (hk : RV κ s.H w k vk) :
  ∃ u, (Instr.lookup t vx vk ok).run cx.P w = .ok u w /\ RV κ s.H w v u := by
 unfold vlook at h
 split at h
 case h_2 => cases h
 rename_i c z hm
 obtain ⟨kt, et, d, i, z0, hu, hd, hc, hi, hz, hzv⟩ := tMap_spec hm
 have hz0 : RV κ s.H w z z0 := .zAV hzv
 split at h
 ·split at h
  case isFalse => cases h
  rename_i hkc
  cases h
  have hkv := keyV_of hkc hk
  have hik := keyV_isKey hc hkv
  cases hx with
  | imm hx =>
   cases hx
   refine ⟨if ok then .tuple #[z0, .bool false] else z0, ?_, mlk_rv (r := none) hz0⟩
   have hck := run_checkKey (P := cx.P) (w := w) hd hik true 9999
   have hf : Instr.findNow d vk ([] : List MapEntry) 0 = some none := rfl
   have hfk := run_findKey (P := cx.P) (w := w) hd hf
   simp only [Instr.lookup, Sem.run_bind, run_underlying hu, Result.andThen_ok, Sem.run_pure, pure_bind, Array.isEmpty_empty, hck, hfk, run_zeroValueM hi hz]
 ·rename_i o c'
  split at h
  case isFalse => cases h
  rename_i hkc
  obtain ⟨rfl, hkc⟩ := hkc
  split at h
  case h_2 => cases h
  rename_i ob hob
  cases h
  have hkv := keyV_of hkc hk
  have hik := keyV_isKey hc hkv
  obtain ⟨ob', b, es, clock, rfl, hH, hμ, him, hb, hE, _⟩ := R.map_at hx
  rw [hob] at hH
  cases hH
  have hck := run_checkKey (P := cx.P) (w := w) hd hik es.isEmpty 9999
  rcases find_rel hc hkv 0 hE with ⟨h1, h2, _⟩ | ⟨j, m, v, k', h1, h2, h3, h4, h5, h6, h7, _⟩
  ·have hfk := run_findKey (P := cx.P) (w := w) hd h1
   refine ⟨if ok then .tuple #[z0, .bool false] else z0, ?_, ?_⟩
   ·simp only [Instr.lookup, Sem.run_bind, run_underlying hu, Result.andThen_ok, Sem.run_pure, MapKept.run_getObj_map hb, hck, hfk, run_zeroValueM hi hz, pure_bind]
   ·rw [h2]; exact mlk_rv (r := none) hz0
  ·have hfk := run_findKey (P := cx.P) (w := w) hd h1
   refine ⟨if ok then .tuple #[m.val, .bool true] else m.val, ?_, ?_⟩
   ·simp only [Instr.lookup, Sem.run_bind, run_underlying hu, Result.andThen_ok, Sem.run_pure, MapKept.run_getObj_map hb, hck, hfk, pure_bind]
   ·rw [h6]; exact mlk_rv (r := some v) h7
 ·cases h
theorem RelK.mapSet (R : RelK cx κ s a w) {o c b : Nat} {ob ob' : Ob} {es es' : Array MapEntry} {clock clock' : Nat} (hH : s.H o = some ob) (hμ : κ.μ o = some (b, c + 1, 0)) (hb : w.heap[b]? = some (.map es clock)) (him : ¬ κ.im b)
  (hE : EntR κ s.H w c ob'.es es'.toList) (hlen : ob.es.length ≤ ob'.es.length) (hbox : ob'.box = ob.box) (hsz : ob'.sz = ob.sz) (h0 : ob.sz = 0) :
  RelK cx κ { s with H := upd s.H o (some ob') } a { w with heap := w.heap.setIfInBounds b (.map es' clock') } := by
 obtain ⟨hs1, hs2⟩ := heap_set (o' := .map es' clock') hb
 have hsize : (w.heap.setIfInBounds b (Obj.map es' clock')).size = w.heap.size := by simp
 have hS : Same κ κ s.H (upd s.H o (some ob')) := fun p ob2 hp => by
  by_cases e : p = o
  ·subst e
   rw [hH] at hp
   cases hp
   exact ⟨ob', upd_same _ _ _, hbox, hsz, hlen, rfl⟩
  ·exact ⟨ob2, by rw [upd_ne _ _ e]; exact hp, rfl, rfl, Nat.le_refl _, rfl⟩
 have hm : ∀ {x : AV} {v : Value}, RV κ s.H w x v -> RV κ (upd s.H o (some ob')) { w with heap := w.heap.setIfInBounds b (.map es' clock') } x v := fun h =>
  h.mono (fun _ h => h) (fun b2 hb2 => hs2 b2 fun e => him (e ▸ hb2)) hS
 have back : ∀ p ob2, upd s.H o (some ob') p = some ob2 -> ∃ ob3, s.H p = some ob3 := fun p ob2 hp => by
  by_cases e : p = o
  ·subst e; exact ⟨ob, hH⟩
  ·rw [upd_ne _ _ e] at hp; exact ⟨ob2, hp⟩
 refine ⟨fun p ob2 hp => ?_, fun p p' ob1 ob2 x x' h1 h2 hx hx' he => ?_, fun t => hm (R.env t), R.size, ⟨R.defers.1.mono fun D _ h => by
   show (w.heap.setIfInBounds b _)[D]? = _
   rw [hs2 D fun e => by rw [e, hb] at h; cases h]; exact h, R.defers.2⟩, R.os, R.tape, R.output, by show _ ≤ (w.heap.setIfInBounds b _).size; rw [hsize]; exact R.le,
  fun b2 hb2 hM => ?_, fun p ob2 x hp hx => ?_, R.im0, fun b2 hb2 => by show b2 < (w.heap.setIfInBounds b _).size; rw [hsize]; exact R.imlt b2 hb2, R.imnew, fun p ob2 x hp' hp => ?_, R.pinlo, fun g => hm (R.glob g)⟩
 ·by_cases e : p = o
  ·subst e
   simp only [upd_same, Option.some.injEq] at hp
   subst hp
   refine ⟨fun i e hi => ?_, .inr (.inr ⟨hsz.trans h0, b, c, es', clock', hμ, him, hs1, by simpa using hE.1, fun i e hi => ?_⟩)⟩
   ·obtain ⟨k, v, m, rfl, _⟩ := hE.2 i e hi
    rw [hsz, h0]
    rfl
   ·obtain ⟨k, v, m, g1, g2, g3, g4⟩ := hE.2 i e hi
    exact ⟨k, v, m, g1, by simpa using g2, g3, hm g4⟩
  ·simp only [upd_ne _ _ e] at hp
   obtain ⟨k0, k⟩ := R.rep p ob2 hp
   refine ⟨k0, ?_⟩
   have hne : ∀ x, κ.μ p = some x -> x.1 ≠ b := fun x hx he => e (R.inj p o ob2 ob _ _ hp hH hx hμ he)
   rcases k with k1 | ⟨b2, base2, cs2, el2, f1, f2, f3, f4, f5⟩ | k
   ·exact .inl k1
   ·refine .inr (.inl ⟨b2, base2, cs2, el2, f1, f2, by show (w.heap.setIfInBounds b _)[b2]? = _; rw [hs2 b2 (hne _ f1)]; exact f3, f4, fun i' e' j y hi' hj => ?_⟩)
    obtain ⟨u, g1, g2, g3⟩ := f5 i' e' j y hi' hj
    exact ⟨u, g1, hm g2, g3⟩
   ·exact .inr (.inr (k.same rfl (fun _ _ h => h) (fun x hx => hs2 _ (hne x hx)) hm))
 ·obtain ⟨_, k1⟩ := back _ _ h1
  obtain ⟨_, k2⟩ := back _ _ h2
  exact R.inj p p' _ _ x x' k1 k2 hx hx' he
 ·show (w.heap.setIfInBounds b _)[b2]? = _
  rw [hs2 b2 (fun e => ?_)]
  ·exact R.block b2 hb2 hM
  ·subst e
   rcases R.own o ob _ hH hμ with h | h
   ·exact hM h
   ·simp only at h; omega
 ·obtain ⟨_, k1⟩ := back _ _ hp
  exact R.own p _ x k1 hx
 ·obtain ⟨_, k1⟩ := back _ _ hp
  exact R.pin p _ x hp' k1
def vmput (P : Program) (H : Hp) (t : TypeId) (x k v : AV) : Option (Hp × Prop) :=
 match tMap P t, x with
 | some (c, _), .mp o c' => if c' = c /\ keyC k = some c then match H o with
  | some ob => some (upd H o (some ⟨ob.box, ob.sz, mput ob.es k v⟩), True)
  | none => none
  else none
 | _, _ => none
theorem vmput_sound (R : RelK cx κ s a w) {t : TypeId} {x k v : AV} {H' : Hp} {φ : Prop} (h : vmput cx.P s.H t x k v = some (H', φ)) {vx vk vv : Value} (hx : RV κ s.H w x vx) (hk : RV κ s.H w k vk) (hv : RV κ s.H w v vv) :
  ∃ w', (Instr.mapUpdate t vx vk vv).run cx.P w = .ok () w' /\ RelK cx κ { s with H := H' } a w' := by
 unfold vmput at h
 split at h
 case h_2 => cases h
 rename_i c z o c' hm
 obtain ⟨kt, et, d, i, z0, hu, hd, hc, hi, hz, hzv⟩ := tMap_spec hm
 split at h
 case isFalse => cases h
 rename_i hkc
 obtain ⟨rfl, hkc⟩ := hkc
 split at h
 case h_2 => cases h
 rename_i ob hob
 cases h
 have hkv := keyV_of hkc hk
 have hik := keyV_isKey hc hkv
 obtain ⟨ob', b, es, clock, rfl, hH, hμ, him, hb, hE, h0⟩ := R.map_at hx
 rw [hob] at hH
 cases hH
 have hck := run_checkKey (P := cx.P) (w := w) hd hik false 9999
 rcases find_rel hc hkv 0 hE with ⟨h1, h2, h3⟩ | ⟨j, m, v0, k', h1, h2, h3, h4, h5, h6, h7, h8⟩
 ·have hfk := run_findKey (P := cx.P) (w := w) hd h1
  refine ⟨_, ?_, RelK.mapSet (ob' := ⟨ob.box, ob.sz, mput ob.es k v⟩) (es' := es.push ⟨vk, vv, clock⟩) (clock' := clock + 1) R hob hμ hb him ⟨by simp [h3, hE.1], fun i e hi => ?_⟩ (by simp [h3]) rfl rfl h0⟩
  ·simp only [Instr.mapUpdate, Sem.run_bind, run_underlying hu, Result.andThen_ok, MapKept.run_getObj_map hb, hck, hfk, MapKept.run_setObj_map _ hb]
  ·simp only [h3] at hi
   rw [List.getElem?_append] at hi
   split at hi
   ·rename_i hlt
    obtain ⟨k2, v2, m2, g1, g2, g3, g4⟩ := hE.2 i e hi
    refine ⟨k2, v2, m2, g1, ?_, g3, g4⟩
    rw [Array.toList_push, List.getElem?_append_left (by rw [hE.1]; exact hlt)]
    exact g2
   ·rename_i hlt
    have hi0 : i = ob.es.length := by
     have := (List.getElem?_eq_some_iff.1 hi).1
     simp at this
     omega
    subst hi0
    simp only [Nat.sub_self, List.getElem?_cons_zero, Option.some.injEq] at hi
    subst hi
    refine ⟨k, v, ⟨vk, vv, clock⟩, rfl, ?_, hkv, hv⟩
    rw [Array.toList_push, List.getElem?_append_right (by rw [hE.1]; exact Nat.le_refl _), hE.1, Nat.sub_self]
    rfl
 ·have hfk := run_findKey (P := cx.P) (w := w) hd h1
  have hlt : j < es.size := by have := (List.getElem?_eq_some_iff.1 h2).1; simpa using this
  have hej : es[j]? = some m := by simpa using h2
  have hst : (Instr.keyThatStays m.key vk).run cx.P w = .ok vk w := by
   unfold Instr.keyThatStays
   rw [h3]
   have : Instr.sameBits 10000 vk vk = true := by
    cases d <;> cases vk <;> simp_all [IsKey, Instr.sameBits, bytes_beq]
   simp [this]
  have hmod : (es.modify j fun e => { e with key := vk, val := vv }).toList = es.toList.set j { m with key := vk, val := vv } := by
   apply List.ext_getElem?
   intro i
   simp only [Array.getElem?_toList, Array.getElem?_modify, List.getElem?_set]
   by_cases hij : j = i
   ·subst hij
    have : es[j] = m := by have := (Array.getElem?_eq_some_iff.1 hej).2; exact this
    simp [hlt, this]
   ·simp [hij]
  refine ⟨_, ?_, RelK.mapSet (ob' := ⟨ob.box, ob.sz, mput ob.es k v⟩) (es' := es.modify j fun e => { e with key := vk, val := vv }) (clock' := clock) R hob hμ hb him ⟨by rw [hmod]; simp [h8, hE.1], fun i e hi => ?_⟩ (by simp [h8]) rfl rfl h0⟩
  ·simp only [Instr.mapUpdate, Sem.run_bind, run_underlying hu, Result.andThen_ok, MapKept.run_getObj_map hb, hck, hfk, Nat.zero_add, hej, Option.map_some, Option.getD_some, hst, MapKept.run_setObj_map _ hb]
  ·simp only [h8] at hi
   rw [hmod]
   rw [List.getElem?_set] at hi ⊢
   split at hi
   ·rename_i hij
    subst hij
    rw [if_pos rfl, if_pos (by rw [hE.1]; exact (List.getElem?_eq_some_iff.1 h4).1)]
    split at hi
    ·cases hi
     exact ⟨k', v, _, rfl, rfl, h5, hv⟩
    ·cases hi
   ·rename_i hij
    rw [if_neg hij]
    exact hE.2 i e hi
end
end Go.Aw

/- Structs and arrays built of parts. Own work. -/
namespace Go.Aw
open Go
def PW (κ : Kz) (H : Hp) (w : World) (cs : List AV) (vs : Array Value) : Prop :=
 vs.size = cs.length /\ ∀ (k : Nat) (x : AV) (v : Value), cs[k]? = some x -> vs[k]? = some v -> RV κ H w x v /\ v.oneCell' = true
section
variable {κ : Kz} {H : Hp} {w : World} {P : Program}
theorem foldl_setl (off : Nat) : ∀ (l : List AV) (us : List Value) (k0 : Nat) (cs : List AV) (vs : Array Value), PW κ H w cs vs -> l.length = us.length -> off + k0 + l.length ≤ cs.length ->
  (∀ (k : Nat) (x : AV) (v : Value), l[k]? = some x -> us[k]? = some v -> RV κ H w x v /\ v.oneCell' = true) ->
  PW κ H w (setl cs (off + k0) l) ((us.zipIdx k0).foldl (fun cs p => cs.setIfInBounds (off + p.2) p.1) vs) /\ (setl cs (off + k0) l).length = cs.length
 | [], [], k0, cs, vs, h, _, _, _ => by simpa [setl] using h
 | [], _ :: _, _, _, _, _, hl, _, _ => by simp at hl
 | _ :: _, [], _, _, _, _, hl, _, _ => by simp at hl
 | x :: l, u :: us, k0, cs, vs, h, hl, hle, hr => by
  simp only [List.zipIdx_cons, List.foldl_cons, setl]
  have h' : PW κ H w (cs.set (off + k0) x) (vs.setIfInBounds (off + k0) u) := by
   refine ⟨by simp [h.1], fun k y v hy hv => ?_⟩
   by_cases hk : off + k0 = k
   ·subst hk
    simp only [List.length_cons] at hle
    rw [List.getElem?_set_self (by omega)] at hy
    rw [Array.getElem?_setIfInBounds_self_of_lt (by rw [h.1]; omega)] at hv
    cases hy
    cases hv
    exact hr 0 _ _ rfl rfl
   ·rw [List.getElem?_set_ne hk] at hy
    rw [Array.getElem?_setIfInBounds_ne hk] at hv
    exact h.2 k y v hy hv
  have := foldl_setl off l us (k0 + 1) _ _ h' (by simpa using hl) (by simp at hle ⊢; omega) (fun k x v hx hv => hr (k + 1) x v hx hv)
  simpa [Nat.add_assoc] using this
theorem storable0_cells {x : AV} {v : Value} (h : RV κ H w x v) (hx : x.storable0 = true) : v.cells.size = x.cells.length /\ ∀ (k : Nat) (y : AV) (u : Value), x.cells[k]? = some y -> v.cells[k]? = some u -> RV κ H w y u /\ u.oneCell' = true := by
 have one : ∀ (x : AV) (v : Value), x.cells = [x] -> v.cells = #[v] -> v.oneCell' = true -> RV κ H w x v ->
   v.cells.size = x.cells.length /\ ∀ (k : Nat) (y : AV) (u : Value), x.cells[k]? = some y -> v.cells[k]? = some u -> RV κ H w y u /\ u.oneCell' = true := fun x v h1 h2 h3 h4 => by
  rw [h1, h2]
  refine ⟨rfl, fun k y u hy hu => ?_⟩
  cases k with
  | zero => cases hy; cases hu; exact ⟨h4, h3⟩
  | succ k => simp at hy
 cases h with
 | junk => simp [AV.storable0] at hx
 | tup => simp [AV.storable0] at hx
 | gd => simp [AV.storable0] at hx
 | agg cs vs hl h h1 => exact ⟨hl, fun k y u hy hu => ⟨h k y u hy hu, h1 k u hu⟩⟩
 | imm h => cases h <;> exact one _ _ rfl rfl rfl (.imm (by first | exact .int _ _ | exact .bool _ | exact .str _ | exact .nilp | exact .nilf | exact .nili | exact .nilm | (constructor <;> assumption)))
 | ptr o i c ob b base n hH hμ hi => exact one _ _ rfl rfl rfl (.ptr o i c ob b base n hH hμ hi)
 | rop e c b off vs hb hc hr => exact one _ _ rfl rfl rfl (.rop e c b off vs hb hc hr)
 | nilsl => exact one _ _ rfl rfl rfl .nilsl
 | sl o lo len ob A cap hH hbox hlen hcap hA => exact one _ _ rfl rfl rfl (.sl o lo len ob A cap hH hbox hlen hcap hA)
 | asl o i c len esz ob A cap b base n hH hμ hi hlen hcap hA => exact one _ _ rfl rfl rfl (.asl o i c len esz ob A cap b base n hH hμ hi hlen hcap hA)
 | fn f first cap as bs hl hl' h h' => exact one _ _ rfl rfl rfl (.fn f first cap as bs hl hl' h h')
 | ifc t x v h => exact one _ _ rfl rfl rfl (.ifc t x v h)
 | mp o c ob b hH hμ => exact one _ _ rfl rfl rfl (.mp o c ob b hH hμ)
theorem fillS_sound {place : Nat -> Option (Nat × Nat)} : ∀ (ps : List (Nat × AV)) (qs : List (Nat × Value)) (cs : List AV) (vs : Array Value) (cs' : List AV) (φ : Prop), fillS place cs ps = some (cs', φ) -> φ -> PW κ H w cs vs ->
  ps.length = qs.length -> (∀ (k : Nat) (p : Nat × AV) (q : Nat × Value), ps[k]? = some p -> qs[k]? = some q -> p.1 = q.1 /\ RV κ H w p.2 q.2) ->
  ∃ vs', Instr.fill place vs qs = some vs' /\ PW κ H w cs' vs'
 | [], [], cs, vs, cs', φ, h, _, hp, _, _ => by
  simp only [fillS] at h
  cases h
  exact ⟨vs, rfl, hp⟩
 | [], _ :: _, _, _, _, _, _, _, _, hl, _ => by simp at hl
 | _ :: _, [], _, _, _, _, _, _, _, hl, _ => by simp at hl
 | (i, x) :: ps, (i', v) :: qs, cs, vs, cs', φ, h, hφ, hp, hl, hr => by
  simp only [fillS] at h
  split at h
  case h_2 => cases h
  rename_i off size hpl
  split at h
  case isFalse => cases h
  rename_i hst
  split at h
  case h_2 => cases h
  rename_i cs2 φ2 h2
  cases h
  obtain ⟨hsz, hfit, hφ2⟩ := hφ
  obtain ⟨e1, e2⟩ := hr 0 _ _ rfl rfl
  simp only at e1 e2
  subst e1
  obtain ⟨c1, c2⟩ := storable0_cells e2 hst
  obtain ⟨g1, g2⟩ := foldl_setl off x.cells v.cells.toList 0 cs vs hp (by simp [c1]) (by simp; omega) (fun k y u hy hu => c2 k y u hy (by simpa using hu))
  obtain ⟨vs', f1, f2⟩ := fillS_sound ps qs _ _ cs' φ2 h2 hφ2 (by simpa using g1) (by simpa using hl) (fun k p q hp hq => hr (k + 1) p q hp hq)
  refine ⟨vs', ?_, f2⟩
  simp only [Instr.fill, hpl]
  rw [if_neg (by
   have := hp.1
   simp
   omega)]
  rw [<- Array.foldl_toList, Array.toList_zipIdx]
  exact f1
theorem RV.zero1 (v : Value) : RV κ H w (zero1 v) v := by
 unfold Aw.zero1
 split <;> first | exact .imm (.int _ _) | exact .imm (.bool _) | exact .imm (.str _) | exact .imm .nilp | exact .nilsl | exact .imm .nilf | exact .imm .nili | exact .imm .nilm | exact .junk _
theorem mapM_get : ∀ (fs : List Field), fs.all (fun f => (P.info? f.type).isSome) = true -> ∃ places, fs.mapM (fun f => (P.info? f.type).map fun i => (f.offset, i.size)) = some places /\
  ∀ (i : Nat), places[i]? = (fs[i]?).map fun f => (f.offset, P.cellsOf f.type)
 | [], _ => ⟨[], rfl, by simp⟩
 | f :: fs, h => by
  simp only [List.all_cons, Bool.and_eq_true] at h
  obtain ⟨i, hi⟩ := Option.isSome_iff_exists.1 h.1
  obtain ⟨places, h1, h2⟩ := mapM_get fs h.2
  refine ⟨(f.offset, i.size) :: places, by simp [hi, h1], fun k => ?_⟩
  cases k with
  | zero => simp [Program.cellsOf, hi]
  | succ k => simpa using h2 k
theorem vbuild_sound {t : TypeId} {parts : List (Nat × AV)} {v : AV} {φ : Prop} (h : vbuild P t parts = some (v, φ)) (hφ : φ) {qs : Array (Nat × Value)} (hl : parts.length = qs.size)
  (hr : ∀ (k : Nat) (p : Nat × AV) (q : Nat × Value), parts[k]? = some p -> qs[k]? = some q -> p.1 = q.1 /\ RV κ H w p.2 q.2) :
  ∃ u, (Instr.build t qs).run P w = .ok u w /\ RV κ H w v u := by
 unfold vbuild at h
 split at h
 case h_2 => cases h
 rename_i zs hz
 split at h
 case isFalse => cases h
 rename_i hb
 split at h
 case h_2 => cases h
 rename_i cs φ' hf
 cases h
 unfold zeroOf at hz
 split at hz
 case h_2 => cases hz
 rename_i it hit
 split at hz
 case h_2 => cases hz
 rename_i z hzz
 split at hz
 case isFalse => cases hz
 rename_i hall
 cases hz
 have hpw : PW κ H w (z.cells.toList.map zero1) z.cells := ⟨by simp, fun k x v hx hv => by
  rw [List.getElem?_map, Array.getElem?_toList, hv] at hx
  cases hx
  exact ⟨.zero1 v, List.all_eq_true.1 hall v (by simpa using Array.mem_of_getElem? hv)⟩⟩
 obtain ⟨vs', f1, f2⟩ := fillS_sound parts qs.toList _ _ cs φ hf hφ hpw (by simpa using hl) (fun k p q hp hq => hr k p q hp (by simpa using hq))
 refine ⟨.agg vs', run_build w t qs vs' ?_, .agg cs vs' f2.1 (fun i x v hx hv => (f2.2 i x v hx hv).1) (fun i v hv => ?_)⟩
 ·unfold Program.built
  unfold buildable at hb
  split at hb
  ·rename_i fs hu
   obtain ⟨places, p1, p2⟩ := mapM_get fs.toList hb
   simp only [hit, hu, hzz, p1]
   rw [<- f1]
   congr 1
   funext i
   simp only [List.getElem?_toArray, p2, placeOf, hu, Array.getElem?_toList]
  ·rename_i n e hu
   obtain ⟨ie, hie⟩ := Option.isSome_iff_exists.1 hb
   simp only [hit, hu, hzz, hie]
   rw [<- f1]
   congr 1
   funext i
   simp only [placeOf, hu, Program.cellsOf, hie, Option.map_some, Option.getD_some]
  ·cases hb
 ·have hlt : i < cs.length := by rw [<- f2.1]; exact (Array.getElem?_eq_some_iff.1 hv).1
  exact (f2.2 i _ v (List.getElem?_eq_getElem hlt) hv).2
end
end Go.Aw

/- The table of operations that compute or read, as one; guards. Own work. -/
namespace Go.Aw
open Go
section
variable {cx : Cx} {κ : Kz} {s : St} {a : Act} {w : World} {P : Program}
theorem vop_sound (R : RelK cx κ s a w) {fr : List Nat} {o : Oper} {g : Operand -> AV} (hg : ∀ x ∈ o.op.operands, RV κ s.H w (g x) (a.eval x)) {v : AV} {φ : Prop} (h : vop cx.P s.H fr g o.op = some (v, φ)) (hφ : φ) :
  ∃ u, (execOp a.eval o).run cx.P w = .ok (.value u) w /\ RV κ s.H w v u := by
 obtain ⟨dst, op, type, pos, after, guard⟩ := o
 simp only at hg h ⊢
 unfold vop at h
 split at h
 ·rename_i t x
  obtain ⟨u, h1, h2⟩ := vload_sound R h hφ (hg x (by simp [Op.operands]))
  exact ⟨u, by simp [execOp, h1], h2⟩
 ·rename_i x
  have hx := hg x (by simp [Op.operands])
  split at h
  ·rename_i o i c hk
   cases h
   rw [hk] at hx
   obtain ⟨ad, hv⟩ := hx.ptr_inv
   exact ⟨_, by simp [execOp, hv], hv ▸ hx⟩
  ·rename_i e c hk
   cases h
   rw [hk] at hx
   obtain ⟨ad, hv⟩ := hx.rop_inv
   exact ⟨_, by simp [execOp, hv], hv ▸ hx⟩
  ·rename_i f as bs hk
   cases h
   rw [hk] at hx
   refine ⟨a.eval x, ?_, hx⟩
   generalize hev : a.eval x = vx at hx
   cases hx with
   | imm h => cases h
   | fn => simp [execOp, hev]
  ·cases h
 ·rename_i t x f
  have hx := hg x (by simp [Op.operands])
  split at h
  ·rename_i off l hf
   split at h
   ·rename_i o i c hk
    cases h
    rw [hk] at hx
    generalize hev : a.eval x = vx at hx
    cases hx with
    | imm h => cases h
    | ptr _ _ _ ob b base n hH hμ hlt =>
     refine ⟨.pointer (some ⟨b, base + i * ob.sz + c + off, none⟩), ?_, ?_⟩
     ·simp only [execOp, Sem.run_bind, hev, run_fieldAt hf, Result.andThen_ok]
      rfl
     ·have := RV.ptr (κ := κ) (H := s.H) (w := w) o i (c + off) ob b base n hH hμ hlt
      rwa [<- Nat.add_assoc] at this
   ·rename_i e c hk
    cases h
    rw [hk] at hx
    generalize hev : a.eval x = vx at hx
    cases hx with
    | imm h => cases h
    | rop _ _ b o' vs hb hc hr =>
     refine ⟨.pointer (some ⟨b, o' + c + off, none⟩), ?_, ?_⟩
     ·simp only [execOp, Sem.run_bind, hev, run_fieldAt hf, Result.andThen_ok]
      rfl
     ·have := RV.rop (κ := κ) (H := s.H) (w := w) e (c + off) b o' vs hb hc hr
      rwa [<- Nat.add_assoc] at this
   ·cases h
  ·cases h
 ·rename_i t x f
  have hx := hg x (by simp [Op.operands])
  split at h
  ·rename_i off l cs hf hk
   cases h
   rw [hk] at hx
   obtain ⟨fs, fd, i, hu, hf', hi, hz, ho, hl⟩ := tField_spec hf
   obtain ⟨vs, hv⟩ := hx.agg_inv
   rw [hv] at hx
   obtain ⟨u, h1, h2⟩ := run_part (P := cx.P) hl hx hφ
   refine ⟨u, ?_, h2⟩
   simp only [execOp, Sem.run_bind, Instr.field, run_underlying hu, Result.andThen_ok, hf', hv, asAgg, Sem.run_pure, ho, h1]
  ·cases h
 ·rename_i t x ix
  obtain ⟨u, h1, h2⟩ := vindexAddr_sound h hφ (hg x (by simp [Op.operands])) (hg ix (by simp [Op.operands]))
  exact ⟨u, by simp [execOp, h1], h2⟩
 ·rename_i t x ix
  obtain ⟨u, h1, h2⟩ := vindex_sound h hφ (hg x (by simp [Op.operands])) (hg ix (by simp [Op.operands]))
  exact ⟨u, by simp [execOp, h1], h2⟩
 ·rename_i op t x y yt
  obtain ⟨u, h1, h2⟩ := binv_sound h hφ (hg x (by simp [Op.operands])) (hg y (by simp [Op.operands])) x y
  refine ⟨u, ?_, h2⟩
  simp only [execOp]
  rw [Sem.run_bind, h1]
  rfl
 ·rename_i op t x
  have hx := hg x (by simp [Op.operands])
  split at h
  ·rename_i b hk
   cases h
   rw [hk] at hx
   exact ⟨_, by simp [execOp, hx.bool_inv, Op.unary], .bool _⟩
  ·rename_i k n hk
   cases h
   rw [hk] at hx
   exact ⟨_, by simp [execOp, hx.int_inv, Op.unary, Op.intArith], .int _ _⟩
  ·rename_i k n hk
   cases h
   rw [hk] at hx
   exact ⟨_, by simp [execOp, hx.int_inv, Op.unary, Op.intBits, bitsI], .int _ _⟩
  ·cases h
 ·rename_i src dst x
  have hx := hg x (by simp [Op.operands])
  have hu' : ∀ k, tKind cx.P src = some k -> ∃ d, cx.P.underlying src = some d := fun k hk => by
   unfold tKind at hk
   split at hk <;> first | exact ⟨_, by assumption⟩ | cases hk
  split at h
  ·rename_i k n hk
   split at h
   ·rename_i k1 k2 h1 h2
    cases h
    rw [hk] at hx
    obtain ⟨d, hd⟩ := hu' _ h1
    have := (tKind_spec (P := cx.P) (t := dst)).2.2.2.2.1 _ h2
    exact ⟨_, by simp [execOp, hx.int_inv, convert, run_underlying hd, run_underlying this, Conv.intToInt], .int _ _⟩
   ·cases h
  ·rename_i b hk
   split at h
   ·rename_i k1 h1 h2
    cases h
    rw [hk] at hx
    obtain ⟨d, hd⟩ := hu' _ h1
    have := (tKind_spec (P := cx.P) (t := dst)).2.2.2.2.2 h2
    exact ⟨_, by simp [execOp, hx.str_inv, convert, run_underlying hd, run_underlying this], .str _⟩
   ·cases h
  ·cases h
 ·rename_i t x lo hi mx
  have hm' : ∀ m, (match mx, hi with | none, _ => some none | some y, some _ => (bnd g 0 (some y)).map some | _, _ => none : Option (Option Int)) = some m ->
    (mx.map a.eval = none /\ m = none) \/ ∃ k m', mx.map a.eval = some (.int k m') /\ m = some m' /\ hi.map a.eval ≠ none := fun m hm => by
   split at hm
   ·cases hm; exact .inl ⟨rfl, rfl⟩
   ·rename_i y z
    obtain ⟨m', h1, h2⟩ := Option.map_eq_some_iff.1 hm
    rcases bnd_ok (a := a) h1 (fun y hy => hg y (by cases hy; simp [Op.operands])) with ⟨h3, _⟩ | ⟨k, h3⟩
    ·cases h3
    ·exact .inr ⟨k, m', h3, h2.symm, by simp⟩
   ·cases hm
  obtain ⟨u, h1, h2⟩ := vslice_sound h hφ (hg x (by simp [Op.operands])) (lo := lo.map a.eval) (hi := hi.map a.eval) (mx := mx.map a.eval)
   (fun l hl => bnd_ok hl (fun y hy => hg y (by subst hy; simp [Op.operands]))) (fun d l hl => bnd_ok hl (fun y hy => hg y (by subst hy; simp [Op.operands]))) hm'
  exact ⟨u, by simp [execOp, h1], h2⟩
 ·rename_i t parts
  obtain ⟨u, h1, h2⟩ := vbuild_sound (P := cx.P) (w := w) h hφ (qs := parts.map fun p => (p.1, a.eval p.2)) (by simp) (fun k p q hp hq => by
   rw [List.getElem?_map, Array.getElem?_toList] at hp
   rw [Array.getElem?_map] at hq
   obtain ⟨y, hy, rfl⟩ := Option.map_eq_some_iff.1 hp
   obtain ⟨y', hy', rfl⟩ := Option.map_eq_some_iff.1 hq
   rw [hy] at hy'
   cases hy'
   exact ⟨rfl, hg y.2 (by simp only [Op.operands, List.mem_toArray]; exact List.mem_map.2 ⟨y, by simpa using Array.mem_of_getElem? hy, rfl⟩)⟩)
  exact ⟨u, by simp [execOp, h1], h2⟩
 ·rename_i x i
  have hx := hg x (by simp [Op.operands])
  split at h
  ·rename_i vs hk
   split at h
   ·rename_i v' hv'
    cases h
    rw [hk] at hx
    generalize hev : a.eval x = vx at hx
    cases hx with
    | imm h => cases h
    | tup _ us hl hr =>
     have hlt : i < us.size := by rw [hl]; exact (List.getElem?_eq_some_iff.1 hv').1
     refine ⟨us[i], ?_, hr i _ _ hv' (Array.getElem?_eq_getElem hlt)⟩
     simp [execOp, Instr.extract, hev, Array.getElem?_eq_getElem hlt]
   ·cases h
  ·cases h
 ·rename_i f first cap
  cases h
  refine ⟨.func f (first.map a.eval) (cap.map a.eval), by simp [execOp, Instr.makeFunc], ?_⟩
  refine .fn f _ _ _ _ (by simp) (by simp) (fun i x v hx hv => ?_) (fun i x v hx hv => ?_)
  ·simp only [List.getElem?_map, Array.getElem?_toList, Array.getElem?_map, Option.map_eq_some_iff] at hx hv
   obtain ⟨y, hy, rfl⟩ := hx
   obtain ⟨y', hy', rfl⟩ := hv
   rw [hy] at hy'
   cases hy'
   exact hg y (by simp only [Op.operands, Array.mem_append]; exact .inl (Array.mem_of_getElem? hy))
  ·simp only [List.getElem?_map, Array.getElem?_toList, Array.getElem?_map, Option.map_eq_some_iff] at hx hv
   obtain ⟨y, hy, rfl⟩ := hx
   obtain ⟨y', hy', rfl⟩ := hv
   rw [hy] at hy'
   cases hy'
   exact hg y (by simp only [Op.operands, Array.mem_append]; exact .inr (Array.mem_of_getElem? hy))
 ·rename_i t x k ok
  obtain ⟨u, h1, h2⟩ := vlook_sound R h (hg x (by simp [Op.operands])) (hg k (by simp [Op.operands]))
  exact ⟨u, by simp [execOp, h1], h2⟩
 ·rename_i t x
  split at h
  ·rename_i z1 z2 o lo len hti hgx
   cases h
   have hx := hg x (by simp [Op.operands])
   rw [hgx] at hx
   generalize hev : a.eval x = v at hx
   have hu : ∃ e, cx.P.underlying t = some (.array 1 e) := by
    unfold tIndex at hti
    split at hti
    ·split at hti
     ·obtain ⟨l, _, h2⟩ := Option.map_eq_some_iff.1 hti; simp at h2
     ·cases hti
    ·rename_i n e hu
     split at hti
     ·obtain ⟨l, _, h2⟩ := Option.map_eq_some_iff.1 hti
      simp only [Prod.mk.injEq, Option.some.injEq] at h2
      exact ⟨e, by rw [hu, h2.1]⟩
     ·cases hti
    ·cases hti
   obtain ⟨e, hu⟩ := hu
   cases hx with
   | imm h => cases h
   | sl _ _ _ ob A cap hH hbox hlen hcap hA =>
    rcases hA with h0 | ⟨b, base, n, e1, e2, e3⟩
    ·omega
    ·subst e2
     refine ⟨.pointer (some ⟨b, base + lo * ob.sz, none⟩), ?_, ?_⟩
     ·simp only [execOp, Instr.arrayAt, Sem.run_bind, run_underlying hu, Result.andThen_ok, hev]
      have : ¬ len < 1 := by omega
      simp [this]
     ·have := RV.ptr (κ := κ) (H := s.H) (w := w) o lo 0 ob b base n hH e1 (by omega)
      simpa using this
  ·rename_i z1 n z2 z3 sz es hti hgx
   cases h
   have hx := hg x (by simp [Op.operands])
   rw [hgx] at hx
   generalize hev : a.eval x = v at hx
   obtain ⟨e, i, hu, _⟩ := tIndex_array hti
   obtain ⟨h0, hn, rfl, hone⟩ := hφ
   cases hx with
   | imm h =>
   cases h with
   | ro _ _ A cap b off vs hA hcap hz hc hr =>
    obtain ⟨rfl, hb⟩ := hA (by omega)
    refine ⟨.pointer (some ⟨b, off, none⟩), ?_, ?_⟩
    ·simp only [execOp, Instr.arrayAt, Sem.run_bind, run_underlying hu, Result.andThen_ok, hev]
     have : ¬ es.length < n := by omega
     simp [this]
    ·have hj : ∀ (j : Nat) (x : AV), (es.take n)[j]? = some x -> es[j]? = some x /\ x.cells = [x] := fun j x hx => by
      refine ⟨?_, hone x (List.mem_of_getElem? hx)⟩
      rw [List.getElem?_take] at hx
      split at hx
      ·exact hx
      ·cases hx
     have := RV.rop (κ := κ) (H := s.H) (w := w) (.agg (es.take n)) 0 b off (fun j => vs j 0) hb (fun j x hx => by
      obtain ⟨g1, g2⟩ := hj j x hx
      have := hc j x 0 x g1 (by rw [g2]; rfl)
      simpa using this) (fun j x hx => by
      obtain ⟨g1, g2⟩ := hj j x hx
      exact hr j x 0 x g1 (by rw [g2]; rfl))
     simpa using this
  ·cases h
 ·rename_i t x
  split at h
  ·cases h
  ·rename_i d hd hu
   cases h
   refine ⟨.iface t (a.eval x), ?_, .ifc t _ _ (hg x (by simp [Op.operands]))⟩
   simp only [execOp, Sem.run_bind, Instr.makeInterface, run_underlying hu, Result.andThen_ok]
   first | rfl | (split <;> first | rfl | (rename_i ms hms; exact absurd hms (hd _)))
  ·cases h
 ·rename_i c
  obtain ⟨callee, args, ts⟩ := c
  cases callee with
  | value f => cases h
  | invoke r m => cases h
  | builtin b =>
   simp only at h
   unfold vbuiltin at h
   split at h
   ·split at h
    ·rename_i x t h1 h2
     obtain ⟨u, g1, g2⟩ := vlen_sound h (hg x (by
      have : args = #[x] := by rw [<- Array.toArray_toList (xs := args), h1]
      subst this
      simp [Op.operands, Call.operands])) type
     refine ⟨u, ?_, g2⟩
     have e1 : args = #[x] := by rw [<- Array.toArray_toList (xs := args), h1]
     have e2 : ts = #[t] := by rw [<- Array.toArray_toList (xs := ts), h2]
     subst e1 e2
     simp [execOp, resolve, invoke, builtin, g1]
    ·cases h
   ·have := vmin_sound (P := cx.P) h (vs := args.toList.map a.eval) (by simp) (fun i x u hx hu => by
     simp only [List.getElem?_map, Array.getElem?_toList, Option.map_eq_some_iff] at hx hu
     obtain ⟨y, hy, rfl⟩ := hx
     obtain ⟨y', hy', rfl⟩ := hu
     rw [hy] at hy'
     cases hy'
     exact hg y (by simp only [Op.operands, Call.operands, Array.mem_append]; exact .inr (Array.mem_of_getElem? hy))) ts type
    obtain ⟨u, h1, h2⟩ := this
    refine ⟨u, ?_, h2⟩
    have e : (args.toList.map a.eval).toArray = args.map a.eval := by rw [<- Array.toList_map, Array.toArray_toList]
    simp only [if_true, e] at h1
    simp [execOp, resolve, invoke, builtin, h1]
   ·have := vmin_sound (P := cx.P) h (vs := args.toList.map a.eval) (by simp) (fun i x u hx hu => by
     simp only [List.getElem?_map, Array.getElem?_toList, Option.map_eq_some_iff] at hx hu
     obtain ⟨y, hy, rfl⟩ := hx
     obtain ⟨y', hy', rfl⟩ := hu
     rw [hy] at hy'
     cases hy'
     exact hg y (by simp only [Op.operands, Call.operands, Array.mem_append]; exact .inr (Array.mem_of_getElem? hy))) ts type
    obtain ⟨u, h1, h2⟩ := this
    refine ⟨u, ?_, h2⟩
    have e : (args.toList.map a.eval).toArray = args.map a.eval := by rw [<- Array.toList_map, Array.toArray_toList]
    simp only [Bool.false_eq_true, if_false, e] at h1
    simp [execOp, resolve, invoke, builtin, h1]
   ·cases h
 ·cases h
end
end Go.Aw

/- Contracts of calls; allocations and stores; one step of a region. Own work. -/
namespace Go.Aw
open Go
def AV.pure : AV -> Bool
 | .ptr .. | .sl .. | .asl .. | .mp .. | .junk => false
 | .agg cs | .tup cs => pures cs
 | .fn _ a b => pures a && pures b
 | .gd _ v => v.pure
 | .ifc _ v => v.pure
 | _ => true
where
 pures : List AV -> Bool
  | [] => true
  | x :: r => x.pure && pures r
theorem pures_iff {l : List AV} : AV.pure.pures l = true ↔ ∀ x ∈ l, x.pure = true := by
 induction l with
 | nil => simp [AV.pure.pures]
 | cons x r ih => simp [AV.pure.pures, ih]
def noμ : Nat -> Option (Nat × Nat × Nat) := fun _ => none
def noH : Hp := fun _ => none
theorem RV.pure_of {κ : Kz} {H : Hp} {w : World} {x : AV} {v : Value} (h : RV κ H w x v) (hx : x.pure = true) : RV ⟨noμ, κ.im⟩ noH w x v := by
 induction h with
 | junk v => cases hx
 | imm h => exact .imm h
 | ptr => cases hx
 | rop e c b off vs hb hc hr => exact .rop e c b off vs hb hc hr
 | nilsl => exact .nilsl
 | sl => cases hx
 | asl => cases hx
 | mp => cases hx
 | agg cs vs hl h h1 ih =>
  have hp := pures_iff.1 (by simpa [AV.pure] using hx)
  exact .agg cs vs hl (fun i x v hi hv => ih i x v hi hv (hp x (List.mem_of_getElem? hi))) h1
 | tup cs vs hl h ih =>
  have hp := pures_iff.1 (by simpa [AV.pure] using hx)
  exact .tup cs vs hl (fun i x v hi hv => ih i x v hi hv (hp x (List.mem_of_getElem? hi)))
 | fn f first cap as bs hl hl' h h' ih ih' =>
  simp only [AV.pure, Bool.and_eq_true] at hx
  have h1 := pures_iff.1 hx.1
  have h2 := pures_iff.1 hx.2
  exact .fn f first cap as bs hl hl' (fun i x v hi hv => ih i x v hi hv (h1 x (List.mem_of_getElem? hi))) (fun i x v hi hv => ih' i x v hi hv (h2 x (List.mem_of_getElem? hi)))
 | gd b x v h hf ih => exact .gd b x v (fun e => ih e (by simpa [AV.pure] using hx)) hf
 | ifc t x v h ih => exact .ifc t x v (ih (by simpa [AV.pure] using hx))
def PC (P : Program) (G : Nat -> AV) (f : FuncId) (args : List AV) (r : AV) : Prop :=
 (∀ as w, (callFunc f as).run P w = .ok (.enter f as) w) /\
 ∀ (w : World) (im : Nat -> Prop) (vs : Array Value), (∀ b, im b -> b < w.heap.size) -> (∀ g, RV ⟨noμ, im⟩ noH w (G g) (.pointer (some ⟨g, 0, none⟩))) -> vs.size = args.length ->
  (∀ (i : Nat) (x : AV) (v : Value), args[i]? = some x -> vs[i]? = some v -> RV ⟨noμ, im⟩ noH w x v) ->
  Calls P f vs w fun e w' => ∃ (u : Value) (im' : Nat -> Prop), e = .returned u /\ (∀ b, im b -> im' b) /\ (∀ b, im' b -> im b \/ w.heap.size ≤ b) /\ (∀ b, im' b -> b < w'.heap.size) /\
   RV ⟨noμ, im'⟩ noH w' r u /\ w'.os = w.os /\ w'.tape = w.tape /\ w'.output = w.output /\ w.heap.size ≤ w'.heap.size /\ ∀ b, b < w.heap.size -> w'.heap[b]? = w.heap[b]?
section
variable {cx : Cx} {κ : Kz} {s : St} {a : Act} {w w' : World}
theorem RelK.called (R : RelK cx κ s a w) {im' : Nat -> Prop} (h1 : ∀ b, κ.im b -> im' b) (h2 : ∀ b, im' b -> κ.im b \/ w.heap.size ≤ b) (h3 : ∀ b, im' b -> b < w'.heap.size) (hos : w'.os = w.os) (ht : w'.tape = w.tape)
  (ho : w'.output = w.output) (hle : w.heap.size ≤ w'.heap.size) (hb : ∀ b, b < w.heap.size -> w'.heap[b]? = w.heap[b]?) : RelK cx ⟨κ.μ, im'⟩ s a w' := by
 have hm : ∀ {x : AV} {v : Value}, RV κ s.H w x v -> RV ⟨κ.μ, im'⟩ s.H w' x v := fun h =>
  RV.mono (κ' := ⟨κ.μ, im'⟩) h1 (fun b hb' => hb b (R.imlt b hb')) (fun o ob h => ⟨ob, h, rfl, rfl, Nat.le_refl _, rfl⟩) h
 refine ⟨fun o ob hH => ?_, R.inj, fun t => hm (R.env t), R.size, ⟨R.defers.1.mono fun D _ h => by rw [hb D (Array.getElem?_eq_some_iff.1 h).1]; exact h, R.defers.2⟩, hos.trans R.os, ht.trans R.tape, ho.trans R.output, Nat.le_trans R.le hle, fun b hlt hM => (hb b (Nat.lt_of_lt_of_le hlt R.le)).trans (R.block b hlt hM), R.own,
  fun b h => h1 b (R.im0 b h), h3, fun b h => (h2 b h).elim (R.imnew b) (fun h => .inr (.inr (Nat.le_trans R.le h))), R.pin, R.pinlo, fun g => hm (R.glob g)⟩
 obtain ⟨h0, h⟩ := R.rep o ob hH
 refine ⟨h0, ?_⟩
 rcases h with h | ⟨b, base, cs, el, e1, e2, e3, e4, e5⟩ | h
 ·exact .inl h
 case inr.inr =>
  refine .inr (.inr (h.same rfl (fun x hx hn him => ?_) (fun x hx => hb _ (R.noD hH hx).1) hm))
  rcases h2 _ him with h | h
  ·exact hn h
  ·have := (R.noD hH hx).1
   omega
 ·have hlt : b < w.heap.size := (Array.getElem?_eq_some_iff.1 e3).1
  refine .inr (.inl ⟨b, base, cs, el, e1, fun him => ?_, by rw [hb b hlt]; exact e3, e4, fun i e j x hi hj => ?_⟩)
  ·rcases h2 b him with h | h
   ·exact e2 h
   ·omega
  ·obtain ⟨v, g1, g2, g3⟩ := e5 i e j x hi hj
   exact ⟨v, g1, hm g2, g3⟩
end
/-! ### Operands -/
def stripV : AV -> AV
 | .gd _ v => stripV v
 | v => v
def stripB : AV -> Bool
 | .gd b v => b && stripB v
 | _ => true
theorem RV.strip {κ : Kz} {H : Hp} {w : World} {x : AV} {v : Value} (h : RV κ H w x v) : (stripB x = true -> RV κ H w (stripV x) v) /\ (stripB x = false -> v = undef) := by
 induction h with
 | gd b x v h hf ih =>
  cases b with
  | true => simpa [stripB, stripV] using ih rfl
  | false => exact ⟨fun e => by simp [stripB] at e, fun _ => hf rfl⟩
 | junk v => exact ⟨fun _ => .junk v, fun e => by simp [stripB] at e⟩
 | imm h => cases h <;> exact ⟨fun _ => .imm (by first | exact .int _ _ | exact .bool _ | exact .str _ | exact .nilp | exact .nilf | exact .nili | exact .nilm | (constructor <;> assumption)), fun e => by simp [stripB] at e⟩
 | ptr o i c ob b base n hH hμ hi => exact ⟨fun _ => .ptr o i c ob b base n hH hμ hi, fun e => by simp [stripB] at e⟩
 | rop e c b off vs hb hc hr => exact ⟨fun _ => .rop e c b off vs hb hc hr, fun e => by simp [stripB] at e⟩
 | nilsl => exact ⟨fun _ => .nilsl, fun e => by simp [stripB] at e⟩
 | sl o lo len ob A cap hH hbox hlen hcap hA => exact ⟨fun _ => .sl o lo len ob A cap hH hbox hlen hcap hA, fun e => by simp [stripB] at e⟩
 | asl o i c len esz ob A cap b base n hH hμ hi hlen hcap hA => exact ⟨fun _ => .asl o i c len esz ob A cap b base n hH hμ hi hlen hcap hA, fun e => by simp [stripB] at e⟩
 | agg cs vs hl h h1 ih => exact ⟨fun _ => .agg cs vs hl h h1, fun e => by simp [stripB] at e⟩
 | tup cs vs hl h ih => exact ⟨fun _ => .tup cs vs hl h, fun e => by simp [stripB] at e⟩
 | fn f first cap as bs hl hl' h h' ih ih' => exact ⟨fun _ => .fn f first cap as bs hl hl' h h', fun e => by simp [stripB] at e⟩
 | ifc t x v h ih => exact ⟨fun _ => .ifc t x v h, fun e => by simp [stripB] at e⟩
 | mp o c ob b hH hμ => exact ⟨fun _ => .mp o c ob b hH hμ, fun e => by simp [stripB] at e⟩
def cst1 : Value -> AV
 | .int k n => .int k n
 | .bool b => .bool b
 | .string s => .str s
 | .pointer none => .nilp
 | .slice none 0 0 => .nilsl
 | .nilFunc => .nilf
 | .nilIface => .nili
 | .map none => .nilm
 | _ => .junk
def cst : Value -> AV
 | .agg cs => if cs.toList.all Value.oneCell' then .agg (cs.toList.map cst1) else .junk
 | v => cst1 v
theorem RV.cst1 {κ : Kz} {H : Hp} {w : World} (v : Value) : RV κ H w (cst1 v) v := by
 unfold Aw.cst1
 split <;> first | exact .imm (.int _ _) | exact .imm (.bool _) | exact .imm (.str _) | exact .imm .nilp | exact .nilsl | exact .imm .nilf | exact .imm .nili | exact .imm .nilm | exact .junk _
theorem RV.cst {κ : Kz} {H : Hp} {w : World} (v : Value) : RV κ H w (cst v) v := by
 unfold Aw.cst
 split
 ·rename_i cs
  split
  ·rename_i h
   refine .agg _ cs (by simp) (fun i x v hx hv => ?_) (fun i v hv => ?_)
   ·rw [List.getElem?_map, Array.getElem?_toList, hv] at hx
    cases hx
    exact .cst1 v
   ·exact (List.all_eq_true.1 h) v (by simpa using Array.mem_of_getElem? hv)
  ·exact .junk _
 ·exact .cst1 _
def aev (cx : Cx) (ρ : Nat -> AV) : Operand -> AV
 | .tmp t => ρ t
 | .const v => cst v
 | .global g => cx.G g
 | .func f => .fn (.func f) [] []
theorem RelK.aev {cx : Cx} {κ : Kz} {s : St} {a : Act} {w : World} (R : RelK cx κ s a w) (x : Operand) : RV κ s.H w (aev cx s.ρ x) (a.eval x) := by
 cases x with
 | tmp t => exact R.env t
 | const v => exact .cst v
 | global g => exact R.glob g
 | func f => exact .fn _ [] [] #[] #[] rfl rfl (by simp) (by simp)
def gcond (ds : List (Option Tmp)) (ρ : Nat -> AV) : Option (Nat × Bool) -> Option Bool
 | none => some true
 | some (j, want) => match ds[j]? with
  | some (some d) => match stripV (ρ d) with
   | .bool b => some (stripB (ρ d) && (b == want))
   | _ => none
  | _ => none
theorem gcond_sound {cx : Cx} {κ : Kz} {s : St} {a : Act} {w : World} (R : RelK cx κ s a w) {ops : Array Oper} {o : Oper} {c : Bool} (hn : ∀ o ∈ ops, ∀ d, o.dst = some d -> cx.ok d)
  (h : gcond (ops.toList.map (·.dst)) s.ρ o.guard = some c) : Region.wanted o (yielded ops a.tmps) = c := by
 unfold gcond at h
 unfold Region.wanted
 split at h
 ·rename_i hg; cases h; simp [hg]
 ·rename_i j want hg
  simp only [hg]
  split at h
  ·rename_i d hd
   rw [List.getElem?_map] at hd
   obtain ⟨o', ho', hd'⟩ := Option.map_eq_some_iff.1 hd
   rw [Array.getElem?_toList] at ho'
   split at h
   ·rename_i b hb
    cases h
    have hdn : d < a.tmps.size := by rw [R.size]; exact (hn o' (Array.mem_of_getElem? ho') d hd').1
    have hy : yielded ops a.tmps j = (match a.tmps.getD d undef with | .bool b => some b | _ => none) := by
     simp only [yielded, ho', Option.bind_some, hd', Array.getElem?_eq_getElem hdn, Array.getD_eq_getD_getElem?, Option.getD_some]
     cases a.tmps[d] <;> rfl
    obtain ⟨h1, h2⟩ := (R.env d).strip
    rw [hb] at h1
    cases hs : stripB (s.ρ d) with
    | true =>
     have := (h1 hs).bool_inv
     rw [hy, this]
     simp
    | false =>
     rw [hy, h2 hs]
     simp [undef]
   ·cases h
  ·cases h
end Go.Aw

/- Operations that make objects. Own work. -/
namespace Go.Aw
open Go
def AV.single : AV -> Bool
 | .junk | .gd _ _ | .agg _ | .tup _ => false
 | _ => true
theorem AV.single_cells {x : AV} (h : x.single = true) : x.cells = [x] := by cases x <;> first | rfl | simp [AV.single] at h
theorem RV.single {κ : Kz} {H : Hp} {w : World} {x : AV} {v : Value} (h : RV κ H w x v) (hx : x.single = true) : v.cells = #[v] /\ v.oneCell' = true := by
 cases h with
 | imm h => cases h <;> exact ⟨rfl, rfl⟩
 | junk => simp [AV.single] at hx
 | agg => simp [AV.single] at hx
 | tup => simp [AV.single] at hx
 | gd => simp [AV.single] at hx
 | _ => exact ⟨rfl, rfl⟩
def AV.storable : AV -> Bool
 | .agg _ => true
 | x => x.single
theorem RV.cells {κ : Kz} {H : Hp} {w : World} {x : AV} {v : Value} (h : RV κ H w x v) (hx : x.storable = true) :
  v.cells.size = x.cells.length /\ ∀ (j : Nat) (y : AV), x.cells[j]? = some y -> ∃ u, v.cells[j]? = some u /\ RV κ H w y u /\ u.oneCell' = true := by
 by_cases hs : x.single = true
 ·obtain ⟨h1, h2⟩ := h.single hs
  rw [h1, AV.single_cells hs]
  refine ⟨rfl, fun j y hj => ?_⟩
  cases j with
  | zero => cases hj; exact ⟨v, rfl, h, h2⟩
  | succ j => simp at hj
 ·cases h with
  | agg cs vs hl h h1 =>
   refine ⟨hl, fun j y hj => ?_⟩
   have hlt : j < vs.size := by
    rw [hl]
    exact (List.getElem?_eq_some_iff.1 hj).1
   exact ⟨vs[j], Array.getElem?_eq_getElem hlt, h j y _ hj (Array.getElem?_eq_getElem hlt), h1 j _ (Array.getElem?_eq_getElem hlt)⟩
  | imm h => cases h <;> exact absurd rfl hs
  | _ => simp_all [AV.storable]
def tZero (P : Program) (t : TypeId) : Option (List AV) :=
 match P.info? t with
 | some i => match i.zero with
  | some z => if z.cells.toList.all Value.oneCell' && z.cells.size == i.size then some (z.cells.toList.map cst1) else none
  | none => none
 | none => none
theorem tZero_spec {P : Program} {t : TypeId} {zs : List AV} (h : tZero P t = some zs) : ∃ i z, P.info? t = some i /\ i.zero = some z /\ z.cells.toList.map cst1 = zs /\ z.cells.size = i.size /\ zs.length = i.size /\ ∀ (j : Nat) (v : Value), z.cells[j]? = some v -> v.oneCell' = true := by
 unfold tZero at h
 split at h
 ·rename_i i hi
  split at h
  ·rename_i z hz
   split at h
   ·rename_i hc
    simp only [Bool.and_eq_true, beq_iff_eq, List.all_eq_true] at hc
    cases h
    exact ⟨i, z, hi, hz, rfl, hc.2, by simp [hc.2], fun j v hv => hc.1 v (by simpa using Array.mem_of_getElem? hv)⟩
   ·cases h
  ·cases h
 ·cases h
def mkE (P : Program) (t : TypeId) (cs : List AV) : AV :=
 match tLoad P t with
 | some (some _) => .agg cs
 | _ => cs.getD 0 .junk
def eok (P : Program) (t : TypeId) (cs : List AV) : Bool :=
 match tLoad P t with
 | some (some _) => true
 | some none => match cs with
  | [x] => x.single
  | _ => false
 | none => false
theorem cells_mkE {P : Program} {t : TypeId} {cs : List AV} (h : eok P t cs = true) : (mkE P t cs).cells = cs := by
 unfold eok at h
 unfold mkE
 split at h
 ·rename_i n hn; rw [hn]; rfl
 ·rename_i hn
  rw [hn]
  split at h
  ·rename_i x; exact AV.single_cells h
  ·cases h
 ·cases h
theorem foldl_get (off : Nat) : ∀ (l : List Value) (k0 : Nat) (cs : Array Value) (k : Nat), off + k0 + l.length ≤ cs.size ->
  ((l.zipIdx k0).foldl (fun cs p => cs.setIfInBounds (off + p.2) p.1) cs)[k]? = if off + k0 ≤ k /\ k < off + k0 + l.length then l[k - (off + k0)]? else cs[k]?
 | [], k0, cs, k, h => by
  simp
  omega
 | x :: l, k0, cs, k, h => by
  simp only [List.zipIdx_cons, List.foldl_cons]
  rw [foldl_get off l (k0 + 1) _ k (by simp at h ⊢; omega)]
  simp only [List.length_cons] at h ⊢
  by_cases h1 : k = off + k0
  ·subst h1
   rw [if_neg (by omega), if_pos (by omega)]
   simp [show off + k0 < cs.size by omega]
  ·by_cases h2 : off + (k0 + 1) ≤ k /\ k < off + (k0 + 1) + l.length
   ·rw [if_pos h2, if_pos (by omega)]
    rw [show k - (off + k0) = (k - (off + (k0 + 1))) + 1 by omega]
    rfl
   ·rw [if_neg h2, if_neg (by omega), Array.getElem?_setIfInBounds_ne (fun e => h1 e.symm)]
def Cov (κ : Kz) (H : Hp) (w : World) (sz : Nat) (es : List AV) (cs : Array Value) : Prop :=
 (∀ (i : Nat) (e : AV), es[i]? = some e -> e.cells.length = sz) /\
 ∀ (i : Nat) (e : AV) (j : Nat) (x : AV), es[i]? = some e -> e.cells[j]? = some x -> ∃ v, cs[i * sz + j]? = some v /\ RV κ H w x v /\ v.oneCell' = true
def fillE (sz : Nat) : List AV -> List (Nat × AV) -> Option (List AV × Prop)
 | es, [] => some (es, True)
 | es, (i, v) :: r => if v.storable then match fillE sz (es.set i v) r with
  | some (es', φ) => some (es', i < es.length /\ v.cells.length = sz /\ φ)
  | none => none
 else none
theorem fill_sound {κ : Kz} {H : Hp} {w : World} {sz : Nat} : ∀ (ps : List (Nat × AV)) (qs : List (Nat × Value)) (es : List AV) (cs : Array Value) (es' : List AV) (φ : Prop), fillE sz es ps = some (es', φ) -> φ -> cs.size = es.length * sz -> Cov κ H w sz es cs ->
  ps.length = qs.length -> (∀ (k : Nat) (p : Nat × AV) (q : Nat × Value), ps[k]? = some p -> qs[k]? = some q -> p.1 = q.1 /\ RV κ H w p.2 q.2) ->
  ∃ cs', Instr.fill (fun i => some (i * sz, sz)) cs qs = some cs' /\ cs'.size = es'.length * sz /\ es'.length = es.length /\ Cov κ H w sz es' cs'
 | [], [], es, cs, es', φ, h, _, hs, hc, _, _ => by
  simp only [fillE] at h
  cases h
  exact ⟨cs, rfl, hs, rfl, hc⟩
 | [], _ :: _, _, _, _, _, _, _, _, _, hl, _ => by simp at hl
 | _ :: _, [], _, _, _, _, _, _, _, _, hl, _ => by simp at hl
 | (i, x) :: ps, (i', v) :: qs, es, cs, es', φ, h, hφ, hs, hc, hl, hr => by
  simp only [fillE] at h
  split at h
  case isFalse => cases h
  rename_i hst
  split at h
  case h_2 => cases h
  rename_i es2 φ2 h2
  cases h
  obtain ⟨hi, hsz, hφ2⟩ := hφ
  obtain ⟨e1, e2⟩ := hr 0 _ _ rfl rfl
  simp only at e1 e2
  subst e1
  obtain ⟨c1, c2⟩ := e2.cells hst
  have hle : i * sz + sz ≤ cs.size := by
   rw [hs, <- Nat.succ_mul]
   exact Nat.mul_le_mul_right _ hi
  have hg := fun k => foldl_get (i * sz) v.cells.toList 0 cs k (by simp only [Array.length_toList, c1, hsz]; omega)
  simp only [Array.length_toList, c1, hsz, Nat.add_zero] at hg
  have hsz' : ((v.cells.toList.zipIdx 0).foldl (fun cs p => cs.setIfInBounds (i * sz + p.2) p.1) cs).size = cs.size := by
   have : ∀ (l : List (Value × Nat)) (cs : Array Value), (l.foldl (fun cs p => cs.setIfInBounds (i * sz + p.2) p.1) cs).size = cs.size := by
    intro l
    induction l with
    | nil => intro cs; rfl
    | cons p l ih => intro cs; simp [ih]
   exact this _ _
  have hcov : Cov κ H w sz (es.set i x) ((v.cells.toList.zipIdx 0).foldl (fun cs p => cs.setIfInBounds (i * sz + p.2) p.1) cs) := by
   refine ⟨fun k e hk => ?_, fun k e j y hk hj => ?_⟩
   ·rw [List.getElem?_set] at hk
    split at hk
    ·rename_i hik
     subst hik
     cases hk
     exact hsz
    ·exact hc.1 k e hk
   ·rw [List.getElem?_set] at hk
    split at hk
    ·rename_i hik
     subst hik
     cases hk
     obtain ⟨u, u1, u2, u3⟩ := c2 j y hj
     refine ⟨u, ?_, u2, u3⟩
     have hjl : j < sz := by rw [<- hsz]; exact (List.getElem?_eq_some_iff.1 hj).1
     rw [hg, if_pos (by omega), show i * sz + j - i * sz = j by omega]
     simpa using u1
    ·rename_i hik
     obtain ⟨u, u1, u2, u3⟩ := hc.2 k e j y hk hj
     refine ⟨u, ?_, u2, u3⟩
     have hjl : j < sz := by rw [<- hc.1 k e hk]; exact (List.getElem?_eq_some_iff.1 hj).1
     rw [hg, if_neg (fun hh => ?_)]
     ·exact u1
     ·have : k * sz + j = i * sz + (k * sz + j - i * sz) := by omega
      exact hik (flat_inj this hjl (by omega)).1.symm
  obtain ⟨cs', g1, g2, g3, g4⟩ := fill_sound ps qs (es.set i x) ((v.cells.toList.zipIdx 0).foldl (fun cs p => cs.setIfInBounds (i * sz + p.2) p.1) cs) es' φ2 h2 hφ2 (by rw [hsz', List.length_set]; exact hs)
   hcov (by simpa using hl) (fun k p q hp hq => hr (k + 1) p q hp hq)
  refine ⟨cs', ?_, g2, by simpa using g3, g4⟩
  simp only [Instr.fill]
  rw [if_neg (by simp only [c1, hsz]; simp; omega)]
  rw [<- Array.foldl_toList, Array.toList_zipIdx]
  exact g1
end Go.Aw

/- alloc, box, a slice literal, make. Own work. -/
namespace Go.Aw
open Go
def tSliceElem (P : Program) (t : TypeId) : Option TypeId :=
 match P.underlying t with
 | some (.slice e) => some e
 | _ => none
def aop (P : Program) (g : Operand -> AV) (op : Op) : Option (Ob × (Nat -> AV) × Prop) :=
 match op with
 | .alloc t => match tZero P t with
  | some zs => if eok P t zs then some (⟨true, zs.length, [mkE P t zs]⟩, fun d => .ptr d 0 0, True) else none
  | none => none
 | .box _ x => if (g x).storable then some (⟨true, (g x).cells.length, [g x]⟩, fun d => .ptr d 0 0, True) else none
 | .buildSlice t n parts => match tSliceElem P t with
  | some e => match tZero P e with
   | some zs => if eok P e zs then match fillE zs.length (List.replicate n (mkE P e zs)) (parts.toList.map fun p => (p.1, g p.2)) with
    | some (es, φ) => some (⟨false, zs.length, es⟩, fun d => .sl d 0 n, φ /\ n * zs.length ≤ 16777216)
    | none => none
    else none
   | none => none
  | none => none
 | .makeSlice t l c => match g l, g c with
  | .int _ n, .int _ m => match tSliceElem P t with
   | some e => match tZero P e with
    | some zs => if eok P e zs then
      some (⟨false, zs.length, List.replicate n.toNat (mkE P e zs)⟩, fun d => .sl d 0 n.toNat, 0 ≤ n /\ n ≤ m /\ m ≤ 281474976710656 /\ (P.bytesOf e : Int) * m ≤ 281474976710656)
     else none
    | none => none
   | none => none
  | _, _ => none
 | .makeMap t none => match tMap P t with
  | some (c, _) => some (⟨true, 0, []⟩, fun d => .mp d c, True)
  | none => none
 | _ => none
section
variable {cx : Cx} {κ : Kz} {s : St} {a : Act} {w : World} {P : Program}
theorem run_zeroValue {t : TypeId} {i : TypeInfo} {z : Value} (hi : P.info? t = some i) (hz : i.zero = some z) : (zeroValue t).run P w = .ok z w := by
 simp [zeroValue, run_typeInfo hi, hz]
theorem RelK.box (R : RelK cx κ s a w) {d : Nat} (hd : d < 100000) (hn : s.H d = none) (el : TypeId) {x : AV} {cs : Array Value} (hsz : cs.size = x.cells.length)
  (hc : ∀ (j : Nat) (y : AV), x.cells[j]? = some y -> ∃ u, cs[j]? = some u /\ RV κ s.H w y u /\ u.oneCell' = true) :
  ∃ κ', RelK cx κ' { s with H := upd s.H d (some ⟨true, x.cells.length, [x]⟩) } a (w.alloc (.cells cs el)) /\
   RV κ' (upd s.H d (some ⟨true, x.cells.length, [x]⟩)) (w.alloc (.cells cs el)) (.ptr d 0 0) (.pointer (some ⟨w.heap.size, 0, none⟩)) := by
 have := R.alloc d hd hn ⟨true, x.cells.length, [x]⟩ cs el (by simp [hsz]) (fun i e hi => by
  cases i with
  | zero => cases hi; rfl
  | succ i => simp at hi) (fun i e j y hi hj => by
  cases i with
  | zero => cases hi; simpa using hc j y hj
  | succ i => simp at hi)
 refine ⟨_, this, ?_⟩
 have hp := RV.ptr (κ := { κ with μ := upd κ.μ d (some (w.heap.size, 0, cs.size)) }) (H := upd s.H d (some ⟨true, x.cells.length, [x]⟩)) (w := w.alloc (.cells cs el)) d 0 0 ⟨true, x.cells.length, [x]⟩ w.heap.size 0 cs.size
  (upd_same _ _ _) (upd_same _ _ _) (by simp)
 simpa using hp
theorem RelK.row (R : RelK cx κ s a w) {d : Nat} (hd : d < 100000) (hn : s.H d = none) (el : TypeId) {sz n cap : Nat} {es : List AV} {cs : Array Value} (hcov : Cov κ s.H w sz es cs) (hsz : es.length * sz ≤ cs.size) (hl : n ≤ es.length) (hcap : n ≤ cap)
  (hcs : cap * sz ≤ cs.size) :
  ∃ κ', RelK cx κ' { s with H := upd s.H d (some ⟨false, sz, es⟩) } a (w.alloc (.cells cs el)) /\
   RV κ' (upd s.H d (some ⟨false, sz, es⟩)) (w.alloc (.cells cs el)) (.sl d 0 n) (.slice (some ⟨w.heap.size, 0, none⟩) n cap) := by
 have := R.alloc d hd hn ⟨false, sz, es⟩ cs el hsz hcov.1 hcov.2
 refine ⟨_, this, ?_⟩
 refine RV.sl d 0 n ⟨false, sz, es⟩ _ cap (upd_same _ _ _) rfl (by simpa using hl) hcap (.inr ⟨w.heap.size, 0, cs.size, upd_same _ _ _, by simp, by simpa using hcs⟩)
theorem cov_zero {H : Hp} {e : TypeId} {zs : List AV} (hz : tZero P e = some zs) (he : eok P e zs = true) {i : TypeInfo} {z : Value} (hi : P.info? e = some i) (hiz : i.zero = some z) (n m : Nat) (hnm : n ≤ m) :
  Cov κ H w zs.length (List.replicate n (mkE P e zs)) ((Array.range (m * zs.length)).map (z.cells[· % z.cells.size]!)) := by
 obtain ⟨i', z', h1, h2, h3, h4, h5, h6⟩ := tZero_spec hz
 rw [hi] at h1
 cases h1
 rw [hiz] at h2
 cases h2
 refine ⟨fun k x hk => ?_, fun k x j y hk hj => ?_⟩
 ·rw [List.getElem?_replicate] at hk
  split at hk
  ·cases hk; rw [cells_mkE he]
  ·cases hk
 ·rw [List.getElem?_replicate] at hk
  split at hk
  ·rename_i hkn
   cases hk
   rw [cells_mkE he] at hj
   have hjl : j < zs.length := (List.getElem?_eq_some_iff.1 hj).1
   have hjz : j < z.cells.size := by omega
   have hzv : z.cells[j]? = some z.cells[j] := Array.getElem?_eq_getElem hjz
   rw [<- h3, List.getElem?_map, Array.getElem?_toList, hzv] at hj
   cases hj
   refine ⟨z.cells[j], ?_, .cst1 _, h6 j _ hzv⟩
   have hlt : k * zs.length + j < m * zs.length := by
    have : (k + 1) * zs.length ≤ m * zs.length := Nat.mul_le_mul_right _ (by omega)
    rw [Nat.succ_mul] at this
    omega
   have hmod : (k * zs.length + j) % z.cells.size = j := by
    rw [h4, <- h5, Nat.mul_add_mod_self_right, Nat.mod_eq_of_lt hjl]
   rw [Array.getElem?_map, Array.getElem?_range]
   rw [if_pos hlt]
   simp only [Option.map_some, hmod]
   rw [getElem!_pos z.cells j hjz]
  ·cases hk
theorem aop_sound (R : RelK cx κ s a w) {d : Nat} (hd : d < 100000) (hn : s.H d = none) {o : Oper} {g : Operand -> AV} (hg : ∀ x ∈ o.op.operands, RV κ s.H w (g x) (a.eval x)) {ob : Ob} {val : Nat -> AV} {φ : Prop}
  (h : aop cx.P g o.op = some (ob, val, φ)) (hφ : φ) :
  ∃ u w' κ', (execOp a.eval o).run cx.P w = .ok (.value u) w' /\ RelK cx κ' { s with H := upd s.H d (some ob) } a w' /\ RV κ' (upd s.H d (some ob)) w' (val d) u := by
 obtain ⟨dst, op, type, pos, after, guard⟩ := o
 simp only at hg h ⊢
 unfold aop at h
 split at h
 ·rename_i t
  split at h
  case h_2 => cases h
  rename_i zs hz
  split at h
  case isFalse => cases h
  rename_i he
  cases h
  obtain ⟨i, z, h1, h2, h3, h4, h5, h6⟩ := tZero_spec hz
  have hcm := cells_mkE he
  obtain ⟨κ', g1, g2⟩ := R.box hd hn t (x := mkE cx.P t zs) (cs := z.cells) (by rw [hcm, h5, h4]) (fun j y hj => by
   rw [hcm, <- h3, List.getElem?_map, Array.getElem?_toList] at hj
   obtain ⟨u, hu, rfl⟩ := Option.map_eq_some_iff.1 hj
   exact ⟨u, hu, .cst1 u, h6 j u hu⟩)
  rw [hcm] at g1 g2
  refine ⟨_, _, κ', ?_, g1, g2⟩
  simp [execOp, Instr.alloc, run_zeroValue h1 h2, newVar, newRow]
 ·rename_i t x
  split at h
  case isFalse => cases h
  rename_i hst
  cases h
  obtain ⟨c1, c2⟩ := (hg x (by simp [Op.operands])).cells hst
  obtain ⟨κ', g1, g2⟩ := R.box hd hn t c1 c2
  refine ⟨_, _, κ', ?_, g1, g2⟩
  simp [execOp, Instr.box, newVar, newRow]
 ·rename_i t n parts
  split at h
  case h_2 => cases h
  rename_i e hte
  split at h
  case h_2 => cases h
  rename_i zs hz
  split at h
  case isFalse => cases h
  rename_i he
  split at h
  case h_2 => cases h
  rename_i es φ' hf
  cases h
  obtain ⟨hφ, hbig⟩ := hφ
  obtain ⟨i, z, h1, h2, h3, h4, h5, h6⟩ := tZero_spec hz
  have hu : cx.P.underlying t = some (.slice e) := by
   unfold tSliceElem at hte
   split at hte
   ·cases hte; assumption
   ·cases hte
  obtain ⟨cs', f1, f2, f3, f4⟩ := fill_sound (parts.toList.map fun p => (p.1, g p.2)) (parts.toList.map fun p => (p.1, a.eval p.2)) _ _ es φ' hf hφ (by simp) (cov_zero hz he h1 h2 n n (Nat.le_refl _)) (by simp) (fun k p q hp hq => by
   rw [List.getElem?_map] at hp hq
   obtain ⟨y, hy, rfl⟩ := Option.map_eq_some_iff.1 hp
   obtain ⟨y', hy', rfl⟩ := Option.map_eq_some_iff.1 hq
   rw [hy] at hy'
   cases hy'
   exact ⟨rfl, hg y.2 (by simp only [Op.operands, List.mem_toArray]; exact List.mem_map.2 ⟨y, List.mem_of_getElem? hy, rfl⟩)⟩)
  have hlen : es.length = n := by simpa using f3
  obtain ⟨κ', g1, g2⟩ := R.row hd hn e (n := n) (cap := n) f4 (by omega) (by omega) (Nat.le_refl _) (by rw [f2, hlen]; exact Nat.le_refl _)
  refine ⟨_, _, κ', ?_, g1, g2⟩
  have hp : (parts.map fun p => (p.1, a.eval p.2)).toList = parts.toList.map fun p => (p.1, a.eval p.2) := by simp
  simp only [execOp, Instr.buildSlice, Sem.run_bind, run_underlying hu, Result.andThen_ok, run_sizeOf h1]
  rw [if_neg (by rw [<- h5]; omega)]
  have h5' : (fun i_1 => some (i_1 * i.size, i.size)) = (fun i => some (i * zs.length, zs.length)) := by rw [h5]
  by_cases h0 : n * i.size = 0
  ·rw [if_pos h0]
   have hc0 : (Array.range (n * i.size)).map ((#[] : Array Value)[· % (#[] : Array Value).size]!) = (Array.range (n * zs.length)).map (z.cells[· % z.cells.size]!) := by
    rw [h5, h0]; simp
   simp only [pure_bind, h5', hp, hc0, f1]
   simp [newRow]
  ·rw [if_neg h0]
   have hc0 : (Array.range (n * i.size)).map (z.cells[· % z.cells.size]!) = (Array.range (n * zs.length)).map (z.cells[· % z.cells.size]!) := by rw [h5]
   simp only [pure_bind, Sem.run_bind, run_zeroValue h1 h2, Result.andThen_ok, h5', hp, hc0, f1]
   simp [newRow]
 ·rename_i t l c
  split at h
  case h_2 => cases h
  rename_i k n k' m hl hc
  split at h
  case h_2 => cases h
  rename_i e hte
  split at h
  case h_2 => cases h
  rename_i zs hz
  split at h
  case isFalse => cases h
  rename_i he
  cases h
  obtain ⟨p0, p1, p2, p3⟩ := hφ
  obtain ⟨i, z, h1, h2, h3, h4, h5, h6⟩ := tZero_spec hz
  have hu : cx.P.underlying t = some (.slice e) := by
   unfold tSliceElem at hte
   split at hte
   ·cases hte; assumption
   ·cases hte
  have hvl : a.eval l = .int k n := by have := hg l (by simp [Op.operands]); rw [hl] at this; exact this.int_inv
  have hvc : a.eval c = .int k' m := by have := hg c (by simp [Op.operands]); rw [hc] at this; exact this.int_inv
  have hcov := cov_zero (κ := κ) (H := s.H) (w := w) hz he h1 h2 n.toNat m.toNat (by omega)
  have hms : ((Array.range (m.toNat * zs.length)).map (z.cells[· % z.cells.size]!)).size = m.toNat * zs.length := by simp
  obtain ⟨κ', g1, g2⟩ := R.row hd hn e (n := n.toNat) (cap := m.toNat) hcov (by rw [hms]; simp; exact Nat.mul_le_mul_right _ (by omega)) (by simp) (by omega) (by rw [hms]; exact Nat.le_refl _)
  refine ⟨_, _, κ', ?_, g1, g2⟩
  have hb : cx.P.bytesOf e = i.bytes := by simp [Program.bytesOf, h1]
  have hw1 : IntKind.i64.wrap n = n := by unfold IntKind.wrap; simp [IntKind.bits, IntKind.signed]; omega
  have hw2 : IntKind.i64.wrap m = m := by unfold IntKind.wrap; simp [IntKind.bits, IntKind.signed]; omega
  simp only [execOp, Instr.makeSlice, Sem.run_bind, run_underlying hu, Result.andThen_ok, hvl, hvc, asInt, asIntOf, Sem.run_pure, run_typeInfo h1, hw1, hw2]
  have hno : ((decide (m < 0) || decide (↑i.bytes * m > 2 ^ 48)) || decide (n < 0) || decide (n > m)) = false := by
   rw [hb] at p3
   simp
   omega
  rw [if_neg (by simp only [Bool.or_eq_true] at hno ⊢; simpa using hno)]
  simp only [pure_bind, Sem.run_bind, run_askRoom, Result.andThen_ok, run_sizeOf h1]
  by_cases h0 : m.toNat * i.size = 0
  ·rw [if_pos h0]
   have hc0 : (Array.range (m.toNat * i.size)).map ((#[] : Array Value)[· % (#[] : Array Value).size]!) = (Array.range (m.toNat * zs.length)).map (z.cells[· % z.cells.size]!) := by
    rw [h5, h0]; simp
   simp only [hc0]
   simp [newRow]
  ·rw [if_neg h0]
   have hc0 : (Array.range (m.toNat * i.size)).map (z.cells[· % z.cells.size]!) = (Array.range (m.toNat * zs.length)).map (z.cells[· % z.cells.size]!) := by rw [h5]
   simp only [Sem.run_bind, run_zeroValue h1 h2, Result.andThen_ok, hc0]
   simp [newRow]
 ·rename_i t
  split at h
  case h_2 => cases h
  rename_i c z hm
  cases h
  refine ⟨.map (some w.heap.size), w.alloc (.map #[] 0), _, ?_, R.allocMap d c hd hn, ?_⟩
  ·simp [execOp, Instr.makeMap]
  ·exact .mp d c ⟨true, 0, []⟩ w.heap.size (upd_same _ _ _) (upd_same _ _ _)
 ·cases h
end
end Go.Aw

