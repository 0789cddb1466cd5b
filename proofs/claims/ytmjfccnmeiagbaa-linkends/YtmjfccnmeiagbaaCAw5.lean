/- A framework of the hand for programs over the model: abstract values, an interpreter, that it is sound. Own work. -/
import Derived.Test.YtmjfccnmeiagbaaCAw4
/- Equations, constructor by constructor. Own work. -/
namespace Go.Aw
open Go
set_option maxRecDepth 100000
set_option linter.unusedVariables false
theorem avl0 : (stripV (AV.junk) = (AV.junk)) ∧
  (∀ (k : IntKind) (n : Int), stripV (AV.int k n) = (AV.int k n)) ∧
  (∀ (b : Bool), stripV (AV.bool b) = (AV.bool b)) ∧
  (∀ (s : ByteArray), stripV (AV.str s) = (AV.str s)) ∧
  (stripV (AV.nilp) = (AV.nilp)) ∧
  (∀ (o : Nat) (i : Nat) (c : Nat), stripV (AV.ptr o i c) = (AV.ptr o i c)) ∧
  (∀ (e : AV) (c : Nat), stripV (AV.rop e c) = (AV.rop e c)) ∧
  (stripV (AV.nilsl) = (AV.nilsl)) ∧
  (∀ (sz : Nat) (es : List AV), stripV (AV.ro sz es) = (AV.ro sz es)) ∧
  (∀ (o : Nat) (lo : Nat) (len : Nat), stripV (AV.sl o lo len) = (AV.sl o lo len)) ∧
  (∀ (o : Nat) (i : Nat) (c : Nat) (len : Nat) (esz : Nat), stripV (AV.asl o i c len esz) = (AV.asl o i c len esz)) ∧
  (∀ (cs : List AV), stripV (AV.agg cs) = (AV.agg cs)) ∧
  (∀ (cs : List AV), stripV (AV.tup cs) = (AV.tup cs)) ∧
  (∀ (f : Fn) (a : List AV) (b : List AV), stripV (AV.fn f a b) = (AV.fn f a b)) ∧
  (stripV (AV.nilf) = (AV.nilf)) ∧
  (∀ (b : Bool) (v : AV), stripV (AV.gd b v) = stripV v) ∧
  (∀ (t : TypeId) (v : AV), stripV (AV.ifc t v) = (AV.ifc t v)) ∧
  (stripV (AV.nili) = (AV.nili)) ∧
  (stripB (AV.junk) = true) ∧
  (∀ (k : IntKind) (n : Int), stripB (AV.int k n) = true) ∧
  (∀ (b : Bool), stripB (AV.bool b) = true) ∧
  (∀ (s : ByteArray), stripB (AV.str s) = true) ∧
  (stripB (AV.nilp) = true) ∧
  (∀ (o : Nat) (i : Nat) (c : Nat), stripB (AV.ptr o i c) = true) ∧
  (∀ (e : AV) (c : Nat), stripB (AV.rop e c) = true) ∧
  (stripB (AV.nilsl) = true) ∧
  (∀ (sz : Nat) (es : List AV), stripB (AV.ro sz es) = true) ∧
  (∀ (o : Nat) (lo : Nat) (len : Nat), stripB (AV.sl o lo len) = true) ∧
  (∀ (o : Nat) (i : Nat) (c : Nat) (len : Nat) (esz : Nat), stripB (AV.asl o i c len esz) = true) ∧
  (∀ (cs : List AV), stripB (AV.agg cs) = true) ∧
  (∀ (cs : List AV), stripB (AV.tup cs) = true) ∧
  (∀ (f : Fn) (a : List AV) (b : List AV), stripB (AV.fn f a b) = true) ∧
  (stripB (AV.nilf) = true) ∧
  (∀ (b : Bool) (v : AV), stripB (AV.gd b v) = (b && stripB v)) ∧
  (∀ (t : TypeId) (v : AV), stripB (AV.ifc t v) = true) ∧
  (stripB (AV.nili) = true) ∧
  (AV.cells (AV.junk) = [(AV.junk)]) ∧
  (∀ (k : IntKind) (n : Int), AV.cells (AV.int k n) = [(AV.int k n)]) ∧
  (∀ (b : Bool), AV.cells (AV.bool b) = [(AV.bool b)]) ∧
  (∀ (s : ByteArray), AV.cells (AV.str s) = [(AV.str s)]) ∧
  (AV.cells (AV.nilp) = [(AV.nilp)]) ∧
  (∀ (o : Nat) (i : Nat) (c : Nat), AV.cells (AV.ptr o i c) = [(AV.ptr o i c)]) ∧
  (∀ (e : AV) (c : Nat), AV.cells (AV.rop e c) = [(AV.rop e c)]) ∧
  (AV.cells (AV.nilsl) = [(AV.nilsl)]) ∧
  (∀ (sz : Nat) (es : List AV), AV.cells (AV.ro sz es) = [(AV.ro sz es)]) ∧
  (∀ (o : Nat) (lo : Nat) (len : Nat), AV.cells (AV.sl o lo len) = [(AV.sl o lo len)]) ∧
  (∀ (o : Nat) (i : Nat) (c : Nat) (len : Nat) (esz : Nat), AV.cells (AV.asl o i c len esz) = [(AV.asl o i c len esz)]) ∧
  (∀ (cs : List AV), AV.cells (AV.agg cs) = cs) ∧
  (∀ (cs : List AV), AV.cells (AV.tup cs) = [(AV.tup cs)]) ∧
  (∀ (f : Fn) (a : List AV) (b : List AV), AV.cells (AV.fn f a b) = [(AV.fn f a b)]) ∧
  (AV.cells (AV.nilf) = [(AV.nilf)]) ∧
  (∀ (b : Bool) (v : AV), AV.cells (AV.gd b v) = [(AV.gd b v)]) ∧
  (∀ (t : TypeId) (v : AV), AV.cells (AV.ifc t v) = [(AV.ifc t v)]) ∧
  (AV.cells (AV.nili) = [(AV.nili)]) ∧
  (AV.isImm (AV.junk) = false) ∧
  (∀ (k : IntKind) (n : Int), AV.isImm (AV.int k n) = true) ∧
  (∀ (b : Bool), AV.isImm (AV.bool b) = true) ∧
  (∀ (s : ByteArray), AV.isImm (AV.str s) = true) ∧
  (AV.isImm (AV.nilp) = true) ∧
  (∀ (o : Nat) (i : Nat) (c : Nat), AV.isImm (AV.ptr o i c) = false) :=
  ⟨by intros; first | rfl | simp [fixV], by intros; first | rfl | simp [fixV], by intros; first | rfl | simp [fixV], by intros; first | rfl | simp [fixV], by intros; first | rfl | simp [fixV], by intros; first | rfl | simp [fixV], by intros; first | rfl | simp [fixV], by intros; first | rfl | simp [fixV], by intros; first | rfl | simp [fixV], by intros; first | rfl | simp [fixV], by intros; first | rfl | simp [fixV], by intros; first | rfl | simp [fixV], by intros; first | rfl | simp [fixV], by intros; first | rfl | simp [fixV], by intros; first | rfl | simp [fixV], by intros; first | rfl | simp [fixV], by intros; first | rfl | simp [fixV], by intros; first | rfl | simp [fixV], by intros; first | rfl | simp [fixV], by intros; first | rfl | simp [fixV], by intros; first | rfl | simp [fixV], by intros; first | rfl | simp [fixV], by intros; first | rfl | simp [fixV], by intros; first | rfl | simp [fixV], by intros; first | rfl | simp [fixV], by intros; first | rfl | simp [fixV], by intros; first | rfl | simp [fixV], by intros; first | rfl | simp [fixV], by intros; first | rfl | simp [fixV], by intros; first | rfl | simp [fixV], by intros; first | rfl | simp [fixV], by intros; first | rfl | simp [fixV], by intros; first | rfl | simp [fixV], by intros; first | rfl | simp [fixV], by intros; first | rfl | simp [fixV], by intros; first | rfl | simp [fixV], by intros; first | rfl | simp [fixV], by intros; first | rfl | simp [fixV], by intros; first | rfl | simp [fixV], by intros; first | rfl | simp [fixV], by intros; first | rfl | simp [fixV], by intros; first | rfl | simp [fixV], by intros; first | rfl | simp [fixV], by intros; first | rfl | simp [fixV], by intros; first | rfl | simp [fixV], by intros; first | rfl | simp [fixV], by intros; first | rfl | simp [fixV], by intros; first | rfl | simp [fixV], by intros; first | rfl | simp [fixV], by intros; first | rfl | simp [fixV], by intros; first | rfl | simp [fixV], by intros; first | rfl | simp [fixV], by intros; first | rfl | simp [fixV], by intros; first | rfl | simp [fixV], by intros; first | rfl | simp [fixV], by intros; first | rfl | simp [fixV], by intros; first | rfl | simp [fixV], by intros; first | rfl | simp [fixV], by intros; first | rfl | simp [fixV], by intros; first | rfl | simp [fixV]⟩
theorem avl1 : (∀ (e : AV) (c : Nat), AV.isImm (AV.rop e c) = false) ∧
  (AV.isImm (AV.nilsl) = false) ∧
  (∀ (sz : Nat) (es : List AV), AV.isImm (AV.ro sz es) = true) ∧
  (∀ (o : Nat) (lo : Nat) (len : Nat), AV.isImm (AV.sl o lo len) = false) ∧
  (∀ (o : Nat) (i : Nat) (c : Nat) (len : Nat) (esz : Nat), AV.isImm (AV.asl o i c len esz) = false) ∧
  (∀ (cs : List AV), AV.isImm (AV.agg cs) = false) ∧
  (∀ (cs : List AV), AV.isImm (AV.tup cs) = false) ∧
  (∀ (f : Fn) (a : List AV) (b : List AV), AV.isImm (AV.fn f a b) = false) ∧
  (AV.isImm (AV.nilf) = true) ∧
  (∀ (b : Bool) (v : AV), AV.isImm (AV.gd b v) = false) ∧
  (∀ (t : TypeId) (v : AV), AV.isImm (AV.ifc t v) = false) ∧
  (AV.isImm (AV.nili) = true) ∧
  (AV.flat (AV.junk) = false) ∧
  (∀ (k : IntKind) (n : Int), AV.flat (AV.int k n) = true) ∧
  (∀ (b : Bool), AV.flat (AV.bool b) = true) ∧
  (∀ (s : ByteArray), AV.flat (AV.str s) = true) ∧
  (AV.flat (AV.nilp) = true) ∧
  (∀ (o : Nat) (i : Nat) (c : Nat), AV.flat (AV.ptr o i c) = false) ∧
  (∀ (e : AV) (c : Nat), AV.flat (AV.rop e c) = false) ∧
  (AV.flat (AV.nilsl) = true) ∧
  (∀ (sz : Nat) (es : List AV), AV.flat (AV.ro sz es) = false) ∧
  (∀ (o : Nat) (lo : Nat) (len : Nat), AV.flat (AV.sl o lo len) = false) ∧
  (∀ (o : Nat) (i : Nat) (c : Nat) (len : Nat) (esz : Nat), AV.flat (AV.asl o i c len esz) = false) ∧
  (∀ (cs : List AV), AV.flat (AV.agg cs) = AV.flat.flats cs) ∧
  (∀ (cs : List AV), AV.flat (AV.tup cs) = AV.flat.flats cs) ∧
  (∀ (f : Fn) (a : List AV) (b : List AV), AV.flat (AV.fn f a b) = false) ∧
  (AV.flat (AV.nilf) = true) ∧
  (∀ (b : Bool) (v : AV), AV.flat (AV.gd b v) = false) ∧
  (∀ (t : TypeId) (v : AV), AV.flat (AV.ifc t v) = false) ∧
  (AV.flat (AV.nili) = true) ∧
  (AV.pure (AV.junk) = false) ∧
  (∀ (k : IntKind) (n : Int), AV.pure (AV.int k n) = true) ∧
  (∀ (b : Bool), AV.pure (AV.bool b) = true) ∧
  (∀ (s : ByteArray), AV.pure (AV.str s) = true) ∧
  (AV.pure (AV.nilp) = true) ∧
  (∀ (o : Nat) (i : Nat) (c : Nat), AV.pure (AV.ptr o i c) = false) ∧
  (∀ (e : AV) (c : Nat), AV.pure (AV.rop e c) = true) ∧
  (AV.pure (AV.nilsl) = true) ∧
  (∀ (sz : Nat) (es : List AV), AV.pure (AV.ro sz es) = true) ∧
  (∀ (o : Nat) (lo : Nat) (len : Nat), AV.pure (AV.sl o lo len) = false) ∧
  (∀ (o : Nat) (i : Nat) (c : Nat) (len : Nat) (esz : Nat), AV.pure (AV.asl o i c len esz) = false) ∧
  (∀ (cs : List AV), AV.pure (AV.agg cs) = AV.pure.pures cs) ∧
  (∀ (cs : List AV), AV.pure (AV.tup cs) = AV.pure.pures cs) ∧
  (∀ (f : Fn) (a : List AV) (b : List AV), AV.pure (AV.fn f a b) = (AV.pure.pures a && AV.pure.pures b)) ∧
  (AV.pure (AV.nilf) = true) ∧
  (∀ (b : Bool) (v : AV), AV.pure (AV.gd b v) = v.pure) ∧
  (∀ (t : TypeId) (v : AV), AV.pure (AV.ifc t v) = v.pure) ∧
  (AV.pure (AV.nili) = true) ∧
  (AV.rl (AV.junk) = []) ∧
  (∀ (k : IntKind) (n : Int), AV.rl (AV.int k n) = []) ∧
  (∀ (b : Bool), AV.rl (AV.bool b) = []) ∧
  (∀ (s : ByteArray), AV.rl (AV.str s) = []) ∧
  (AV.rl (AV.nilp) = []) ∧
  (∀ (o : Nat) (i : Nat) (c : Nat), AV.rl (AV.ptr o i c) = [o]) ∧
  (∀ (e : AV) (c : Nat), AV.rl (AV.rop e c) = []) ∧
  (AV.rl (AV.nilsl) = []) ∧
  (∀ (sz : Nat) (es : List AV), AV.rl (AV.ro sz es) = []) ∧
  (∀ (o : Nat) (lo : Nat) (len : Nat), AV.rl (AV.sl o lo len) = [o]) ∧
  (∀ (o : Nat) (i : Nat) (c : Nat) (len : Nat) (esz : Nat), AV.rl (AV.asl o i c len esz) = [o]) ∧
  (∀ (cs : List AV), AV.rl (AV.agg cs) = AV.rl.rls cs) :=
  ⟨by intros; first | rfl | simp [fixV], by intros; first | rfl | simp [fixV], by intros; first | rfl | simp [fixV], by intros; first | rfl | simp [fixV], by intros; first | rfl | simp [fixV], by intros; first | rfl | simp [fixV], by intros; first | rfl | simp [fixV], by intros; first | rfl | simp [fixV], by intros; first | rfl | simp [fixV], by intros; first | rfl | simp [fixV], by intros; first | rfl | simp [fixV], by intros; first | rfl | simp [fixV], by intros; first | rfl | simp [fixV], by intros; first | rfl | simp [fixV], by intros; first | rfl | simp [fixV], by intros; first | rfl | simp [fixV], by intros; first | rfl | simp [fixV], by intros; first | rfl | simp [fixV], by intros; first | rfl | simp [fixV], by intros; first | rfl | simp [fixV], by intros; first | rfl | simp [fixV], by intros; first | rfl | simp [fixV], by intros; first | rfl | simp [fixV], by intros; first | rfl | simp [fixV], by intros; first | rfl | simp [fixV], by intros; first | rfl | simp [fixV], by intros; first | rfl | simp [fixV], by intros; first | rfl | simp [fixV], by intros; first | rfl | simp [fixV], by intros; first | rfl | simp [fixV], by intros; first | rfl | simp [fixV], by intros; first | rfl | simp [fixV], by intros; first | rfl | simp [fixV], by intros; first | rfl | simp [fixV], by intros; first | rfl | simp [fixV], by intros; first | rfl | simp [fixV], by intros; first | rfl | simp [fixV], by intros; first | rfl | simp [fixV], by intros; first | rfl | simp [fixV], by intros; first | rfl | simp [fixV], by intros; first | rfl | simp [fixV], by intros; first | rfl | simp [fixV], by intros; first | rfl | simp [fixV], by intros; first | rfl | simp [fixV], by intros; first | rfl | simp [fixV], by intros; first | rfl | simp [fixV], by intros; first | rfl | simp [fixV], by intros; first | rfl | simp [fixV], by intros; first | rfl | simp [fixV], by intros; first | rfl | simp [fixV], by intros; first | rfl | simp [fixV], by intros; first | rfl | simp [fixV], by intros; first | rfl | simp [fixV], by intros; first | rfl | simp [fixV], by intros; first | rfl | simp [fixV], by intros; first | rfl | simp [fixV], by intros; first | rfl | simp [fixV], by intros; first | rfl | simp [fixV], by intros; first | rfl | simp [fixV], by intros; first | rfl | simp [fixV]⟩
theorem avl2 : (∀ (cs : List AV), AV.rl (AV.tup cs) = AV.rl.rls cs) ∧
  (∀ (f : Fn) (a : List AV) (b : List AV), AV.rl (AV.fn f a b) = AV.rl.rls a ++ AV.rl.rls b) ∧
  (AV.rl (AV.nilf) = []) ∧
  (∀ (b : Bool) (v : AV), AV.rl (AV.gd b v) = v.rl) ∧
  (∀ (t : TypeId) (v : AV), AV.rl (AV.ifc t v) = v.rl) ∧
  (AV.rl (AV.nili) = []) ∧
  (∀ (D : Nat → Bool), AV.refs D (AV.junk) = true) ∧
  (∀ (D : Nat → Bool) (k : IntKind) (n : Int), AV.refs D (AV.int k n) = true) ∧
  (∀ (D : Nat → Bool) (b : Bool), AV.refs D (AV.bool b) = true) ∧
  (∀ (D : Nat → Bool) (s : ByteArray), AV.refs D (AV.str s) = true) ∧
  (∀ (D : Nat → Bool), AV.refs D (AV.nilp) = true) ∧
  (∀ (D : Nat → Bool) (o : Nat) (i : Nat) (c : Nat), AV.refs D (AV.ptr o i c) = D o) ∧
  (∀ (D : Nat → Bool) (e : AV) (c : Nat), AV.refs D (AV.rop e c) = true) ∧
  (∀ (D : Nat → Bool), AV.refs D (AV.nilsl) = true) ∧
  (∀ (D : Nat → Bool) (sz : Nat) (es : List AV), AV.refs D (AV.ro sz es) = true) ∧
  (∀ (D : Nat → Bool) (o : Nat) (lo : Nat) (len : Nat), AV.refs D (AV.sl o lo len) = D o) ∧
  (∀ (D : Nat → Bool) (o : Nat) (i : Nat) (c : Nat) (len : Nat) (esz : Nat), AV.refs D (AV.asl o i c len esz) = D o) ∧
  (∀ (D : Nat → Bool) (cs : List AV), AV.refs D (AV.agg cs) = AV.refs.refsl D cs) ∧
  (∀ (D : Nat → Bool) (cs : List AV), AV.refs D (AV.tup cs) = AV.refs.refsl D cs) ∧
  (∀ (D : Nat → Bool) (f : Fn) (a : List AV) (b : List AV), AV.refs D (AV.fn f a b) = (AV.refs.refsl D a && AV.refs.refsl D b)) ∧
  (∀ (D : Nat → Bool), AV.refs D (AV.nilf) = true) ∧
  (∀ (D : Nat → Bool) (b : Bool) (v : AV), AV.refs D (AV.gd b v) = v.refs D) ∧
  (∀ (D : Nat → Bool) (t : TypeId) (v : AV), AV.refs D (AV.ifc t v) = v.refs D) ∧
  (∀ (D : Nat → Bool), AV.refs D (AV.nili) = true) ∧
  (refOf (AV.junk) = none) ∧
  (∀ (k : IntKind) (n : Int), refOf (AV.int k n) = none) ∧
  (∀ (b : Bool), refOf (AV.bool b) = none) ∧
  (∀ (s : ByteArray), refOf (AV.str s) = none) ∧
  (refOf (AV.nilp) = none) ∧
  (∀ (o : Nat) (i : Nat) (c : Nat), refOf (AV.ptr o i c) = some o) ∧
  (∀ (e : AV) (c : Nat), refOf (AV.rop e c) = none) ∧
  (refOf (AV.nilsl) = none) ∧
  (∀ (sz : Nat) (es : List AV), refOf (AV.ro sz es) = none) ∧
  (∀ (o : Nat) (lo : Nat) (len : Nat), refOf (AV.sl o lo len) = some o) ∧
  (∀ (o : Nat) (i : Nat) (c : Nat) (len : Nat) (esz : Nat), refOf (AV.asl o i c len esz) = some o) ∧
  (∀ (cs : List AV), refOf (AV.agg cs) = none) ∧
  (∀ (cs : List AV), refOf (AV.tup cs) = none) ∧
  (∀ (f : Fn) (a : List AV) (b : List AV), refOf (AV.fn f a b) = none) ∧
  (refOf (AV.nilf) = none) ∧
  (∀ (b : Bool) (v : AV), refOf (AV.gd b v) = none) ∧
  (∀ (t : TypeId) (v : AV), refOf (AV.ifc t v) = none) ∧
  (refOf (AV.nili) = none) ∧
  (lenQ (AV.junk) = none) ∧
  (∀ (k : IntKind) (n : Int), lenQ (AV.int k n) = none) ∧
  (∀ (b : Bool), lenQ (AV.bool b) = none) ∧
  (∀ (s : ByteArray), lenQ (AV.str s) = none) ∧
  (lenQ (AV.nilp) = none) ∧
  (∀ (o : Nat) (i : Nat) (c : Nat), lenQ (AV.ptr o i c) = none) ∧
  (∀ (e : AV) (c : Nat), lenQ (AV.rop e c) = none) ∧
  (lenQ (AV.nilsl) = none) ∧
  (∀ (sz : Nat) (es : List AV), lenQ (AV.ro sz es) = some es.length) ∧
  (∀ (o : Nat) (lo : Nat) (len : Nat), lenQ (AV.sl o lo len) = some len) ∧
  (∀ (o : Nat) (i : Nat) (c : Nat) (len : Nat) (esz : Nat), lenQ (AV.asl o i c len esz) = some len) ∧
  (∀ (cs : List AV), lenQ (AV.agg cs) = none) ∧
  (∀ (cs : List AV), lenQ (AV.tup cs) = none) ∧
  (∀ (f : Fn) (a : List AV) (b : List AV), lenQ (AV.fn f a b) = none) ∧
  (lenQ (AV.nilf) = none) ∧
  (∀ (b : Bool) (v : AV), lenQ (AV.gd b v) = none) ∧
  (∀ (t : TypeId) (v : AV), lenQ (AV.ifc t v) = none) ∧
  (lenQ (AV.nili) = none) :=
  ⟨by intros; first | rfl | simp [fixV], by intros; first | rfl | simp [fixV], by intros; first | rfl | simp [fixV], by intros; first | rfl | simp [fixV], by intros; first | rfl | simp [fixV], by intros; first | rfl | simp [fixV], by intros; first | rfl | simp [fixV], by intros; first | rfl | simp [fixV], by intros; first | rfl | simp [fixV], by intros; first | rfl | simp [fixV], by intros; first | rfl | simp [fixV], by intros; first | rfl | simp [fixV], by intros; first | rfl | simp [fixV], by intros; first | rfl | simp [fixV], by intros; first | rfl | simp [fixV], by intros; first | rfl | simp [fixV], by intros; first | rfl | simp [fixV], by intros; first | rfl | simp [fixV], by intros; first | rfl | simp [fixV], by intros; first | rfl | simp [fixV], by intros; first | rfl | simp [fixV], by intros; first | rfl | simp [fixV], by intros; first | rfl | simp [fixV], by intros; first | rfl | simp [fixV], by intros; first | rfl | simp [fixV], by intros; first | rfl | simp [fixV], by intros; first | rfl | simp [fixV], by intros; first | rfl | simp [fixV], by intros; first | rfl | simp [fixV], by intros; first | rfl | simp [fixV], by intros; first | rfl | simp [fixV], by intros; first | rfl | simp [fixV], by intros; first | rfl | simp [fixV], by intros; first | rfl | simp [fixV], by intros; first | rfl | simp [fixV], by intros; first | rfl | simp [fixV], by intros; first | rfl | simp [fixV], by intros; first | rfl | simp [fixV], by intros; first | rfl | simp [fixV], by intros; first | rfl | simp [fixV], by intros; first | rfl | simp [fixV], by intros; first | rfl | simp [fixV], by intros; first | rfl | simp [fixV], by intros; first | rfl | simp [fixV], by intros; first | rfl | simp [fixV], by intros; first | rfl | simp [fixV], by intros; first | rfl | simp [fixV], by intros; first | rfl | simp [fixV], by intros; first | rfl | simp [fixV], by intros; first | rfl | simp [fixV], by intros; first | rfl | simp [fixV], by intros; first | rfl | simp [fixV], by intros; first | rfl | simp [fixV], by intros; first | rfl | simp [fixV], by intros; first | rfl | simp [fixV], by intros; first | rfl | simp [fixV], by intros; first | rfl | simp [fixV], by intros; first | rfl | simp [fixV], by intros; first | rfl | simp [fixV], by intros; first | rfl | simp [fixV]⟩
theorem avl3 : (AV.single (AV.junk) = false) ∧
  (∀ (k : IntKind) (n : Int), AV.single (AV.int k n) = true) ∧
  (∀ (b : Bool), AV.single (AV.bool b) = true) ∧
  (∀ (s : ByteArray), AV.single (AV.str s) = true) ∧
  (AV.single (AV.nilp) = true) ∧
  (∀ (o : Nat) (i : Nat) (c : Nat), AV.single (AV.ptr o i c) = true) ∧
  (∀ (e : AV) (c : Nat), AV.single (AV.rop e c) = true) ∧
  (AV.single (AV.nilsl) = true) ∧
  (∀ (sz : Nat) (es : List AV), AV.single (AV.ro sz es) = true) ∧
  (∀ (o : Nat) (lo : Nat) (len : Nat), AV.single (AV.sl o lo len) = true) ∧
  (∀ (o : Nat) (i : Nat) (c : Nat) (len : Nat) (esz : Nat), AV.single (AV.asl o i c len esz) = true) ∧
  (∀ (cs : List AV), AV.single (AV.agg cs) = false) ∧
  (∀ (cs : List AV), AV.single (AV.tup cs) = false) ∧
  (∀ (f : Fn) (a : List AV) (b : List AV), AV.single (AV.fn f a b) = true) ∧
  (AV.single (AV.nilf) = true) ∧
  (∀ (b : Bool) (v : AV), AV.single (AV.gd b v) = false) ∧
  (∀ (t : TypeId) (v : AV), AV.single (AV.ifc t v) = true) ∧
  (AV.single (AV.nili) = true) ∧
  (AV.storable (AV.junk) = false) ∧
  (∀ (k : IntKind) (n : Int), AV.storable (AV.int k n) = true) ∧
  (∀ (b : Bool), AV.storable (AV.bool b) = true) ∧
  (∀ (s : ByteArray), AV.storable (AV.str s) = true) ∧
  (AV.storable (AV.nilp) = true) ∧
  (∀ (o : Nat) (i : Nat) (c : Nat), AV.storable (AV.ptr o i c) = true) ∧
  (∀ (e : AV) (c : Nat), AV.storable (AV.rop e c) = true) ∧
  (AV.storable (AV.nilsl) = true) ∧
  (∀ (sz : Nat) (es : List AV), AV.storable (AV.ro sz es) = true) ∧
  (∀ (o : Nat) (lo : Nat) (len : Nat), AV.storable (AV.sl o lo len) = true) ∧
  (∀ (o : Nat) (i : Nat) (c : Nat) (len : Nat) (esz : Nat), AV.storable (AV.asl o i c len esz) = true) ∧
  (∀ (cs : List AV), AV.storable (AV.agg cs) = true) ∧
  (∀ (cs : List AV), AV.storable (AV.tup cs) = false) ∧
  (∀ (f : Fn) (a : List AV) (b : List AV), AV.storable (AV.fn f a b) = true) ∧
  (AV.storable (AV.nilf) = true) ∧
  (∀ (b : Bool) (v : AV), AV.storable (AV.gd b v) = false) ∧
  (∀ (t : TypeId) (v : AV), AV.storable (AV.ifc t v) = true) ∧
  (AV.storable (AV.nili) = true) ∧
  (AV.storable0 (AV.junk) = false) ∧
  (∀ (k : IntKind) (n : Int), AV.storable0 (AV.int k n) = true) ∧
  (∀ (b : Bool), AV.storable0 (AV.bool b) = true) ∧
  (∀ (s : ByteArray), AV.storable0 (AV.str s) = true) ∧
  (AV.storable0 (AV.nilp) = true) ∧
  (∀ (o : Nat) (i : Nat) (c : Nat), AV.storable0 (AV.ptr o i c) = true) ∧
  (∀ (e : AV) (c : Nat), AV.storable0 (AV.rop e c) = true) ∧
  (AV.storable0 (AV.nilsl) = true) ∧
  (∀ (sz : Nat) (es : List AV), AV.storable0 (AV.ro sz es) = true) ∧
  (∀ (o : Nat) (lo : Nat) (len : Nat), AV.storable0 (AV.sl o lo len) = true) ∧
  (∀ (o : Nat) (i : Nat) (c : Nat) (len : Nat) (esz : Nat), AV.storable0 (AV.asl o i c len esz) = true) ∧
  (∀ (cs : List AV), AV.storable0 (AV.agg cs) = true) ∧
  (∀ (cs : List AV), AV.storable0 (AV.tup cs) = false) ∧
  (∀ (f : Fn) (a : List AV) (b : List AV), AV.storable0 (AV.fn f a b) = true) ∧
  (AV.storable0 (AV.nilf) = true) ∧
  (∀ (b : Bool) (v : AV), AV.storable0 (AV.gd b v) = false) ∧
  (∀ (t : TypeId) (v : AV), AV.storable0 (AV.ifc t v) = true) ∧
  (AV.storable0 (AV.nili) = true) ∧
  (∀ (q : Nat), isArg.isA1 q (AV.junk) = false) ∧
  (∀ (q : Nat) (k : IntKind) (n : Int), isArg.isA1 q (AV.int k n) = false) ∧
  (∀ (q : Nat) (b : Bool), isArg.isA1 q (AV.bool b) = false) ∧
  (∀ (q : Nat) (s : ByteArray), isArg.isA1 q (AV.str s) = false) ∧
  (∀ (q : Nat), isArg.isA1 q (AV.nilp) = false) ∧
  (∀ (q : Nat) (o : Nat) (i : Nat) (c : Nat), isArg.isA1 q (AV.ptr o i c) = false) :=
  ⟨by intros; first | rfl | simp [fixV], by intros; first | rfl | simp [fixV], by intros; first | rfl | simp [fixV], by intros; first | rfl | simp [fixV], by intros; first | rfl | simp [fixV], by intros; first | rfl | simp [fixV], by intros; first | rfl | simp [fixV], by intros; first | rfl | simp [fixV], by intros; first | rfl | simp [fixV], by intros; first | rfl | simp [fixV], by intros; first | rfl | simp [fixV], by intros; first | rfl | simp [fixV], by intros; first | rfl | simp [fixV], by intros; first | rfl | simp [fixV], by intros; first | rfl | simp [fixV], by intros; first | rfl | simp [fixV], by intros; first | rfl | simp [fixV], by intros; first | rfl | simp [fixV], by intros; first | rfl | simp [fixV], by intros; first | rfl | simp [fixV], by intros; first | rfl | simp [fixV], by intros; first | rfl | simp [fixV], by intros; first | rfl | simp [fixV], by intros; first | rfl | simp [fixV], by intros; first | rfl | simp [fixV], by intros; first | rfl | simp [fixV], by intros; first | rfl | simp [fixV], by intros; first | rfl | simp [fixV], by intros; first | rfl | simp [fixV], by intros; first | rfl | simp [fixV], by intros; first | rfl | simp [fixV], by intros; first | rfl | simp [fixV], by intros; first | rfl | simp [fixV], by intros; first | rfl | simp [fixV], by intros; first | rfl | simp [fixV], by intros; first | rfl | simp [fixV], by intros; first | rfl | simp [fixV], by intros; first | rfl | simp [fixV], by intros; first | rfl | simp [fixV], by intros; first | rfl | simp [fixV], by intros; first | rfl | simp [fixV], by intros; first | rfl | simp [fixV], by intros; first | rfl | simp [fixV], by intros; first | rfl | simp [fixV], by intros; first | rfl | simp [fixV], by intros; first | rfl | simp [fixV], by intros; first | rfl | simp [fixV], by intros; first | rfl | simp [fixV], by intros; first | rfl | simp [fixV], by intros; first | rfl | simp [fixV], by intros; first | rfl | simp [fixV], by intros; first | rfl | simp [fixV], by intros; first | rfl | simp [fixV], by intros; first | rfl | simp [fixV], by intros; first | rfl | simp [fixV], by intros; first | rfl | simp [fixV], by intros; first | rfl | simp [fixV], by intros; first | rfl | simp [fixV], by intros; first | rfl | simp [fixV], by intros; first | rfl | simp [fixV]⟩
theorem avl4 : (∀ (q : Nat) (e : AV) (c : Nat), isArg.isA1 q (AV.rop e c) = false) ∧
  (∀ (q : Nat), isArg.isA1 q (AV.nilsl) = false) ∧
  (∀ (q : Nat) (sz : Nat) (es : List AV), isArg.isA1 q (AV.ro sz es) = false) ∧
  (∀ (q : Nat) (o : Nat) (lo : Nat) (len : Nat), isArg.isA1 q (AV.sl o lo len) = (q == o)) ∧
  (∀ (q : Nat) (o : Nat) (i : Nat) (c : Nat) (len : Nat) (esz : Nat), isArg.isA1 q (AV.asl o i c len esz) = false) ∧
  (∀ (q : Nat) (cs : List AV), isArg.isA1 q (AV.agg cs) = false) ∧
  (∀ (q : Nat) (cs : List AV), isArg.isA1 q (AV.tup cs) = false) ∧
  (∀ (q : Nat) (f : Fn) (a : List AV) (b : List AV), isArg.isA1 q (AV.fn f a b) = false) ∧
  (∀ (q : Nat), isArg.isA1 q (AV.nilf) = false) ∧
  (∀ (q : Nat) (b : Bool) (v : AV), isArg.isA1 q (AV.gd b v) = false) ∧
  (∀ (q : Nat) (t : TypeId) (v : AV), isArg.isA1 q (AV.ifc t v) = false) ∧
  (∀ (q : Nat), isArg.isA1 q (AV.nili) = false) ∧
  (∀ (fz : Bool) (nm z : Nat) (H : Hp), fixV fz nm z [] (AV.junk) H = ((AV.junk), H)) ∧
  (∀ (fz : Bool) (nm z : Nat) (H : Hp) (k : IntKind) (n : Int), fixV fz nm z [] (AV.int k n) H = ((AV.int k n), H)) ∧
  (∀ (fz : Bool) (nm z : Nat) (H : Hp) (b : Bool), fixV fz nm z [] (AV.bool b) H = ((AV.bool b), H)) ∧
  (∀ (fz : Bool) (nm z : Nat) (H : Hp) (s : ByteArray), fixV fz nm z [] (AV.str s) H = ((AV.str s), H)) ∧
  (∀ (fz : Bool) (nm z : Nat) (H : Hp), fixV fz nm z [] (AV.nilp) H = ((AV.nilp), H)) ∧
  (∀ (fz : Bool) (nm z : Nat) (H : Hp) (o : Nat) (i : Nat) (c : Nat), fixV fz nm z [] (AV.ptr o i c) H = ((AV.ptr o i c), H)) ∧
  (∀ (fz : Bool) (nm z : Nat) (H : Hp) (e : AV) (c : Nat), fixV fz nm z [] (AV.rop e c) H = ((AV.rop e c), H)) ∧
  (∀ (fz : Bool) (nm z : Nat) (H : Hp), fixV fz nm z [] (AV.nilsl) H = if fz = true then (.ro z [], H) else (.sl nm 0 0, upd H nm (some ⟨false, z, []⟩))) ∧
  (∀ (fz : Bool) (nm z : Nat) (H : Hp) (sz : Nat) (es : List AV), fixV fz nm z [] (AV.ro sz es) H = ((AV.ro sz es), H)) ∧
  (∀ (fz : Bool) (nm z : Nat) (H : Hp) (o : Nat) (lo : Nat) (len : Nat), fixV fz nm z [] (AV.sl o lo len) H = ((AV.sl o lo len), H)) ∧
  (∀ (fz : Bool) (nm z : Nat) (H : Hp) (o : Nat) (i : Nat) (c : Nat) (len : Nat) (esz : Nat), fixV fz nm z [] (AV.asl o i c len esz) H = ((AV.asl o i c len esz), H)) ∧
  (∀ (fz : Bool) (nm z : Nat) (H : Hp) (cs : List AV), fixV fz nm z [] (AV.agg cs) H = ((AV.agg cs), H)) ∧
  (∀ (fz : Bool) (nm z : Nat) (H : Hp) (cs : List AV), fixV fz nm z [] (AV.tup cs) H = ((AV.tup cs), H)) ∧
  (∀ (fz : Bool) (nm z : Nat) (H : Hp) (f : Fn) (a : List AV) (b : List AV), fixV fz nm z [] (AV.fn f a b) H = ((AV.fn f a b), H)) ∧
  (∀ (fz : Bool) (nm z : Nat) (H : Hp), fixV fz nm z [] (AV.nilf) H = ((AV.nilf), H)) ∧
  (∀ (fz : Bool) (nm z : Nat) (H : Hp) (b : Bool) (v : AV), fixV fz nm z [] (AV.gd b v) H = ((AV.gd b v), H)) ∧
  (∀ (fz : Bool) (nm z : Nat) (H : Hp) (t : TypeId) (v : AV), fixV fz nm z [] (AV.ifc t v) H = ((AV.ifc t v), H)) ∧
  (∀ (fz : Bool) (nm z : Nat) (H : Hp), fixV fz nm z [] (AV.nili) H = ((AV.nili), H)) ∧
  (∀ (fz : Bool) (nm z q : Nat) (p : List Nat) (H : Hp), fixV fz nm z (q :: p) (AV.junk) H = ((AV.junk), H)) ∧
  (∀ (fz : Bool) (nm z q : Nat) (p : List Nat) (H : Hp) (k : IntKind) (n : Int), fixV fz nm z (q :: p) (AV.int k n) H = ((AV.int k n), H)) ∧
  (∀ (fz : Bool) (nm z q : Nat) (p : List Nat) (H : Hp) (b : Bool), fixV fz nm z (q :: p) (AV.bool b) H = ((AV.bool b), H)) ∧
  (∀ (fz : Bool) (nm z q : Nat) (p : List Nat) (H : Hp) (s : ByteArray), fixV fz nm z (q :: p) (AV.str s) H = ((AV.str s), H)) ∧
  (∀ (fz : Bool) (nm z q : Nat) (p : List Nat) (H : Hp), fixV fz nm z (q :: p) (AV.nilp) H = ((AV.nilp), H)) ∧
  (∀ (fz : Bool) (nm z q : Nat) (p : List Nat) (H : Hp) (o : Nat) (i : Nat) (c : Nat), fixV fz nm z (q :: p) (AV.ptr o i c) H = fixV.fixQ fz nm z p o i c q (H o) H) ∧
  (∀ (fz : Bool) (nm z q : Nat) (p : List Nat) (H : Hp) (e : AV) (c : Nat), fixV fz nm z (q :: p) (AV.rop e c) H = ((AV.rop e c), H)) ∧
  (∀ (fz : Bool) (nm z q : Nat) (p : List Nat) (H : Hp), fixV fz nm z (q :: p) (AV.nilsl) H = ((AV.nilsl), H)) ∧
  (∀ (fz : Bool) (nm z q : Nat) (p : List Nat) (H : Hp) (sz : Nat) (es : List AV), fixV fz nm z (q :: p) (AV.ro sz es) H = ((AV.ro sz es), H)) ∧
  (∀ (fz : Bool) (nm z q : Nat) (p : List Nat) (H : Hp) (o : Nat) (lo : Nat) (len : Nat), fixV fz nm z (q :: p) (AV.sl o lo len) H = ((AV.sl o lo len), H)) ∧
  (∀ (fz : Bool) (nm z q : Nat) (p : List Nat) (H : Hp) (o : Nat) (i : Nat) (c : Nat) (len : Nat) (esz : Nat), fixV fz nm z (q :: p) (AV.asl o i c len esz) H = ((AV.asl o i c len esz), H)) ∧
  (∀ (fz : Bool) (nm z q : Nat) (p : List Nat) (H : Hp) (cs : List AV), fixV fz nm z (q :: p) (AV.agg cs) H = fixV.fixG cs q (fixV fz nm z p (cs.getD q .junk) H)) ∧
  (∀ (fz : Bool) (nm z q : Nat) (p : List Nat) (H : Hp) (cs : List AV), fixV fz nm z (q :: p) (AV.tup cs) H = ((AV.tup cs), H)) ∧
  (∀ (fz : Bool) (nm z q : Nat) (p : List Nat) (H : Hp) (f : Fn) (a : List AV) (b : List AV), fixV fz nm z (q :: p) (AV.fn f a b) H = ((AV.fn f a b), H)) ∧
  (∀ (fz : Bool) (nm z q : Nat) (p : List Nat) (H : Hp), fixV fz nm z (q :: p) (AV.nilf) H = ((AV.nilf), H)) ∧
  (∀ (fz : Bool) (nm z q : Nat) (p : List Nat) (H : Hp) (b : Bool) (v : AV), fixV fz nm z (q :: p) (AV.gd b v) H = ((AV.gd b v), H)) ∧
  (∀ (fz : Bool) (nm z q : Nat) (p : List Nat) (H : Hp) (t : TypeId) (v : AV), fixV fz nm z (q :: p) (AV.ifc t v) H = ((AV.ifc t v), H)) ∧
  (∀ (fz : Bool) (nm z q : Nat) (p : List Nat) (H : Hp), fixV fz nm z (q :: p) (AV.nili) H = ((AV.nili), H)) ∧
  (∀ (l : List AV), AV.flat.flats [] = true) ∧
  (AV.pure.pures [] = true) ∧
  (∀ (x : AV) (r : List AV), AV.flat.flats (x :: r) = (x.flat && AV.flat.flats r)) ∧
  (∀ (x : AV) (r : List AV), AV.pure.pures (x :: r) = (x.pure && AV.pure.pures r)) ∧
  (∀ D, AV.refs.refsl D [] = true) ∧
  (∀ D (x : AV) (r : List AV), AV.refs.refsl D (x :: r) = (x.refs D && AV.refs.refsl D r)) ∧
  (tupA [] = .tup []) ∧
  (∀ v, tupA [v] = v) ∧
  (∀ x y l, tupA (x :: y :: l) = .tup (x :: y :: l)) ∧
  (∀ a b, shapeC (some a) (some b) = (b.box = a.box ∧ b.sz = a.sz ∧ b.es.length = a.es.length)) ∧
  (∀ k n, cst (.int k n) = .int k n) ∧
  (∀ b, cst (.bool b) = .bool b) :=
  ⟨by intros; first | rfl | simp [fixV], by intros; first | rfl | simp [fixV], by intros; first | rfl | simp [fixV], by intros; first | rfl | simp [fixV], by intros; first | rfl | simp [fixV], by intros; first | rfl | simp [fixV], by intros; first | rfl | simp [fixV], by intros; first | rfl | simp [fixV], by intros; first | rfl | simp [fixV], by intros; first | rfl | simp [fixV], by intros; first | rfl | simp [fixV], by intros; first | rfl | simp [fixV], by intros; first | rfl | simp [fixV], by intros; first | rfl | simp [fixV], by intros; first | rfl | simp [fixV], by intros; first | rfl | simp [fixV], by intros; first | rfl | simp [fixV], by intros; first | rfl | simp [fixV], by intros; first | rfl | simp [fixV], by intros; first | rfl | simp [fixV], by intros; first | rfl | simp [fixV], by intros; first | rfl | simp [fixV], by intros; first | rfl | simp [fixV], by intros; first | rfl | simp [fixV], by intros; first | rfl | simp [fixV], by intros; first | rfl | simp [fixV], by intros; first | rfl | simp [fixV], by intros; first | rfl | simp [fixV], by intros; first | rfl | simp [fixV], by intros; first | rfl | simp [fixV], by intros; first | rfl | simp [fixV], by intros; first | rfl | simp [fixV], by intros; first | rfl | simp [fixV], by intros; first | rfl | simp [fixV], by intros; first | rfl | simp [fixV], by intros; first | rfl | simp [fixV], by intros; first | rfl | simp [fixV], by intros; first | rfl | simp [fixV], by intros; first | rfl | simp [fixV], by intros; first | rfl | simp [fixV], by intros; first | rfl | simp [fixV], by intros; first | rfl | simp [fixV], by intros; first | rfl | simp [fixV], by intros; first | rfl | simp [fixV], by intros; first | rfl | simp [fixV], by intros; first | rfl | simp [fixV], by intros; first | rfl | simp [fixV], by intros; first | rfl | simp [fixV], by intros; first | rfl | simp [fixV], by intros; first | rfl | simp [fixV], by intros; first | rfl | simp [fixV], by intros; first | rfl | simp [fixV], by intros; first | rfl | simp [fixV], by intros; first | rfl | simp [fixV], by intros; first | rfl | simp [fixV], by intros; first | rfl | simp [fixV], by intros; first | rfl | simp [fixV], by intros; first | rfl | simp [fixV], by intros; first | rfl | simp [fixV], by intros; first | rfl | simp [fixV]⟩
theorem avl5 : (∀ s, cst (.string s) = .str s) ∧
  (cst (.pointer none) = .nilp) ∧
  (cst (.slice none 0 0) = .nilsl) ∧
  (cst .nilFunc = .nilf) ∧
  (cst .nilIface = .nili) ∧
  (∀ cs, cst (.agg cs) = if cs.toList.all Value.oneCell' then .agg (cs.toList.map cst1) else .junk) ∧
  (∀ k n, cst1 (.int k n) = .int k n) ∧
  (∀ b, cst1 (.bool b) = .bool b) ∧
  (∀ s, cst1 (.string s) = .str s) ∧
  (cst1 (.pointer none) = .nilp) ∧
  (cst1 (.slice none 0 0) = .nilsl) ∧
  (cst1 .nilFunc = .nilf) ∧
  (cst1 .nilIface = .nili) ∧
  (keyOf .skip = 0) ∧
  (∀ id ops d, keyOf (.region id ops d) = id + 1) ∧
  (∀ a b, keyOf (.seq a b) = orN (keyOf a) (keyOf b)) ∧
  (∀ c a b, keyOf (.cond c a b) = orN (keyOf a) (keyOf b)) ∧
  (∀ i c, keyOf (.block i c) = keyOf c) ∧
  (∀ c, keyOf (.loop c) = keyOf c + 100000) ∧
  (∀ i, keyOf (.exit i) = 0) ∧
  (keyOf .ret = 0) ∧
  (∀ i, keyOf (.label i) = 0) ∧
  (∀ b, orN 0 b = b) ∧
  (∀ n b, orN (n + 1) b = n + 1) :=
  ⟨by intros; first | rfl | simp [fixV], by intros; first | rfl | simp [fixV], by intros; first | rfl | simp [fixV], by intros; first | rfl | simp [fixV], by intros; first | rfl | simp [fixV], by intros; first | rfl | simp [fixV], by intros; first | rfl | simp [fixV], by intros; first | rfl | simp [fixV], by intros; first | rfl | simp [fixV], by intros; first | rfl | simp [fixV], by intros; first | rfl | simp [fixV], by intros; first | rfl | simp [fixV], by intros; first | rfl | simp [fixV], by intros; first | rfl | simp [fixV], by intros; first | rfl | simp [fixV], by intros; first | rfl | simp [fixV], by intros; first | rfl | simp [fixV], by intros; first | rfl | simp [fixV], by intros; first | rfl | simp [fixV], by intros; first | rfl | simp [fixV], by intros; first | rfl | simp [fixV], by intros; first | rfl | simp [fixV], by intros; first | rfl | simp [fixV], by intros; first | rfl | simp [fixV]⟩
theorem avl : type_of% @avl0 ∧ type_of% @avl1 ∧ type_of% @avl2 ∧ type_of% @avl3 ∧ type_of% @avl4 ∧ type_of% @avl5 := ⟨@avl0, @avl1, @avl2, @avl3, @avl4, @avl5⟩
end Go.Aw

/- Types of what comes in, taken apart. Own work. -/
namespace Go.Aw
open Go
def typedL (P : Program) (n : Nat) : List TypeId → List AV → Prop
  | [], xs => xs = []
  | t :: ts, xs => ∃ y r, xs = y ++ r ∧ typed P n t y ∧ typedL P n ts r
theorem typedL_of {P : Program} {n : Nat} : ∀ {fs : List Field} {xss : List (List AV)}, xss.length = fs.length → (∀ (i : Nat) (f : Field) (ys : List AV), fs[i]? = some f → xss[i]? = some ys → typed P n f.type ys) → typedL P n (fs.map (·.type)) xss.flatten
  | [], xss, h, _ => by
    have : xss = [] := List.eq_nil_of_length_eq_zero h
    subst this; rfl
  | f :: fs, [], h, _ => by cases h
  | f :: fs, y :: xss, h, ht => ⟨y, xss.flatten, rfl, ht 0 f y rfl rfl, typedL_of (by simpa using h) fun i g ys hg hy => ht (i + 1) g ys (by simpa using hg) (by simpa using hy)⟩
theorem typed_struct {P : Program} {n : Nat} {t : TypeId} {fs : Array Field} {xs : List AV} (hu : P.underlying t = some (.struct fs)) (h : typed P n t xs) {ts : List TypeId} (hts : fs.toList.map (·.type) = ts) : ∃ m, typedL P m ts xs := by
  cases n with
  | zero => exact h.elim
  | succ n =>
    simp only [typed, hu] at h
    obtain ⟨xss, rfl, h1, h2⟩ := h
    exact ⟨n, hts ▸ typedL_of h1 h2⟩
theorem typed_int {P : Program} {n : Nat} {t : TypeId} {k : IntKind} {xs : List AV} (hu : P.underlying t = some (.int k)) (h : typed P n t xs) : ∃ m : Int, (Lit.int k m).wf = true ∧ xs = [.int k m] := by
  cases n with
  | zero => exact h.elim
  | succ n => simp only [typed, hu] at h; exact h
theorem typed_bool {P : Program} {n : Nat} {t : TypeId} {xs : List AV} (hu : P.underlying t = some .bool) (h : typed P n t xs) : ∃ b, xs = [.bool b] := by
  cases n with
  | zero => exact h.elim
  | succ n => simp only [typed, hu] at h; exact h
theorem typed_string {P : Program} {n : Nat} {t : TypeId} {xs : List AV} (hu : P.underlying t = some .string) (h : typed P n t xs) : ∃ s : ByteArray, s.size ≤ maxLen ∧ xs = [.str s] := by
  cases n with
  | zero => exact h.elim
  | succ n => simp only [typed, hu] at h; exact h
theorem typed_slice {P : Program} {n : Nat} {t e : TypeId} {xs : List AV} (hu : P.underlying t = some (.slice e)) (h : typed P n t xs) : ∃ (m : Nat) (es : List AV), es.length ≤ maxLen ∧ (∀ y ∈ es, typed P m e y.cells ∧ isE P e y) ∧ xs = [.ro (P.cellsOf e) es] := by
  cases n with
  | zero => exact h.elim
  | succ n => simp only [typed, hu] at h; exact ⟨n, h⟩
theorem isE_struct {P : Program} {e : TypeId} {fs : Array Field} {y : AV} (hu : P.underlying e = some (.struct fs)) (h : isE P e y) : ∃ cs, y = .agg cs := by
  unfold isE at h; rw [hu] at h; exact h
theorem list_map_of {α : Type} {f : α → AV} {Q : α → Prop} : ∀ {es : List AV}, (∀ y ∈ es, ∃ a, Q a ∧ y = f a) → ∃ l : List α, (∀ a ∈ l, Q a) ∧ es = l.map f
  | [], _ => ⟨[], by simp, rfl⟩
  | y :: es, h => by
    obtain ⟨a, h1, rfl⟩ := h y (by simp)
    obtain ⟨l, h2, rfl⟩ := list_map_of (es := es) fun z hz => h z (by simp [hz])
    exact ⟨a :: l, by simpa using ⟨h1, h2⟩, rfl⟩
end Go.Aw

/- More words for evaluation. Own work. -/
namespace Go.Aw
open Go
set_option linter.unusedVariables false
section
variable {α : Type} {f : α → AV} {l : List α}
theorem row_sub1 [h : RowF f] {o : Nat} {fs fp : Nat → Nat → AV} : (∀ e ∈ l.map f, sub o fs fp e = e) = True := by
  refine eq_true fun e he => ?_
  obtain ⟨x, _, rfl⟩ := List.mem_map.1 he
  exact sub_pure (h.pure x)
theorem getD_map {i : Nat} {x : α} (h : l[i]? = some x) : (l.map f).getD i .junk = f x := by
  simp [List.getD_eq_getElem?_getD, h]
theorem some_true {x : α} {φ : Prop} (h : φ) : (some (x, φ) : Option (α × Prop)) = some (x, True) := by rw [eq_true h]
theorem row_take1 {x : AV} : List.take (l.length + 1) (l.map f ++ [x]) = l.map f ++ [x] := List.take_of_length_le (by simp)
end
end Go.Aw

