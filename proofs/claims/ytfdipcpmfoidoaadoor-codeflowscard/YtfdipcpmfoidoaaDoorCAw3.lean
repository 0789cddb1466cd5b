/- A framework of the hand for programs over the model: abstract values, an interpreter, that it is sound. Own work. -/
import Derived.Test.YtfdipcpmfoidoaaDoorCAw2
/- What a code asks of a state, computed. Own work. -/
namespace Go.Aw
open Go
def isA : Op -> Bool
 | .alloc _ | .box .. | .buildSlice .. | .makeSlice .. => true
 | _ => false
def frA : List Oper -> List Nat
 | [] => []
 | o :: l => if isA o.op then o.dst.toList ++ frA l else frA l
def opT : List Operand -> List Nat
 | [] => []
 | .tmp t :: l => (t + 1000000) :: opT l
 | _ :: l => opT l
def opU : List Operand -> List Nat
 | [] => []
 | .tmp t :: l => t :: opU l
 | _ :: l => opU l
def argsU (hk : List Tmp) : List Oper -> List Nat
 | [] => []
 | o :: l => if isApp o.op || isHC hk o then opU (opnds o.op) ++ argsU hk l else argsU hk l
def dstIn (aa : List Nat) : Option Tmp -> Bool
 | some d => aa.contains d
 | none => false
def frK (aa : List Nat) (ds : List (Option Tmp)) : List Oper -> List Nat
 | [] => []
 | o :: l => if isY o.op && !dstIn aa o.dst then opT (opnds o.op) ++ (match o.guard with
  | some (j, _) => match ds[j]? with
   | some (some d) => [d + 1000000]
   | _ => []
  | none => []) ++ (match o.dst with | some d => [d + 1000000] | none => []) ++ frK aa ds l else frK aa ds l
def frOf (hk : List Tmp) (l : List Oper) : List Nat := frA l ++ (if anyApp hk l then frK (argsU hk l) (l.map (·.dst)) l else [])
def lenQ : AV -> Option Nat
 | .sl _ _ len => some len
 | .asl _ _ _ len _ => some len
 | .ro _ es => some es.length
 | _ => none
def nilQ (cx : Cx) (o : Oper) (s : St) : Option (Bool × Nat) :=
 match o.guard, o.op with
 | none, .binOp op t x y _ => match tKind cx.P t, stripV (aev cx s.ρ y) with
  | some .slice, .nilsl => match lenQ (stripV (aev cx s.ρ x)), op with
   | some n, .eql => some (false, n)
   | some n, .neq => some (true, n)
   | _, _ => none
  | _, _ => none
 | _, _ => none
def bq (r : Option (St × Prop)) (K : St -> Prop) : Prop :=
 match r with
 | some (s', φ) => φ /\ K s'
 | none => False
def wpL (cx : Cx) (oh : List (Tmp × HO)) (orc : List (Tmp × AV)) (ds : List (Option Tmp)) : List Oper -> (St -> Prop) -> St -> Prop
 | [], K, s => K s
 | o :: l, K, s => match nilQ cx o s with
  | some (neg, n) => allB cx s.ρ (opnds o.op) = true /\ ∀ b : Bool, (b = true -> n = 0) -> wpL cx oh orc ds l K (putv s o.dst (.bool (b != neg)))
  | none => bq (sstepH cx oh orc ds o s) (wpL cx oh orc ds l K)
theorem eqIn_slice_nil {P : Program} {w : World} (d : Nat) {t e : TypeId} (h : P.underlying t = some (.slice e)) (a : Option Addr) (n c m k : Nat) : (Op.equalIn (d + 1) t (.slice a n c) (.slice none m k)).run P w = .ok a.isNone w := by
 cases a <;> simp [Op.equalIn, run_underlying h]
theorem run_eq_slice_nil {P : Program} {w : World} {t e : TypeId} (h : P.underlying t = some (.slice e)) (a : Option Addr) (n c : Nat) : (Op.equal t (.slice a n c) (.slice none 0 0)).run P w = .ok a.isNone w := eqIn_slice_nil 9999 h a n c 0 0
theorem nilQ_does {cx : Cx} {κ : Kz} {s : St} {a : Act} {w : World} (R : RelK cx κ s a w) {o : Oper} {neg : Bool} {n : Nat} (h : nilQ cx o s = some (neg, n)) (hB : allB cx s.ρ (opnds o.op) = true) (hd : ∀ d, o.dst = some d -> cx.ok d) :
  o.guard = none /\ ∃ b : Bool, (b = true -> n = 0) /\ Does cx o a w (putv s o.dst (.bool (b != neg))) := by
 unfold nilQ at h
 split at h
 case h_2 => cases h
 rename_i op t x y ty hg hop
 split at h
 case h_2 => cases h
 rename_i hk hy
 have hop2 := R.opnd hB
 rw [hop] at hop2
 have hx := hop2 x (by simp [opnds])
 have hy2 := hop2 y (by simp [opnds])
 rw [hy] at hy2
 have ey := hy2.nilsl_inv
 obtain ⟨e, hu⟩ := tKind_spec.2.2.1 hk
 have key : ∀ n, lenQ (stripV (aev cx s.ρ x)) = some n -> ∃ (A : Option Addr) (c : Nat), a.eval x = .slice A n c /\ (A.isNone = true -> n = 0) := fun n hn => by
  generalize stripV (aev cx s.ρ x) = vx at hx hn
  generalize a.eval x = ux at hx
  cases vx <;> simp only [lenQ, reduceCtorEq, Option.some.injEq] at hn
  ·subst hn
   cases hx with
   | imm h =>
    cases h with
    | ro sz es A cap b off vs hA hcap hz hc hr =>
     refine ⟨A, cap, rfl, fun hn => ?_⟩
     rcases Nat.eq_zero_or_pos (List.length _) with h | h
     ·exact h
     ·rw [(hA h).1] at hn; cases hn
  ·subst hn
   cases hx with
   | imm h => cases h
   | sl o lo len ob A cap hH hbox hlen hcap hA =>
    refine ⟨A, cap, rfl, fun hn => ?_⟩
    rcases hA with h | ⟨b, base, n, e1, e2, e3⟩
    ·omega
    ·rw [e2] at hn; cases hn
  ·subst hn
   cases hx with
   | imm h => cases h
   | asl o i c len esz ob A cap b base n hH hμ hi hlen hcap hA =>
    refine ⟨A, cap, rfl, fun hn => ?_⟩
    rcases hA with h | h
    ·exact h
    ·rw [h] at hn; cases hn
 split at h
 ·rename_i n' hl
  cases h
  obtain ⟨A, c, h1, h2⟩ := key _ hl
  refine ⟨hg, A.isNone, h2, .value (u := .bool A.isNone) (w' := w) ?_ ⟨κ, R.putv hd (by simpa using RV.bool A.isNone)⟩⟩
  simp [execOp, hop, h1, ey, eqGuard_at_slice, binOp, run_eq_slice_nil hu]
 ·rename_i n' hl
  cases h
  obtain ⟨A, c, h1, h2⟩ := key _ hl
  refine ⟨hg, A.isNone, h2, .value (u := .bool (!A.isNone)) (w' := w) ?_ ⟨κ, R.putv hd (by simpa using RV.bool (!A.isNone))⟩⟩
  simp [execOp, hop, h1, ey, eqGuard_at_slice, binOp, run_eq_slice_nil hu]
 ·cases h
end Go.Aw

/- The executor as a machine of first order, for evaluation by rewriting. Own work. -/
namespace Go.Aw
open Go
inductive Fr | code (c : Code) | blk (id : Nat)
def unw (id : Nat) : List Fr -> Option (List Fr)
 | [] => none
 | .code _ :: k => unw id k
 | .blk i :: k => if i = id then some k else unw id k
structure Ex where
 cx : Cx
 oh : List (Tmp × HO)
 orc : List (Tmp × AV)
 Q : Exit -> St -> Prop
def contQ (cx : Cx) (Q : Exit -> St -> Prop) : List Fr -> Exit -> St -> Prop
 | [] => Q
 | .code y :: k => thenQ (fun s' => AW cx y (contQ cx Q k) s') (contQ cx Q k)
 | .blk id :: k => blockQ id (contQ cx Q k)
def goA (x : Ex) : Nat -> Code -> List Fr -> St -> Prop
 | 0, c, k, s => match c with
  | .skip => contQ x.cx x.Q k .normal s
  | c => AW x.cx c (contQ x.cx x.Q k) s
 | n + 1, .skip, k, s => match k with
  | [] => x.Q .normal s
  | .code y :: k' => goA x n y k' s
  | .blk _ :: k' => goA x n .skip k' s
 | n + 1, .label _, k, s => goA x n .skip k s
 | n + 1, .exit id, k, s => match unw id k with
  | some k' => goA x n .skip k' s
  | none => x.Q (.exit id) s
 | _ + 1, .ret, _, s => x.Q .ret s
 | n + 1, .seq c d, k, s => goA x n c (.code d :: k) s
 | n + 1, .block id c, k, s => goA x n c (.blk id :: k) s
 | n + 1, .cond (.tmp t) c d, k, s => match s.ρ t with
  | .bool b => (b = true -> goA x n c k s) /\ (b = false -> goA x n d k s)
  | _ => False
 | n + 1, .region _ ops false, k, s => wpL x.cx x.oh x.orc (ops.toList.map (·.dst)) ops.toList (fun s' => goA x n .skip k s') s
 | n + 1, .region _ ops true, k, s => rQ (fun _ s' => goA x n .skip k s') (srunG (stepD x.cx (frOf (x.oh.map (·.1)) ops.toList) x.oh x.orc (ops.toList.map (·.dst))) ops.toList (blank ((ops.toList.filter fun o => anyApp (x.oh.map (·.1)) ops.toList && isY o.op).map (·.dst)) s))
 | n + 1, c, k, s => AW x.cx c (fun e s' => match e with
  | .normal => goA x n .skip k s'
  | .exit id => match unw id k with
   | some k' => goA x n .skip k' s'
   | none => x.Q (.exit id) s'
  | e => x.Q e s') s
theorem contQ_ret {cx : Cx} {Q : Exit -> St -> Prop} : ∀ {k : List Fr} {s : St}, Q .ret s -> contQ cx Q k .ret s
 | [], _, h => h
 | .code _ :: k, _, h => contQ_ret (k := k) h
 | .blk _ :: k, _, h => contQ_ret (k := k) h
theorem contQ_exit {cx : Cx} {Q : Exit -> St -> Prop} {id : Nat} : ∀ {k : List Fr} {s : St}, (match unw id k with | some k' => contQ cx Q k' .normal s | none => Q (.exit id) s) -> contQ cx Q k (.exit id) s
 | [], _, h => h
 | .code _ :: k, _, h => contQ_exit (k := k) h
 | .blk i :: k, s, h => by
  simp only [unw] at h
  simp only [contQ, blockQ_exit]
  by_cases hi : i = id
  ·rw [if_pos hi] at h
   rw [if_pos hi.symm]
   exact h
  ·rw [if_neg hi] at h
   rw [if_neg (fun e => hi e.symm)]
   exact contQ_exit h
end Go.Aw

/- The executor's equations. Own work. -/
namespace Go.Aw
open Go
/-! ### Control -/
section
variable {x : Ex} {n : Nat} {k : List Fr} {s : St}
def kQ (x : Ex) (n : Nat) (k : List Fr) (e : Exit) (s' : St) : Prop :=
 match e with
 | .normal => goA x n .skip k s'
 | .exit id => match unw id k with
  | some k' => goA x n .skip k' s'
  | none => x.Q (.exit id) s'
 | e => x.Q e s'
theorem kQ_ret : kQ x n k .ret s = x.Q .ret s := rfl
theorem kQ_normal : kQ x n k .normal s = goA x n .skip k s := rfl
theorem kQ_exit {id : Nat} : kQ x n k (.exit id) s = (match unw id k with | some k' => goA x n .skip k' s | none => x.Q (.exit id) s) := rfl
end
/-! ### Regions -/
def frL (fr : Option (List Nat)) : List Nat := fr.getD []
def blD (fl : Bool) : List Oper -> List (Option Tmp)
 | [] => []
 | o :: l => if fl && isY o.op then o.dst :: blD fl l else blD fl l
theorem blD_eq {fl : Bool} : ∀ {l : List Oper}, blD fl l = (l.filter fun o => fl && isY o.op).map (·.dst)
 | [] => rfl
 | o :: l => by
  simp only [blD, blD_eq (l := l), List.filter_cons]
  split <;> rfl
section
variable {x : Ex} {n : Nat} {fr : Option (List Nat)} {os l : List Oper} {k : List Fr} {s : St} {dst : Option Tmp} {ty : TypeId} {pos : String} {aft : Array Edge} {g : Option (Nat × Bool)}
theorem headOut_nil {cx : Cx} {ρ : Nat -> AV} {op : Op} : headOut cx ρ [] op = true := by
 unfold headOut
 split
 ·unfold outside; split <;> rfl
 ·rfl
def nilR (g : Option (Nat × Bool)) (op : BinOp) (tk : Option TK) (vx vy : AV) : Option (Bool × Nat) :=
 match g with
 | none => match tk, vy with
  | some .slice, .nilsl => match lenQ vx, op with
   | some n, .eql => some (false, n)
   | some n, .neq => some (true, n)
   | _, _ => none
  | _, _ => none
 | _ => none
end
end Go.Aw

/- The equations, as bundles. Own work. -/
namespace Go.Aw
open Go
def gcT (v : AV) (w : Bool) : Option Bool := match stripV v with
 | .bool b => some (stripB v && (b == w))
 | _ => none
theorem gcond_none {ds : List (Option Tmp)} {ρ : Nat -> AV} : gcond ds ρ none = some true := rfl
def gcS (o : Option (Option Tmp)) (ρ : Nat -> AV) (w : Bool) : Option Bool := match o with
 | some (some d) => gcT (ρ d) w
 | _ => none
theorem gcond_some {ds : List (Option Tmp)} {ρ : Nat -> AV} {j : Nat} {w : Bool} : gcond ds ρ (some (j, w)) = gcS ds[j]? ρ w := by
 unfold gcond gcS gcT
 simp only
 cases hd : ds[j]? with
 | none => rfl
 | some o =>
  cases o with
  | none => simp only
  | some d =>
   simp only
   cases stripV (ρ d) <;> rfl
theorem gcS_some {d : Tmp} {ρ : Nat -> AV} {w : Bool} : gcS (some (some d)) ρ w = gcT (ρ d) w := rfl
theorem upd_app {α : Type} {f : Nat -> α} {d t : Nat} {x : α} : upd f d x t = if t = d then x else f t := rfl
theorem putv_some {s : St} {d : Tmp} {v : AV} : putv s (some d) v = { s with ρ := upd s.ρ d v } := rfl
theorem putv_none {s : St} {v : AV} : putv s none v = s := rfl
def resC (r : AV) (x : Option (List AV × Prop)) : Prop := match x with
 | some (l, φ) => φ /\ tupA l = r
 | none => False
theorem resC_some {r : AV} {l : List AV} {φ : Prop} : resC r (some (l, φ)) = (φ /\ tupA l = r) := rfl
def RetC (cx : Cx) (rs : List ResultVar) (r : AV) : Exit -> St -> Prop
 | .normal, s | .ret, s => resC r (resAs cx s rs) /\ r.pure = true
 | _, _ => False
theorem RetC_ret {cx : Cx} {rs : List ResultVar} {r : AV} {s : St} : RetC cx rs r .ret s = (resC r (resAs cx s rs) /\ r.pure = true) := rfl
theorem RetC_normal {cx : Cx} {rs : List ResultVar} {r : AV} {s : St} : RetC cx rs r .normal s = (resC r (resAs cx s rs) /\ r.pure = true) := rfl
def heapC (H : Hp) : List (Nat × Ob) -> Prop
 | [] => True
 | (o, ob) :: l => H o = some ob /\ heapC H l
def RetD (cx : Cx) (rs : List ResultVar) (r : AV) (l : List (Nat × Ob)) : Exit -> St -> Prop
 | .normal, s | .ret, s => resC r (resAs cx s rs) /\ heapC s.H l /\ r.refs (dom l).contains = true /\ closedL l = true
 | _, _ => False
theorem RetD_ret {cx : Cx} {rs : List ResultVar} {r : AV} {l : List (Nat × Ob)} {s : St} : RetD cx rs r l .ret s = (resC r (resAs cx s rs) /\ heapC s.H l /\ r.refs (dom l).contains = true /\ closedL l = true) := rfl
theorem RetD_normal {cx : Cx} {rs : List ResultVar} {r : AV} {l : List (Nat × Ob)} {s : St} : RetD cx rs r l .normal s = (resC r (resAs cx s rs) /\ heapC s.H l /\ r.refs (dom l).contains = true /\ closedL l = true) := rfl
def inD : List (Option Tmp) -> Tmp -> Bool
 | [], _ => false
 | none :: l, t => inD l t
 | some d :: l, t => if t = d then true else inD l t
theorem inD_eq {t : Tmp} : ∀ {l : List (Option Tmp)}, l.contains (some t) = inD l t
 | [] => rfl
 | none :: l => by
  rw [List.contains_cons, inD, <- inD_eq (l := l)]
  rfl
 | some d :: l => by
  rw [List.contains_cons, inD, <- inD_eq (l := l)]
  by_cases h : t = d <;> simp [h]
theorem blank_ρ {ds : List (Option Tmp)} {s : St} {t : Tmp} : (blank ds s).ρ t = if inD ds t = true then .junk else s.ρ t := by
 simp only [blank, inD_eq]
theorem blank_H {ds : List (Option Tmp)} {s : St} : (blank ds s).H = s.H := rfl
theorem inD_nil {t : Tmp} : inD [] t = false := rfl
theorem inD_none {l : List (Option Tmp)} {t : Tmp} : inD (none :: l) t = inD l t := rfl
theorem inD_some {l : List (Option Tmp)} {d t : Tmp} : inD (some d :: l) t = if t = d then true else inD l t := rfl
theorem hp_cons {p o : Nat} {ob : Ob} {l : List (Nat × Ob)} : hp ((p, ob) :: l) o = if o = p then some ob else hp l o := rfl
theorem drop_ρ {s : St} {o : Nat} {t : Tmp} : (s.drop o).ρ t = kill o (s.ρ t) := rfl
theorem drop_H {s : St} {o p : Nat} : (s.drop o).H p = if p = o then none else (s.H p).map (subOb o (fun _ _ => .junk) (fun _ _ => .junk)) := rfl
theorem clearOf_nil {ρ : Nat -> AV} {bad : List Nat} : clearOf [] ρ bad = true := rfl
theorem clearOf_cons {ρ : Nat -> AV} {bad fr : List Nat} {k : Nat} : clearOf (k :: fr) ρ bad = if 1000000 ≤ k then ((ρ (k - 1000000)).refs (fun p => !bad.contains p) && clearOf fr ρ bad) else clearOf fr ρ bad := by
 by_cases h : 1000000 ≤ k <;> simp [clearOf, kset, h]
theorem newH_app {h : HO} {H : Hp} {p : Nat} : newH h H p = (match hp (h.l'.map fun q => (tau h.τ q.1, renOb (tau h.τ) q.2)) p with | some ob => some ob | none => H p) := rfl
theorem cxH_pin' {P : Program} {G : Nat -> AV} {n : Nat} {w : World} {κ : Kz} {l : List (Nat × Ob)} {pins : List Nat} {o : Nat} : (cxH P G n w κ l pins).pin o = if pins.contains o then κ.μ o else none := rfl
theorem cx0_pin {P : Program} {G : Nat -> AV} {n : Nat} {w : World} {im : Nat -> Prop} {o : Nat} : (cx0 P G n w im).pin o = none := rfl
theorem hp_nil {o : Nat} : hp [] o = none := rfl
theorem aw : type_of% @headOut_nil /\ type_of% @gcond_none /\ type_of% @gcond_some /\ type_of% @gcS_some /\ type_of% @gcT.eq_1 /\
  type_of% @upd_app /\ type_of% @putv_some /\ type_of% @putv_none /\ type_of% @cx0_P /\ type_of% @cx0_G /\ type_of% @cxH_P /\ type_of% @cxH_G /\ type_of% @RetC_ret /\ type_of% @RetC_normal /\ type_of% @RetD_ret /\ type_of% @RetD_normal /\ type_of% @resC_some /\ type_of% @blank_ρ /\ type_of% @blank_H /\ type_of% @inD_nil /\ type_of% @inD_none /\ type_of% @inD_some /\ type_of% @hp_cons /\ type_of% @hp_nil /\ type_of% @drop_ρ /\ type_of% @drop_H /\ type_of% @clearOf_nil /\ type_of% @clearOf_cons /\ type_of% @newH_app /\ type_of% @cxH_pin' /\ type_of% @cx0_pin :=
 ⟨@headOut_nil, @gcond_none, @gcond_some, @gcS_some, @gcT.eq_1, @upd_app, @putv_some, @putv_none, @cx0_P, @cx0_G, @cxH_P, @cxH_G, @RetC_ret, @RetC_normal, @RetD_ret, @RetD_normal, @resC_some, @blank_ρ, @blank_H, @inD_nil, @inD_none, @inD_some, @hp_cons, @hp_nil, @drop_ρ, @drop_H, @clearOf_nil, @clearOf_cons, @newH_app, @cxH_pin', @cx0_pin⟩
theorem stdl : (∀ (α β : Type) (f : α -> β) (a : α) (l : List α), List.map f (a :: l) = f a :: List.map f l) /\ (∀ (α β : Type) (f : α -> β), List.map f [] = []) /\ (∀ (α : Type) (a d : α) (l : List α), (a :: l).getD 0 d = a) /\
  (∀ (α : Type) (a d : α) (l : List α) (n : Nat), (a :: l).getD (n + 1) d = l.getD n d) /\ (∀ (α : Type) (d : α) (n : Nat), ([] : List α).getD n d = d) /\ (∀ (α : Type) (a : α) (l : List α), (a :: l)[0]? = some a) /\ (∀ (α : Type) (a : α) (l : List α) (n : Nat), (a :: l)[n + 1]? = l[n]?) /\
  (∀ (α : Type) (n : Nat), ([] : List α)[n]? = none) /\ (∀ (α : Type) (a b : α) (l : List α), (a :: l).set 0 b = b :: l) /\ (∀ (α : Type) (a b : α) (l : List α) (n : Nat), (a :: l).set (n + 1) b = a :: l.set n b) /\ (∀ (α : Type) (a : α) (n : Nat), ([] : List α).set n a = []) /\
  (∀ (α : Type) (a : α) (l : List α), (a :: l).length = l.length + 1) /\ (∀ (α : Type), ([] : List α).length = 0) /\ (∀ (α : Type) (a : α) (l m : List α), a :: l ++ m = a :: (l ++ m)) /\ (∀ (α : Type) (l : List α), [] ++ l = l) /\ (∀ (α : Type) (l : List α), l ++ [] = l) /\
  (∀ (α : Type) (a : α) (n : Nat), List.replicate (n + 1) a = a :: List.replicate n a) /\ (∀ (α : Type) (a : α), List.replicate 0 a = []) /\ (∀ (α : Type) (a : α) (l : List α) (n : Nat), (a :: l).drop (n + 1) = l.drop n) /\ (∀ (α : Type) (l : List α), l.drop 0 = l) /\
  (∀ (α : Type) (n : Nat), ([] : List α).drop n = []) /\ (∀ (α : Type) (a : α) (l : List α) (n : Nat), (a :: l).take (n + 1) = a :: l.take n) /\ (∀ (α : Type) (l : List α), l.take 0 = []) /\ (∀ (α : Type) (n : Nat), ([] : List α).take n = []) /\ (∀ (a : Nat), ([] : List Nat).contains a = false) /\
  (∀ (a b : Nat) (l : List Nat), (a :: l).contains b = (b == a || l.contains b)) /\ (∀ (α : Type) (p : α -> Bool) (a : α) (l : List α), (a :: l).all p = (p a && l.all p)) /\ (∀ (α : Type) (p : α -> Bool), [].all p = true) /\ (∀ (α : Type) (l : List α), l.toArray.toList = l) /\
  (∀ (α : Type) (a d : α), (some a).getD d = a) /\ (∀ (α : Type) (d : α), none.getD d = d) /\ (∀ (α β : Type) (f : α -> β) (a : α), (some a).map f = some (f a)) /\ (∀ (α β : Type) (f : α -> β), (none : Option α).map f = none) /\
  (∀ (n : Nat), ((some n : Option Nat) == some n) = true) /\ (∀ (p : Nat -> Bool) (a : Nat) (l : List Nat), (a :: l).filter p = if p a = true then a :: l.filter p else l.filter p) /\ (∀ (p : Nat -> Bool), ([] : List Nat).filter p = []) /\ (∀ (b : Bool), (b == true) = b) /\ (∀ (b : Bool), (b == false) = !b) /\ (∀ (b : Bool), (true == b) = b) /\ (∀ (b : Bool), (false == b) = !b) /\ (∀ (b : Bool), (b != false) = b) /\ (∀ (b : Bool), (b != true) = !b) /\ (∀ (b c : Bool), (bif b then c else false) = (b && c)) /\ (∀ (b c : Bool), (bif b then true else c) = (b || c)) /\
  (∀ (p : Prop), (p -> p) = True) /\ (∀ (b : Bool), (b && b) = b) /\ (∀ (b c : Bool), (b && (b && c)) = (b && c)) /\ (∀ (b : Bool), (true && b) = b) /\ (∀ (b : Bool), (b && true) = b) /\ (∀ (b : Bool), (false && b) = false) /\ (∀ (b : Bool), (b && false) = false) /\ (∀ (b : Bool), (true || b) = true) /\ (∀ (b : Bool), (b || true) = true) /\ (∀ (b : Bool), (false || b) = b) /\ (∀ (b : Bool), (b || false) = b) /\
  (∀ (p : Prop), (False \/ p) = p) /\ (∀ (p : Prop), (p \/ False) = p) /\ (∀ (p : Prop), (True \/ p) = True) /\ (∀ (p : Prop), (p \/ True) = True) /\ (∀ (p : Prop), (True /\ p) = p) /\ (∀ (p : Prop), (p /\ True) = p) /\ (∀ (p : Prop), (False /\ p) = False) /\ (∀ (p : Prop), (True -> p) = p) /\ (∀ (p : Prop), (p -> True) = True) /\ (∀ (p : Prop), (False -> p) = True) /\ (∀ (α : Type) (a : α), (a = a) = True) /\ ((false = true) = False) /\ ((true = false) = False) /\ (¬ False) = True /\ (¬ True) = False /\ (!true) = false /\ (!false) = true /\
  (∀ (α : Type) (a b : α), (bif true then a else b) = a) /\ (∀ (α : Type) (a b : α), (bif false then a else b) = b) /\ (∀ (n : Nat), 0 + n = n) /\ (∀ (n : Nat), n + 0 = n) /\ (∀ (n : Nat), n - 0 = n) /\ (∀ (n : Nat), 0 * n = 0) /\ (∀ (n : Nat), n * 1 = n) /\ (∀ (n : Nat), ((n : Int)).toNat = n) /\ (∀ (α : Type) (a : α), (some a).toList = [a]) /\ (∀ (α : Type), (none : Option α).toList = []) := by
 refine ⟨?_, ?_, ?_, ?_, ?_, ?_, ?_, ?_, ?_, ?_, ?_, ?_, ?_, ?_, ?_, ?_, ?_, ?_, ?_, ?_, ?_, ?_, ?_, ?_, ?_, ?_, ?_, ?_, ?_, ?_, ?_, ?_, ?_, ?_, ?_, ?_, ?_, ?_, ?_, ?_, ?_, ?_, ?_, ?_, ?_, ?_, ?_, ?_, ?_, ?_, ?_, ?_, ?_, ?_, ?_, ?_, ?_, ?_, ?_, ?_, ?_, ?_, ?_, ?_, ?_, ?_, ?_, ?_, ?_, ?_, ?_, ?_, ?_, ?_, ?_, ?_, ?_, ?_, ?_, ?_, ?_, ?_⟩ <;> intros <;> first | rfl | exact List.filter_cons | (simp; done) | (cases ‹Bool› <;> rfl) | (cases ‹Bool› <;> simp)
end Go.Aw
namespace Go.Aw
open Go
end Go.Aw

/- Contracts under other names. Own work. -/
namespace Go.Aw
open Go
theorem HC.rename {P : Program} {G : Nat -> AV} {f : FuncId} {args : List AV} {l l0 : List (Nat × Ob)} {r0 : AV} {pins : List Nat} (h : HC P G f args l r0 l0 pins) (τ : List (Nat × Nat)) (hnd : ((dom l0).map (tau τ)).Nodup)
  (hp : ∀ o ∈ dom l0, pins.contains (tau τ o) = true -> tau τ o = o) (hr : r0.refs (dom l0).contains = true) (hcl : closedL l0 = true) :
  HC P G f args l (ren (tau τ) r0) (l0.map fun q => (tau τ q.1, renOb (tau τ) q.2)) pins := by
 refine ⟨h.1, fun w κ vs a1 a2 a3 a4 a5 a6 => (h.2 w κ vs a1 a2 a3 a4 a5 a6).mono fun e w' ⟨u, κ', he, g1, g2, g3, g4, g5, g6, g7, g8, g9, g10, g11, g12, g13⟩ => ?_⟩
 have hnd2 : (dom (l0.map fun q => (tau τ q.1, renOb (tau τ) q.2))).Nodup := by
  have : dom (l0.map fun q => (tau τ q.1, renOb (tau τ) q.2)) = (dom l0).map (tau τ) := by simp [dom]
  rw [this]; exact hnd
 have hnd0 := nodup_of hnd
 let μ2 : Nat -> Option (Nat × Nat × Nat) := fun p => match l0.find? (fun q => tau τ q.1 == p) with
  | some q => κ'.μ q.1
  | none => none
 have hμ : ∀ q ∈ l0, μ2 (tau τ q.1) = κ'.μ q.1 := fun q hq => by
  show (match l0.find? (fun q' => tau τ q'.1 == tau τ q.1) with | some q => κ'.μ q.1 | none => none) = _
  cases hfd : l0.find? (fun q' => tau τ q'.1 == tau τ q.1) with
  | none =>
   have := List.find?_eq_none.1 hfd q hq
   simp at this
  | some q' =>
   have e := List.find?_some hfd
   have hm := List.mem_of_find?_eq_some hfd
   simp only [beq_iff_eq] at e
   have := nodup_inj hnd (mem_dom (o := q'.1) (ob := q'.2) hm) (mem_dom (o := q.1) (ob := q.2) hq) e
   simp only [this]
 have hnew : ∀ q ∈ l0, Aw.hp (l0.map fun q => (tau τ q.1, renOb (tau τ) q.2)) (tau τ q.1) = some (renOb (tau τ) q.2) := fun q hq => hp_of_mem hnd2 (List.mem_map.2 ⟨q, hq, rfl⟩)
 have hcase : ∀ p ob, Aw.hp (l0.map fun q => (tau τ q.1, renOb (tau τ) q.2)) p = some ob -> ∃ q ∈ l0, tau τ q.1 = p /\ renOb (tau τ) q.2 = ob /\ Aw.hp l0 q.1 = some q.2 := fun p ob h => by
  obtain ⟨o, ob0, h1, h2, h3⟩ := tau_find h
  exact ⟨(o, ob0), h1, h2, h3, hp_of_mem hnd0 h1⟩
 have hS : ∀ o ob, (dom l0).contains o = true -> Aw.hp l0 o = some ob -> ∃ ob', Aw.hp (l0.map fun q => (tau τ q.1, renOb (tau τ) q.2)) (tau τ o) = some ob' /\ Like ob ob' /\ ∀ x, κ'.μ o = some x -> (⟨μ2, κ'.im⟩ : Kz).μ (tau τ o) = some x := fun o ob hd h =>
  ⟨_, hnew _ (hp_mem h), like_ren _ _, fun x hx => by show μ2 _ = _; rw [hμ _ (hp_mem h), hx]⟩
 refine ⟨u, ⟨μ2, κ'.im⟩, he, g1, g2, g3, ?_, g5, g6, g7, g8, g9, fun p ob h => ?_, fun p p' ob ob' x x' h h' hx hx' he => ?_, fun p ob x h hx => ?_, fun p ob x hpp h hx => ?_⟩
 ·exact RV.fwd (κ := κ') (κ' := ⟨μ2, κ'.im⟩) (w' := w') (fun _ h => h) (fun _ _ => rfl) hS g4 hr
 ·obtain ⟨q, hq, rfl, rfl, hh⟩ := hcase p ob h
  exact ObRep.fwd (κ := κ') (κ' := ⟨μ2, κ'.im⟩) (w' := w') (fun _ h => h) (fun _ _ => rfl) hS (List.all_eq_true.1 hcl q hq) (hμ q hq) (fun _ _ _ _ h => ⟨h, rfl⟩) (g10 q.1 q.2 hh)
 ·obtain ⟨q, hq, rfl, rfl, hh⟩ := hcase p ob h
  obtain ⟨q', hq', rfl, rfl, hh'⟩ := hcase p' ob' h'
  have e1 : μ2 _ = _ := hx
  have e2 : μ2 _ = _ := hx'
  rw [hμ q hq] at e1
  rw [hμ q' hq'] at e2
  rw [g11 q.1 q'.1 q.2 q'.2 x x' hh hh' e1 e2 he]
 ·obtain ⟨q, hq, rfl, rfl, hh⟩ := hcase p ob h
  have e1 : μ2 _ = _ := hx
  rw [hμ q hq] at e1
  exact g12 q.1 q.2 x hh e1
 ·obtain ⟨q, hq, rfl, rfl, hh⟩ := hcase p ob h
  show μ2 _ = _
  rw [hμ q hq]
  have := hp q.1 (mem_dom (ob := q.2) hq) hpp
  rw [this] at hpp hx
  exact g13 q.1 q.2 x hpp hh hx
end Go.Aw

/- What a function leaves, told more loosely: nil as an empty slice. Own work. -/
namespace Go.Aw
open Go
def le (l : List (Nat × Ob)) : AV -> AV -> Prop
 | .nilsl, .ro _ es => es = []
 | .nilsl, .sl o lo len => lo = 0 /\ len = 0 /\ ∃ ob, hp l o = some ob /\ ob.box = false
 | .tup a, .tup b => les l a b
 | .agg a, .agg b => les l a b
 | x, y => x = y
where
 les (l : List (Nat × Ob)) : List AV -> List AV -> Prop
  | [], [] => True
  | x :: a, y :: b => le l x y /\ les l a b
  | _, _ => False
theorem les_iff {l : List (Nat × Ob)} : ∀ {a b : List AV}, le.les l a b -> a.length = b.length /\ ∀ (i : Nat) (y : AV), b[i]? = some y -> ∃ x, a[i]? = some x /\ le l x y
 | [], [], _ => ⟨rfl, by simp⟩
 | x :: a, y :: b, h => by
  obtain ⟨h1, h2⟩ := les_iff (a := a) (b := b) h.2
  refine ⟨by simp [h1], fun i z hz => ?_⟩
  cases i with
  | zero => cases hz; exact ⟨x, rfl, h.1⟩
  | succ i => exact h2 i z hz
 | [], _ :: _, h => h.elim
 | _ :: _, [], h => h.elim
theorem le_cells {l : List (Nat × Ob)} {x y : AV} (h : le l x y) : x.cells.length = y.cells.length /\ ∀ (j : Nat) (z : AV), y.cells[j]? = some z -> ∃ z', x.cells[j]? = some z' /\ le l z' z := by
 have one : ∀ x y : AV, le l x y -> x.cells = [x] -> y.cells = [y] -> x.cells.length = y.cells.length /\ ∀ (j : Nat) (z : AV), y.cells[j]? = some z -> ∃ z', x.cells[j]? = some z' /\ le l z' z := fun x y h hx hy => by
  rw [hx, hy]
  refine ⟨rfl, fun j z hz => ?_⟩
  cases j with
  | zero => cases hz; exact ⟨x, rfl, h⟩
  | succ j => simp at hz
 cases x <;> cases y <;> first | exact one _ _ h rfl rfl | exact les_iff h | exact ⟨rfl, fun j z hz => by simp [AV.cells] at hz⟩ | (simp [le] at h)
theorem le_pair {l : List (Nat × Ob)} {k v y : AV} {c : Nat} {m : Value} (hk : keyV c k = some m) (h : le l (.tup [k, v]) y) : ∃ v', y = .tup [k, v'] /\ le l v v' := by
 cases y <;> simp only [le, reduceCtorEq] at h
 rename_i b
 match b, h with
 | [k', v'], h =>
  obtain ⟨h1, h2, _⟩ := h
  have : k = k' := by cases k <;> first | (cases hk; done) | (cases k' <;> simp only [le, reduceCtorEq] at h1 <;> exact h1)
  subst this
  exact ⟨v', rfl, h2⟩
 | [], h => exact h.elim
 | [_], h => exact h.2.elim
 | _ :: _ :: _ :: _, h => exact h.2.2.elim
theorem RV.le {κ κ' : Kz} {H : Hp} {w : World} {l : List (Nat × Ob)} (hS : ∀ o ob, (dom l).contains o = true -> H o = some ob -> ∃ ob', hp l ((fun o => o) o) = some ob' /\ Like ob ob' /\ ∀ x, κ.μ o = some x -> κ'.μ ((fun o => o) o) = some x) (hi : ∀ b, κ.im b -> κ'.im b) :
  ∀ {y x : AV} {v : Value}, Aw.le l x y -> RV κ H w x v -> y.refs (dom l).contains = true -> RV κ' (hp l) w y v := by
 have same : ∀ {x : AV} {v : Value}, RV κ H w x v -> x.refs (dom l).contains = true -> RV κ' (hp l) w x v := fun {x v} h hx => by
  have := RV.fwd (κ' := κ') (H' := hp l) (w' := w) hi (fun _ _ => rfl) hS h hx
  rwa [ren_id] at this
 have hlist : ∀ (a b : List AV) (vs : Array Value), le.les l a b -> (∀ y ∈ b, ∀ {x : AV} {v : Value}, Aw.le l x y -> RV κ H w x v -> y.refs (dom l).contains = true -> RV κ' (hp l) w y v) -> AV.refs.refsl (dom l).contains b = true ->
   (∀ (i : Nat) (x : AV) (v : Value), a[i]? = some x -> vs[i]? = some v -> RV κ H w x v) -> ∀ (i : Nat) (y : AV) (v : Value), b[i]? = some y -> vs[i]? = some v -> RV κ' (hp l) w y v := fun a b vs hl ih hr h i y v hy hv => by
  obtain ⟨x, hx, hle⟩ := (les_iff hl).2 i y hy
  exact ih y (List.mem_of_getElem? hy) hle (h i x v hx hv) (refsl_iff.1 hr y (List.mem_of_getElem? hy))
 intro y
 induction y using AV.ind with
 | agg cs ih =>
  intro x v hle h hr
  cases x <;> simp only [Aw.le, reduceCtorEq] at hle
  rename_i a
  cases h with
  | imm h => cases h
  | agg _ vs hl h h1 => exact .agg cs vs (hl.trans (les_iff hle).1) (hlist a cs vs hle ih hr h) h1
 | tup cs ih =>
  intro x v hle h hr
  cases x <;> simp only [Aw.le, reduceCtorEq] at hle
  rename_i a
  cases h with
  | imm h => cases h
  | tup _ vs hl h => exact .tup cs vs (hl.trans (les_iff hle).1) (hlist a cs vs hle ih hr h)
 | fn f a b ih ih' => intro x v hle h hr; unfold Aw.le at hle; split at hle <;> first | (subst hle; exact same h hr) | contradiction
 | gd b v ih => intro x v hle h hr; unfold Aw.le at hle; split at hle <;> first | (subst hle; exact same h hr) | contradiction
 | ifc t v ih => intro x v hle h hr; unfold Aw.le at hle; split at hle <;> first | (subst hle; exact same h hr) | contradiction
 | leaf y hy =>
  intro x v hle h hr
  unfold Aw.le at hle
  split at hle
  ·subst hle
   obtain rfl := h.nilsl_inv
   exact .imm (.ro _ [] none 0 0 0 (fun _ _ => undef) (fun h => absurd h (by simp)) (by simp) (by simp) (by simp) (by simp))
  ·obtain ⟨rfl, rfl, ob, ho, hb⟩ := hle
   obtain rfl := h.nilsl_inv
   exact .sl _ 0 0 ob none 0 ho hb (by simp) (by simp) (.inl rfl)
  ·cases hy
  ·cases hy
  ·subst hle; exact same h hr
def heapLe (H : Hp) (l' : List (Nat × Ob)) (pins : List Nat) : List (Nat × Ob) -> Prop
 | [] => True
 | (o, ob) :: l => (match H o with
  | some ob0 => ob0.box = ob.box /\ ob0.sz = ob.sz /\ le.les l' ob0.es ob.es
  | none => ob.box = false /\ ob.es = [] /\ pins.contains o = false) /\ heapLe H l' pins l
def resL (l' : List (Nat × Ob)) (r : AV) (x : Option (List AV × Prop)) : Prop := match x with
 | some (l, φ) => φ /\ le l' (tupA l) r
 | none => False
theorem resL_some {l' : List (Nat × Ob)} {r : AV} {l : List AV} {φ : Prop} : resL l' r (some (l, φ)) = (φ /\ le l' (tupA l) r) := rfl
def RetE (cx : Cx) (rs : List ResultVar) (r : AV) (l' : List (Nat × Ob)) (pins : List Nat) : Exit -> St -> Prop
 | .normal, s | .ret, s => resL l' r (resAs cx s rs) /\ heapLe s.H l' pins l' /\ r.refs (dom l').contains = true /\ closedL l' = true
 | _, _ => False
theorem RetE_ret {cx : Cx} {rs : List ResultVar} {r : AV} {l : List (Nat × Ob)} {pins : List Nat} {s : St} : RetE cx rs r l pins .ret s = (resL l r (resAs cx s rs) /\ heapLe s.H l pins l /\ r.refs (dom l).contains = true /\ closedL l = true) := rfl
theorem RetE_normal {cx : Cx} {rs : List ResultVar} {r : AV} {l : List (Nat × Ob)} {pins : List Nat} {s : St} : RetE cx rs r l pins .normal s = (resL l r (resAs cx s rs) /\ heapLe s.H l pins l /\ r.refs (dom l).contains = true /\ closedL l = true) := rfl
theorem le_refl (l : List (Nat × Ob)) (x : AV) : le l x x := by
 have hl : ∀ a : List AV, (∀ y ∈ a, le l y y) -> le.les l a a := fun a => by
  induction a with
  | nil => intro _; trivial
  | cons y a ih => intro h; exact ⟨h y (by simp), ih fun z hz => h z (by simp [hz])⟩
 induction x using AV.ind with
 | agg cs ih => exact hl cs ih
 | tup cs ih => exact hl cs ih
 | fn f a b _ _ => rfl
 | gd b v _ => rfl
 | ifc t v _ => rfl
 | leaf x hx => cases x <;> first | rfl | cases hx
theorem les_refl (l : List (Nat × Ob)) (a : List AV) : le.les l a a = True := by
 have : le l (.agg a) (.agg a) := le_refl l _
 exact eq_true this
theorem le_refl_eq (l : List (Nat × Ob)) (x : AV) : le l x x = True := eq_true (le_refl l x)
theorem les_nil (l : List (Nat × Ob)) : le.les l [] [] = True := rfl
theorem les_cons (l : List (Nat × Ob)) (x y : AV) (a b : List AV) : le.les l (x :: a) (y :: b) = (le l x y /\ le.les l a b) := rfl
theorem le_agg (l : List (Nat × Ob)) (a b : List AV) : le l (.agg a) (.agg b) = le.les l a b := rfl
theorem le_tup (l : List (Nat × Ob)) (a b : List AV) : le l (.tup a) (.tup b) = le.les l a b := rfl
theorem le_nil_ro (l : List (Nat × Ob)) (sz : Nat) (es : List AV) : le l .nilsl (.ro sz es) = (es = []) := rfl
theorem le_nil_sl (l : List (Nat × Ob)) (o lo len : Nat) : le l .nilsl (.sl o lo len) = (lo = 0 /\ len = 0 /\ ∃ ob, hp l o = some ob /\ ob.box = false) := rfl
theorem heapLe_nil {H : Hp} {l' : List (Nat × Ob)} {pins : List Nat} : heapLe H l' pins [] = True := rfl
def obLe (l' : List (Nat × Ob)) (pn : Bool) (x : Option Ob) (ob : Ob) : Prop := match x with
 | some ob0 => ob0.box = ob.box /\ ob0.sz = ob.sz /\ le.les l' ob0.es ob.es
 | none => ob.box = false /\ ob.es = [] /\ pn = false
theorem obLe_some {l' : List (Nat × Ob)} {pn b b' : Bool} {z z' : Nat} {e e' : List AV} : obLe l' pn (some ⟨b, z, e⟩) ⟨b', z', e'⟩ = (b = b' /\ z = z' /\ le.les l' e e') := rfl
theorem obLe_none {l' : List (Nat × Ob)} {pn b' : Bool} {z' : Nat} {e' : List AV} : obLe l' pn none ⟨b', z', e'⟩ = (b' = false /\ e' = [] /\ pn = false) := rfl
theorem heapLe_cons {H : Hp} {l' l : List (Nat × Ob)} {pins : List Nat} {o : Nat} {ob : Ob} : heapLe H l' pins ((o, ob) :: l) = (obLe l' (pins.contains o) (H o) ob /\ heapLe H l' pins l) := rfl
theorem refs_map_str {D : Nat -> Bool} (l : List ByteArray) : (l.map AV.str).all (·.refs D) = true := by simp [AV.refs]
theorem take_all {α β : Type} (f : α -> β) (l : List α) : List.take l.length (l.map f) = l.map f := List.take_of_length_le (by simp)
theorem take_len {α : Type} (l : List α) : List.take l.length l = l := List.take_length
theorem map_app {α β : Type} (f : α -> β) (l m : List α) : (l ++ m).map f = l.map f ++ m.map f := List.map_append
theorem all_app {α : Type} (p : α -> Bool) (l m : List α) : (l ++ m).all p = (l.all p && m.all p) := List.all_append
theorem len_app {α : Type} (l m : List α) : (l ++ m).length = l.length + m.length := List.length_append
theorem len_map {α β : Type} (f : α -> β) (l : List α) : (l.map f).length = l.length := List.length_map f
theorem awe : type_of% @les_refl /\ type_of% @le_refl_eq /\ type_of% @les_nil /\ type_of% @les_cons /\ type_of% @le_agg /\ type_of% @le_tup /\ type_of% @le_nil_ro /\ type_of% @le_nil_sl /\ type_of% @heapLe_nil /\ type_of% @heapLe_cons /\ type_of% @obLe_some /\ type_of% @obLe_none /\
  type_of% @RetE_ret /\ type_of% @RetE_normal /\ type_of% @resL_some /\ type_of% @refs_map_str /\ type_of% @take_all /\ type_of% @take_len /\ type_of% @map_app /\ type_of% @all_app /\ type_of% @len_app /\ type_of% @len_map :=
 ⟨@les_refl, @le_refl_eq, @les_nil, @les_cons, @le_agg, @le_tup, @le_nil_ro, @le_nil_sl, @heapLe_nil, @heapLe_cons, @obLe_some, @obLe_none, @RetE_ret, @RetE_normal, @resL_some, @refs_map_str, @take_all, @take_len, @map_app, @all_app, @len_app, @len_map⟩
end Go.Aw

/- A state told more loosely. Own work. -/
namespace Go.Aw
open Go
def envC (l : List (Nat × Ob)) (ρ : Nat -> AV) : List (Tmp × AV) -> Prop
 | [] => True
 | (t, x) :: e => le l (ρ t) x /\ envC l ρ e
theorem envC_mem {l : List (Nat × Ob)} {ρ : Nat -> AV} : ∀ {e : List (Tmp × AV)}, envC l ρ e -> ∀ p ∈ e, le l (ρ p.1) p.2
 | [], _, p, hp => by cases hp
 | (t, x) :: e, h, p, hp => by
  rcases List.mem_cons.1 hp with rfl | hp
  ·exact h.1
  ·exact envC_mem h.2 p hp
def heapW (cx : Cx) (H : Hp) (l' : List (Nat × Ob)) : List (Nat × Ob) -> Prop
 | [] => True
 | (o, ob) :: l => (match H o with
  | some ob0 => ob0.box = ob.box /\ ob0.sz = ob.sz /\ le.les l' ob0.es ob.es
  | none => ob.box = false /\ ob.es = [] /\ cx.pin o = none) /\ heapW cx H l' l
theorem heapW_mem {cx : Cx} {H : Hp} {l' : List (Nat × Ob)} : ∀ {l : List (Nat × Ob)}, heapW cx H l' l -> ∀ p ∈ l, (match H p.1 with
  | some ob0 => ob0.box = p.2.box /\ ob0.sz = p.2.sz /\ le.les l' ob0.es p.2.es
  | none => p.2.box = false /\ p.2.es = [] /\ cx.pin p.1 = none)
 | [], _, p, hp => by cases hp
 | (o, ob) :: l, h, p, hp => by
  rcases List.mem_cons.1 hp with rfl | hp
  ·exact h.1
  ·exact heapW_mem h.2 p hp
theorem Weak.le {cx : Cx} {s : St} (hG : ∀ g, (cx.G g).pure = true \/ cx.G g = .junk) (e : List (Tmp × AV)) (l : List (Nat × Ob)) (h : envC l s.ρ e /\ heapW cx s.H l l /\ e.all (fun p => p.2.refs (dom l).contains) = true /\ closedL l = true) :
  Weak cx s (St.mk' e l) := fun a w ⟨κ, R⟩ => by
 obtain ⟨he, hH0, hre, hcll⟩ := h
 have hH := fun p hp => heapW_mem hH0 p hp
 let κ2 : Kz := ⟨fun o => (s.H o).bind fun _ => κ.μ o, κ.im⟩
 have hμ1 : ∀ o ob, s.H o = some ob -> κ2.μ o = κ.μ o := fun o ob h => by show (s.H o).bind _ = _; rw [h]; rfl
 have hμ0 : ∀ o, s.H o = none -> κ2.μ o = none := fun o h => by show (s.H o).bind _ = _; rw [h]; rfl
 have hS : ∀ o ob, (dom l).contains o = true -> s.H o = some ob -> ∃ ob', hp l ((fun o => o) o) = some ob' /\ Like ob ob' /\ ∀ x, κ.μ o = some x -> κ2.μ ((fun o => o) o) = some x := fun o ob hd h => by
  obtain ⟨ob', h'⟩ := hp_dom.1 hd
  have := hH _ (hp_mem h')
  simp only [h] at this
  exact ⟨ob', h', ⟨this.1.symm, this.2.1.symm, Nat.le_of_eq (les_iff this.2.2).1⟩, fun x hx => (hμ1 o ob h).trans hx⟩
 have hm : ∀ {x y : AV} {v : Value}, Aw.le l x y -> RV κ s.H w x v -> y.refs (dom l).contains = true -> RV κ2 (hp l) w y v := fun h1 h2 h3 => RV.le (κ := κ) (κ' := κ2) hS (fun _ h => h) h1 h2 h3
 have hsome : ∀ o ob x, hp l o = some ob -> κ2.μ o = some x -> ∃ ob0, s.H o = some ob0 /\ κ.μ o = some x := fun o ob x _ hx => by
  cases h : s.H o with
  | none => rw [hμ0 o h] at hx; cases hx
  | some ob0 => rw [hμ1 o ob0 h] at hx; exact ⟨ob0, rfl, hx⟩
 refine ⟨κ2, fun o ob h => ?_, fun o o' ob ob' x x' h h' hx hx' he => ?_, fun t => ?_, R.size, R.defers, R.os, R.tape, R.output, R.le, R.block, fun o ob x h hx => ?_, R.im0, R.imlt, R.imnew, fun o ob x hpp h => ?_, R.pinlo, fun g => ?_⟩
 ·have h1 := hH _ (hp_mem h)
  have hcl2 := List.all_eq_true.1 (List.all_eq_true.1 hcll (o, ob) (hp_mem h))
  cases hs : s.H o with
  | none =>
   simp only [hs] at h1
   refine ⟨fun i e hi => ?_, .inl ⟨hμ0 o hs, h1.1, h1.2.1⟩⟩
   have hi' : ob.es[i]? = some e := hi
   rw [h1.2.1] at hi'
   simp at hi'
  | some ob0 =>
   simp only [hs] at h1
   obtain ⟨b1, b2, b3⟩ := h1
   obtain ⟨l1, l2⟩ := les_iff b3
   obtain ⟨k0, k⟩ := R.rep o ob0 hs
   refine ⟨fun i e hi => ?_, ?_⟩
   ·obtain ⟨e0, he0, hle⟩ := l2 i e hi
    rw [<- (le_cells hle).1, k0 i e0 he0, b2]
   ·rcases k with ⟨q1, q2, q3⟩ | ⟨b, base, cs, el, e1, e2, e3, e4, e5⟩ | ⟨z0, b, c, mes, clock, m1, m2, m3, m4, m5⟩
    case inr.inr =>
     refine .inr (.inr ⟨b2.symm.trans z0, b, c, mes, clock, (hμ1 o ob0 hs).trans m1, m2, m3, by rw [<- l1]; exact m4, fun i e hi => ?_⟩)
     obtain ⟨e0, he0, hle⟩ := l2 i e hi
     obtain ⟨k, v, m, rfl, n1, n2, n3⟩ := m5 i e0 he0
     obtain ⟨v', rfl, hle'⟩ := le_pair n2 hle
     have hr := hcl2 _ (List.mem_of_getElem? hi)
     simp only [AV.refs, AV.refs.refsl, Bool.and_eq_true] at hr
     exact ⟨k, v', m, rfl, n1, n2, hm hle' n3 hr.2.1⟩
    ·refine .inl ⟨(hμ1 o ob0 hs).trans q1, b1.symm.trans q2, ?_⟩
     rw [q3] at l1
     exact List.eq_nil_of_length_eq_zero l1.symm
    ·refine .inr (.inl ⟨b, base, cs, el, (hμ1 o ob0 hs).trans e1, e2, e3, by rw [<- l1, <- b2]; exact e4, fun i e j x hi hj => ?_⟩)
     obtain ⟨e0, he0, hle⟩ := l2 i e hi
     obtain ⟨z', hz', hle'⟩ := (le_cells hle).2 j x hj
     obtain ⟨v, j1, j2, j3⟩ := e5 i e0 j z' he0 hz'
     exact ⟨v, by rw [<- b2]; exact j1, hm hle' j2 (refs_cell (hcl2 e (List.mem_of_getElem? hi)) hj), j3⟩
 ·obtain ⟨oa, ha, hxa⟩ := hsome o ob x h hx
  obtain ⟨oa', ha', hxa'⟩ := hsome o' ob' x' h' hx'
  exact R.inj o o' oa oa' x x' ha ha' hxa hxa' he
 ·show RV _ _ w (env e t) _
  rcases env_mem (l := e) (t := t) with h | ⟨x, h1, h2⟩
  ·rw [h]; exact .junk _
  ·rw [h2]
   exact hm (envC_mem he _ h1) (R.env t) (List.all_eq_true.1 hre _ h1)
 ·obtain ⟨oa, ha, hxa⟩ := hsome o ob x h hx
  exact R.own o oa x ha hxa
 ·cases hs : s.H o with
  | some ob0 => rw [hμ1 o ob0 hs]; exact R.pin o ob0 x hpp hs
  | none =>
   have h1 := hH _ (hp_mem h)
   simp only [hs] at h1
   rw [h1.2.2] at hpp
   cases hpp
 ·rcases hG g with h | h
  ·have := (R.glob g).pure_of h
   exact RV.mono (κ := ⟨noμ, κ.im⟩) (κ' := κ2) (H := noH) (fun _ h => h) (fun _ _ => rfl) (fun o ob h => by cases h) this
  ·show RV _ _ w (cx.G g) _
   rw [h]; exact .junk _
def obW (cx : Cx) (l' : List (Nat × Ob)) (o : Nat) (x : Option Ob) (ob : Ob) : Prop := match x with
 | some ob0 => ob0.box = ob.box /\ ob0.sz = ob.sz /\ le.les l' ob0.es ob.es
 | none => ob.box = false /\ ob.es = [] /\ cx.pin o = none
theorem obW_some {cx : Cx} {l' : List (Nat × Ob)} {o : Nat} {b b' : Bool} {z z' : Nat} {e e' : List AV} : obW cx l' o (some ⟨b, z, e⟩) ⟨b', z', e'⟩ = (b = b' /\ z = z' /\ le.les l' e e') := rfl
theorem obW_none {cx : Cx} {l' : List (Nat × Ob)} {o : Nat} {b' : Bool} {z' : Nat} {e' : List AV} : obW cx l' o none ⟨b', z', e'⟩ = (b' = false /\ e' = [] /\ cx.pin o = none) := rfl
theorem heapW_nil {cx : Cx} {H : Hp} {l' : List (Nat × Ob)} : heapW cx H l' [] = True := rfl
theorem heapW_cons {cx : Cx} {H : Hp} {l' l : List (Nat × Ob)} {o : Nat} {ob : Ob} : heapW cx H l' ((o, ob) :: l) = (obW cx l' o (H o) ob /\ heapW cx H l' l) := rfl
theorem envC_nil {l : List (Nat × Ob)} {ρ : Nat -> AV} : envC l ρ [] = True := rfl
theorem envC_cons {l : List (Nat × Ob)} {ρ : Nat -> AV} {t : Tmp} {x : AV} {e : List (Tmp × AV)} : envC l ρ ((t, x) :: e) = (le l (ρ t) x /\ envC l ρ e) := rfl
theorem mk_ρ {e : List (Tmp × AV)} {l : List (Nat × Ob)} {t : Tmp} : (St.mk' e l).ρ t = env e t := rfl
theorem mk_H {e : List (Tmp × AV)} {l : List (Nat × Ob)} : (St.mk' e l).H = hp l := rfl
theorem env_cons {t u : Tmp} {x : AV} {e : List (Tmp × AV)} : env ((t, x) :: e) u = if u = t then x else env e u := rfl
theorem env_nil {u : Tmp} : env [] u = .junk := rfl
theorem aws : type_of% @obW_some /\ type_of% @obW_none /\ type_of% @heapW_nil /\ type_of% @heapW_cons /\ type_of% @envC_nil /\ type_of% @envC_cons /\ type_of% @mk_ρ /\ type_of% @mk_H /\ type_of% @env_cons /\ type_of% @env_nil /\ type_of% @thenQ_normal /\ type_of% @thenQ_exit /\ type_of% @thenQ_ret /\ type_of% @kQ_ret /\ type_of% @kQ_normal /\ type_of% @kQ_exit :=
 ⟨@obW_some, @obW_none, @heapW_nil, @heapW_cons, @envC_nil, @envC_cons, @mk_ρ, @mk_H, @env_cons, @env_nil, @thenQ_normal, @thenQ_exit, @thenQ_ret, @kQ_ret, @kQ_normal, @kQ_exit⟩
end Go.Aw

/- A loop's rounds, one by one. Own work. -/
namespace Go.Aw
open Go
def AWl (cx : Cx) (c : Code) (Q : Exit -> St -> Prop) (s : St) : Prop :=
 ∀ a w, Rel cx s a w -> ∀ (b : Frame) (k : List Item) (cs : List Frame), b.roundOf = (FR cx.rd).round -> (FR cx.rd).fn b.fn -> (FR cx.rd).room (cs.length + 1 + 0) -> ∃ e a' w', (∃ s', Q e s' /\ Rel cx s' a' w') /\ ArrivesIn (Machine.fenced cx.P (FR cx.rd)) cx.P (lone (b.atR a (.code c :: .inLoop c :: k)) cs w) b k cs e a' w'
theorem AWl.loop {cx : Cx} {c : Code} {Q : Exit -> St -> Prop} {s : St} (h : AWl cx c Q s) : AW cx (.loop c) Q s := fun a w R b k cs hro hb hr => by
 obtain ⟨e, a', w', hq, harr⟩ := h a w R b k cs hro hb hr
 exact ⟨e, a', w', hq, .of_steps (.one (fenced_calm hb hr rfl) stepR_loop) harr⟩
theorem AWl.weak {cx : Cx} {c : Code} {Q : Exit -> St -> Prop} {s s' : St} (hw : Weak cx s s') (h : AWl cx c Q s') : AWl cx c Q s := fun a w R => h a w (hw a w R)
theorem AWl.round {cx : Cx} {c : Code} {Q : Exit -> St -> Prop} {s : St} (h : AW cx c (thenQ (fun s' => AWl cx c Q s') Q) s) : AWl cx c Q s := fun a w R b k cs hro hb hr => by
 obtain ⟨e, a₁, w₁, ⟨s₁, hq, R₁⟩, harr⟩ := h a w R b (.inLoop c :: k) cs hro hb hr
 cases e with
 | normal =>
  obtain ⟨e₂, a₂, w₂, hq₂, harr₂⟩ := hq a₁ w₁ R₁ b k cs hro hb hr
  exact ⟨e₂, a₂, w₂, hq₂, .of_steps (StepsIn.trans harr (.one (fenced_calm hb hr rfl) stepR_inLoop)) harr₂⟩
 | exit id => exact ⟨_, a₁, w₁, ⟨s₁, hq, R₁⟩, .pass (x := .inLoop c) rfl (fun _ _ => .inl (by simp)) harr⟩
 | goto l => exact ⟨_, a₁, w₁, ⟨s₁, hq, R₁⟩, .pass (x := .inLoop c) rfl (fun _ _ => .inl (by simp)) harr⟩
 | ret => exact ⟨_, a₁, w₁, ⟨s₁, hq, R₁⟩, .pass (x := .inLoop c) rfl (fun _ _ => .inl (by simp)) harr⟩
 | panic ch => exact ⟨_, a₁, w₁, ⟨s₁, hq, R₁⟩, .pass (x := .inLoop c) rfl (fun _ _ => .inl (by simp)) harr⟩
 | outgrown => exact ⟨_, a₁, w₁, ⟨s₁, hq, R₁⟩, .pass (x := .inLoop c) rfl (fun _ _ => .inl (by simp)) harr⟩
end Go.Aw

/- An interpreter over abstract states: names of what a call gets, calls. Own work. -/
namespace Go.Aw
open Go
abbrev HL := List (Nat × Ob)
def AV.rl : AV -> List Nat
 | .ptr o _ _ | .sl o _ _ | .asl o _ _ _ _ | .mp o _ => [o]
 | .agg cs | .tup cs => rls cs
 | .fn _ a b => rls a ++ rls b
 | .gd _ v => v.rl
 | .ifc _ v => v.rl
 | _ => []
where
 rls : List AV -> List Nat
  | [] => []
  | x :: r => x.rl ++ rls r
theorem rls_mem {l : List AV} {o : Nat} : o ∈ AV.rl.rls l ↔ ∃ x ∈ l, o ∈ x.rl := by
 induction l with
 | nil => simp [AV.rl.rls]
 | cons x r ih => simp [AV.rl.rls, ih]
theorem refs_rl {D : Nat -> Bool} (x : AV) : x.refs D = true ↔ ∀ o ∈ x.rl, D o = true := by
 have hl : ∀ l : List AV, (∀ x ∈ l, x.refs D = true ↔ ∀ o ∈ x.rl, D o = true) -> (AV.refs.refsl D l = true ↔ ∀ o ∈ AV.rl.rls l, D o = true) := fun l ih => by
  rw [refsl_iff]
  constructor
  ·intro h o ho
   obtain ⟨x, hx, ho⟩ := rls_mem.1 ho
   exact (ih x hx).1 (h x hx) o ho
  ·exact fun h x hx => (ih x hx).2 fun o ho => h o (rls_mem.2 ⟨x, hx, ho⟩)
 induction x using AV.ind with
 | agg cs ih => exact hl cs ih
 | tup cs ih => exact hl cs ih
 | fn f a b iha ihb =>
  simp only [AV.refs, AV.rl, Bool.and_eq_true, List.mem_append, hl a iha, hl b ihb]
  exact ⟨fun ⟨h1, h2⟩ o ho => ho.elim (h1 o) (h2 o), fun h => ⟨fun o ho => h o (.inl ho), fun o ho => h o (.inr ho)⟩⟩
 | gd b v ih => exact ih
 | ifc t v ih => exact ih
 | leaf x hx => cases x <;> first | (simp [AV.refs, AV.rl]; done) | cases hx
def Ob.rl (ob : Ob) : List Nat := AV.rl.rls ob.es
theorem Ob.refs_rl {D : Nat -> Bool} (ob : Ob) : ob.refs D = true ↔ ∀ o ∈ ob.rl, D o = true := by
 simp only [Ob.refs, Ob.rl, List.all_eq_true]
 constructor
 ·intro h o ho
  obtain ⟨x, hx, ho⟩ := rls_mem.1 ho
  exact (Aw.refs_rl x).1 (h x hx) o ho
 ·exact fun h x hx => (Aw.refs_rl x).2 fun o ho => h o (rls_mem.2 ⟨x, hx, ho⟩)
def reach : Nat -> Hp -> List Nat -> List Nat -> Option (List Nat)
 | 0, _, _, _ => none
 | _ + 1, _, [], seen => some seen
 | n + 1, H, o :: t, seen => if seen.contains o then reach n H t seen else match H o with
  | some ob => reach n H (t ++ ob.rl) (seen ++ [o])
  | none => none
theorem reach_spec {H : Hp} : ∀ {n : Nat} {t seen l : List Nat}, reach n H t seen = some l -> seen.Nodup -> (∀ o ∈ seen, ∃ ob, H o = some ob /\ ∀ p ∈ ob.rl, p ∈ seen \/ p ∈ t) ->
  l.Nodup /\ (∀ o ∈ t, o ∈ l) /\ (∀ o ∈ seen, o ∈ l) /\ ∀ o ∈ l, ∃ ob, H o = some ob /\ ∀ p ∈ ob.rl, p ∈ l
 | 0, _, _, _, h, _, _ => by cases h
 | _ + 1, [], seen, l, h, hn, hs => by
  cases h
  exact ⟨hn, by simp, fun _ h => h, fun o ho => by obtain ⟨ob, h1, h2⟩ := hs o ho; exact ⟨ob, h1, fun p hp => (h2 p hp).elim id (by simp)⟩⟩
 | n + 1, o :: t, seen, l, h, hn, hs => by
  simp only [reach] at h
  split at h
  ·rename_i hc
   have hc : o ∈ seen := by simpa using hc
   obtain ⟨h1, h2, h3, h4⟩ := reach_spec h hn fun q hq => by
    obtain ⟨ob, k1, k2⟩ := hs q hq
    refine ⟨ob, k1, fun p hp => ?_⟩
    rcases k2 p hp with h | h
    ·exact .inl h
    ·rcases List.mem_cons.1 h with rfl | h
     ·exact .inl hc
     ·exact .inr h
   exact ⟨h1, fun p hp => (List.mem_cons.1 hp).elim (fun e => e ▸ h3 _ hc) (h2 p), h3, h4⟩
  ·rename_i hc
   have hc : o ∉ seen := by simpa using hc
   split at h
   ·rename_i ob hob
    obtain ⟨h1, h2, h3, h4⟩ := reach_spec h (by rw [List.nodup_append]; exact ⟨hn, by simp, fun a ha b hb => by simp at hb; rintro rfl; exact hc (hb ▸ ha)⟩) fun q hq => by
     rcases List.mem_append.1 hq with hq | hq
     ·obtain ⟨ob', k1, k2⟩ := hs q hq
      refine ⟨ob', k1, fun p hp => ?_⟩
      rcases k2 p hp with h | h
      ·exact .inl (by simp [h])
      ·rcases List.mem_cons.1 h with rfl | h
       ·exact .inl (by simp)
       ·exact .inr (by simp [h])
     ·simp only [List.mem_singleton] at hq
      subst hq
      exact ⟨ob, hob, fun p hp => .inr (by simp [hp])⟩
    exact ⟨h1, fun p hp => (List.mem_cons.1 hp).elim (fun e => e ▸ h3 _ (by simp)) (fun h => h2 p (by simp [h])), fun p hp => h3 p (by simp [hp]), h4⟩
   ·cases h
def nums : Nat -> List Nat -> List (Nat × Nat)
 | _, [] => []
 | b, o :: l => (o, b) :: nums (b + 1) l
def swp : List (Nat × Nat) -> List (Nat × Nat)
 | [] => []
 | (a, b) :: l => (b, a) :: swp l
theorem tau_nums {l : List Nat} : ∀ {b o : Nat}, o ∈ l -> b ≤ tau (nums b l) o /\ tau (nums b l) o < b + l.length /\ tau (swp (nums b l)) (tau (nums b l) o) = o := by
 induction l with
 | nil => intro b o h; cases h
 | cons x l ih =>
  intro b o h
  simp only [nums, swp, tau]
  by_cases e : o = x
  ·subst e; simp
  ·rcases List.mem_cons.1 h with rfl | h
   ·exact absurd rfl e
   obtain ⟨h1, h2, h3⟩ := ih (b := b + 1) h
   simp only [e, if_false, List.length_cons]
   rw [if_neg (by omega)]
   exact ⟨by omega, by omega, h3⟩
theorem swp_keys {l : List Nat} : ∀ {b : Nat}, ∀ p ∈ swp (nums b l), b ≤ p.1 /\ p.1 < b + l.length /\ p.2 ∈ l := by
 induction l with
 | nil => intro b p hp; cases hp
 | cons x l ih =>
  intro b p hp
  simp only [nums, swp, List.mem_cons] at hp
  rcases hp with rfl | hp
  ·simp
  ·obtain ⟨h1, h2, h3⟩ := ih p hp
   simp only [List.length_cons]
   exact ⟨by omega, by omega, by simp [h3]⟩
def obsOf (H : Hp) (τ : List (Nat × Nat)) : List Nat -> HL
 | [] => []
 | o :: l => match H o with
  | some ob => (tau τ o, renOb (tau τ) ob) :: obsOf H τ l
  | none => obsOf H τ l
theorem obsOf_mem {H : Hp} {τ : List (Nat × Nat)} {l : List Nat} {p : Nat × Ob} : p ∈ obsOf H τ l ↔ ∃ o ∈ l, ∃ ob, H o = some ob /\ p = (tau τ o, renOb (tau τ) ob) := by
 induction l with
 | nil => simp [obsOf]
 | cons o l ih =>
  simp only [obsOf]
  split
  ·rename_i ob hob
   simp only [List.mem_cons, ih]
   constructor
   ·rintro (rfl | ⟨q, h1, h2⟩)
    ·exact ⟨o, .inl rfl, ob, hob, rfl⟩
    ·exact ⟨q, .inr h1, h2⟩
   ·rintro ⟨q, rfl | h1, ob', h2, h3⟩
    ·rw [hob] at h2; cases h2; exact .inl h3
    ·exact .inr ⟨q, h1, ob', h2, h3⟩
  ·rename_i hob
   rw [ih]
   constructor
   ·rintro ⟨q, h1, h2⟩; exact ⟨q, by simp [h1], h2⟩
   ·rintro ⟨q, h1, ob', h2, h3⟩
    rcases List.mem_cons.1 h1 with rfl | h1
    ·rw [hob] at h2; cases h2
    ·exact ⟨q, h1, ob', h2, h3⟩
theorem dom_obsOf {H : Hp} {τ : List (Nat × Nat)} {l : List Nat} (h : ∀ o ∈ l, ∃ ob, H o = some ob) : dom (obsOf H τ l) = l.map (tau τ) := by
 induction l with
 | nil => rfl
 | cons o l ih =>
  obtain ⟨ob, hob⟩ := h o (by simp)
  simp only [obsOf, hob, dom, List.map_cons]
  have := ih fun p hp => h p (by simp [hp])
  simp only [dom] at this
  rw [this]
theorem ren_ren {σ τ : Nat -> Nat} (x : AV) (h : ∀ o ∈ x.rl, σ (τ o) = o) : ren σ (ren τ x) = x := by
 have hl : ∀ l : List AV, (∀ x ∈ l, (∀ o ∈ x.rl, σ (τ o) = o) -> ren σ (ren τ x) = x) -> (∀ o ∈ AV.rl.rls l, σ (τ o) = o) -> ren.rens σ (ren.rens τ l) = l := fun l => by
  induction l with
  | nil => intros; rfl
  | cons y l ihl =>
   intro ih h
   simp only [ren.rens]
   rw [ih y (by simp) fun o ho => h o (by simp [AV.rl.rls, ho]), ihl (fun x hx => ih x (by simp [hx])) fun o ho => h o (by simp [AV.rl.rls, ho])]
 induction x using AV.ind with
 | agg cs ih => simp only [ren]; rw [hl cs ih h]
 | tup cs ih => simp only [ren]; rw [hl cs ih h]
 | fn f a b iha ihb => simp only [ren]; rw [hl a iha fun o ho => h o (by simp [AV.rl, ho]), hl b ihb fun o ho => h o (by simp [AV.rl, ho])]
 | gd b v ih => simp only [ren]; rw [ih h]
 | ifc t v ih => simp only [ren]; rw [ih h]
 | leaf x hx => cases x <;> first | rfl | (simp [ren, AV.rl] at h ⊢; exact h) | cases hx
theorem renOb_ren {σ τ : Nat -> Nat} (ob : Ob) (h : ∀ o ∈ ob.rl, σ (τ o) = o) : renOb σ (renOb τ ob) = ob := by
 obtain ⟨b, z, es⟩ := ob
 simp only [renOb, List.map_map]
 congr 1
 conv => rhs; rw [<- List.map_id es]
 exact List.map_congr_left fun x hx => ren_ren x fun o ho => h o (rls_mem.2 ⟨x, hx, ho⟩)
theorem rl_ren {τ : Nat -> Nat} (x : AV) : (ren τ x).rl = x.rl.map τ := by
 have hl : ∀ l : List AV, (∀ x ∈ l, (ren τ x).rl = x.rl.map τ) -> AV.rl.rls (ren.rens τ l) = (AV.rl.rls l).map τ := fun l => by
  induction l with
  | nil => intro; rfl
  | cons y l ihl =>
   intro ih
   simp only [ren.rens, AV.rl.rls, List.map_append]
   rw [ih y (by simp), ihl fun x hx => ih x (by simp [hx])]
 induction x using AV.ind with
 | agg cs ih => exact hl cs ih
 | tup cs ih => exact hl cs ih
 | fn f a b iha ihb => simp only [ren, AV.rl, List.map_append, hl a iha, hl b ihb]
 | gd b v ih => exact ih
 | ifc t v ih => exact ih
 | leaf x hx => cases x <;> first | rfl | cases hx
theorem rl_renOb {τ : Nat -> Nat} (ob : Ob) : (renOb τ ob).rl = ob.rl.map τ := by
 obtain ⟨b, z, es⟩ := ob
 simp only [Ob.rl, renOb]
 induction es with
 | nil => rfl
 | cons y l ih => simp only [List.map_cons, AV.rl.rls, List.map_append, ih, rl_ren]
end Go.Aw

/- A call's parts, made by a program. Own work. -/
namespace Go.Aw
open Go
theorem nodup_map_of {f : Nat -> Nat} : ∀ {l : List Nat}, l.Nodup -> (∀ a ∈ l, ∀ b ∈ l, f a = f b -> a = b) -> (l.map f).Nodup
 | [], _, _ => by simp
 | x :: l, hn, hi => by
  simp only [List.map_cons, List.nodup_cons] at hn ⊢
  refine ⟨fun h => ?_, nodup_map_of hn.2 fun a ha b hb => hi a (by simp [ha]) b (by simp [hb])⟩
  obtain ⟨y, hy, e⟩ := List.mem_map.1 h
  have := hi y (by simp [hy]) x (by simp) e
  subst this
  exact hn.1 hy
def surv (d : List Nat) (l' : HL) : List Nat := (dom l').filter d.contains
def frN (d : List Nat) : Nat -> HL -> List (Nat × Nat)
 | _, [] => []
 | b, (o, _) :: l => if d.contains o then frN d b l else (o, b) :: frN d (b + 1) l
theorem frN_spec {d : List Nat} : ∀ {l : HL} {b o : Nat}, o ∈ dom l -> d.contains o = false -> ∃ q, (o, q) ∈ frN d b l /\ tau (frN d b l) o = q /\ b ≤ q
 | [], b, o, h, _ => by simp [dom] at h
 | (p, ob) :: l, b, o, h, hd => by
  simp only [dom, List.map_cons, List.mem_cons] at h
  simp only [frN]
  by_cases hp : d.contains p = true
  ·rw [if_pos hp]
   rcases h with rfl | h
   ·rw [hd] at hp; cases hp
   ·exact frN_spec h hd
  ·rw [if_neg hp]
   by_cases e : o = p
   ·subst e; exact ⟨b, by simp, by simp [tau], Nat.le_refl _⟩
   ·rcases h with rfl | h
    ·exact absurd rfl e
    ·obtain ⟨q, h1, h2, h3⟩ := frN_spec (l := l) (b := b + 1) h hd
     exact ⟨q, by simp [h1], by simp only [tau, e, if_false]; exact h2, by omega⟩
theorem frN_inj {d : List Nat} : ∀ {l : HL} {b o o' : Nat}, o ∈ dom l -> o' ∈ dom l -> d.contains o = false -> d.contains o' = false -> tau (frN d b l) o = tau (frN d b l) o' -> o = o'
 | [], b, o, _, h, _, _, _, _ => by simp [dom] at h
 | (p, ob) :: l, b, o, o', h, h', hd, hd', he => by
  simp only [dom, List.map_cons, List.mem_cons] at h h'
  simp only [frN] at he
  by_cases hp : d.contains p = true
  ·rw [if_pos hp] at he
   rcases h with rfl | h
   ·rw [hd] at hp; cases hp
   rcases h' with rfl | h'
   ·rw [hd'] at hp; cases hp
   exact frN_inj h h' hd hd' he
  ·rw [if_neg hp] at he
   simp only [tau] at he
   by_cases e : o = p <;> by_cases e' : o' = p
   ·rw [e, e']
   ·rcases h' with h' | h'
    ·exact absurd h' e'
    obtain ⟨q, _, h2, h3⟩ := frN_spec (b := b + 1) (l := l) h' hd'
    rw [if_pos e, if_neg e', h2] at he
    omega
   ·rcases h with h | h
    ·exact absurd h e
    obtain ⟨q, _, h2, h3⟩ := frN_spec (b := b + 1) (l := l) h hd
    rw [if_neg e, if_pos e', h2] at he
    omega
   ·rcases h with h | h
    ·exact absurd h e
    rcases h' with h' | h'
    ·exact absurd h' e'
    rw [if_neg e, if_neg e'] at he
    exact frN_inj h h' hd hd' he
def freE (H : Hp) : List (Nat × Nat) -> Prop
 | [] => True
 | (_, q) :: r => H q = none /\ q < 100000 /\ freE H r
theorem freE_mem {H : Hp} : ∀ {l : List (Nat × Nat)}, freE H l -> ∀ p ∈ l, H p.2 = none /\ p.2 < 100000
 | [], _, p, h => by cases h
 | (_, q) :: r, hf, p, h => by
  rcases List.mem_cons.1 h with rfl | h
  ·exact ⟨hf.1, hf.2.1⟩
  ·exact freE_mem hf.2.2 p h
structure OutOk (P : Program) (G : Nat -> AV) (k : FuncId) (args : List AV) (l : HL) (r : AV) (l' : HL) : Prop where
 hc : HC P G k args l r l' (surv (dom l) l')
 nd : (dom l').Nodup
 cr : r.refs (dom l').contains = true
 cl : closedL l' = true
 shape : ∀ o ∈ surv (dom l) l', shapeC (hp l o) (hp l' o)
 names : ∀ o ∈ dom l', o ∈ dom l \/ 200000 ≤ o
def mkHO (av : List AV) (seen : List Nat) (H : Hp) (d : Nat) (r : AV) (l' : HL) : HO :=
 {args := av.map (ren (tau (nums 100000 seen))), l := obsOf H (nums 100000 seen) seen, r, l', pins := surv ((nums 100000 seen).map (·.2)) l',
  τ := swp (nums 100000 seen) ++ frN ((nums 100000 seen).map (·.2)) (50000 + 50 * d) l' }
theorem tau_app_in {a b : List (Nat × Nat)} {o : Nat} (h : ∃ p ∈ a, p.1 = o) : tau (a ++ b) o = tau a o := by
 induction a with
 | nil => obtain ⟨p, hp, _⟩ := h; cases hp
 | cons x a ih =>
  obtain ⟨y, z⟩ := x
  simp only [List.cons_append, tau]
  by_cases e : o = y
  ·simp [e]
  ·simp only [e, if_false]
   obtain ⟨p, hp, he⟩ := h
   rcases List.mem_cons.1 hp with rfl | hp
   ·exact absurd he.symm e
   ·exact ih ⟨p, hp, he⟩
theorem tau_app_out {a b : List (Nat × Nat)} {o : Nat} (h : ∀ p ∈ a, p.1 ≠ o) : tau (a ++ b) o = tau b o := by
 induction a with
 | nil => rfl
 | cons x a ih =>
  obtain ⟨y, z⟩ := x
  simp only [List.cons_append, tau]
  rw [if_neg (fun e => h (y, z) (by simp) e.symm)]
  exact ih fun p hp => h p (by simp [hp])
theorem nums_snd {l : List Nat} {b : Nat} (hn : l.Nodup) : (nums b l).map (·.2) = l.map (tau (nums b l)) := by
 induction l generalizing b with
 | nil => rfl
 | cons x l ih =>
  simp only [List.nodup_cons] at hn
  simp only [nums, List.map_cons, tau, if_true]
  rw [ih hn.2]
  congr 1
  refine List.map_congr_left fun y hy => ?_
  rw [if_neg]
  rintro rfl
  exact hn.1 hy
theorem swp_key {l : List Nat} {b o : Nat} (h : o ∈ l) : ∃ p ∈ swp (nums b l), p.1 = tau (nums b l) o := by
 induction l generalizing b with
 | nil => cases h
 | cons x l ih =>
  simp only [nums, swp, tau]
  by_cases e : o = x
  ·exact ⟨(b, x), by simp, by simp [e]⟩
  ·rcases List.mem_cons.1 h with rfl | h
   ·exact absurd rfl e
   ·obtain ⟨p, h1, h2⟩ := ih (b := b + 1) h
    exact ⟨p, by simp [h1], by simp [e, h2]⟩
theorem ndN_of : ∀ {l : List Nat}, l.Nodup -> ndN l = true
 | [], _ => rfl
 | x :: l, h => by
  simp only [List.nodup_cons] at h
  simp only [ndN, Bool.and_eq_true, Bool.not_eq_true', ndN_of h.2, and_true]
  simpa using h.1
theorem oldC_of {H : Hp} {τ : List (Nat × Nat)} : ∀ {l : HL}, (∀ p ∈ l, H (tau τ p.1) = some (renOb (tau τ) p.2)) -> oldC H τ l
 | [], _ => trivial
 | (o, ob) :: l, h => ⟨h (o, ob) (by simp), oldC_of fun p hp => h p (by simp [hp])⟩
theorem freshC_of {H : Hp} {τ : List (Nat × Nat)} {d : List Nat} : ∀ {l : HL}, (∀ o ∈ dom l, d.contains o = false -> H (tau τ o) = none /\ tau τ o < 100000) -> freshC H τ d l
 | [], _ => trivial
 | (o, ob) :: l, h => by
  refine ⟨?_, freshC_of fun p hp => h p (by simp only [dom, List.map_cons, List.mem_cons]; exact .inr hp)⟩
  split
  ·trivial
  ·rename_i hc
   exact h o (by simp [dom]) (by simpa using hc)
theorem goneC_of {cx : Cx} {τ : List (Nat × Nat)} {pins d' : List Nat} : ∀ {l : HL}, (∀ o ∈ dom l, pins.contains o = false -> d'.contains o = true -> cx.pin (tau τ o) = none) -> goneC cx τ pins d' l
 | [], _ => trivial
 | (o, ob) :: l, h => by
  refine ⟨?_, goneC_of fun p hp => h p (by simp only [dom, List.map_cons, List.mem_cons]; exact .inr hp)⟩
  split
  ·trivial
  ·rename_i hc
   split
   ·rename_i hd; exact h o (by simp [dom]) (by simpa using hc) hd
   ·trivial
theorem pinsC_of {l l' : HL} : ∀ {ps : List Nat}, (∀ o ∈ ps, shapeC (hp l o) (hp l' o)) -> pinsC l l' ps
 | [], _ => trivial
 | o :: ps, h => ⟨h o (by simp), pinsC_of fun p hp => h p (by simp [hp])⟩
theorem mkHO_ok {cx : Cx} {k : FuncId} {av : List AV} {H : Hp} {n : Nat} {seen : List Nat} {d : Nat} {r : AV} {l' : HL} (hr : reach n H (AV.rl.rls av) [] = some seen) (hlen : seen.length < 1000)
  (hO : OutOk cx.P cx.G k (av.map (ren (tau (nums 100000 seen)))) (obsOf H (nums 100000 seen) seen) r l') (hf : freE H (frN ((nums 100000 seen).map (·.2)) (50000 + 50 * d) l')) :
  HOk cx (mkHO av seen H d r l') k av H := by
 obtain ⟨hn, hroot, _, hcl⟩ := reach_spec hr (by simp) (by simp)
 have hex : ∀ o ∈ seen, ∃ ob, H o = some ob := fun o ho => by obtain ⟨ob, h, _⟩ := hcl o ho; exact ⟨ob, h⟩
 have hd : dom (obsOf H (nums 100000 seen) seen) = seen.map (tau (nums 100000 seen)) := dom_obsOf hex
 have hd2 : (nums 100000 seen).map (·.2) = seen.map (tau (nums 100000 seen)) := nums_snd hn
 have hback : ∀ o ∈ seen, tau (mkHO av seen H d r l').τ (tau (nums 100000 seen) o) = o := fun o ho => by
  show tau (swp _ ++ _) _ = _
  rw [tau_app_in (swp_key ho)]
  exact (tau_nums ho).2.2
 have hlo : ∀ o ∈ seen.map (tau (nums 100000 seen)), o < 101000 := fun o ho => by
  obtain ⟨p, hp, rfl⟩ := List.mem_map.1 ho
  have := (tau_nums (b := 100000) hp).2.1
  omega
 have hfresh : ∀ o ∈ dom l', (seen.map (tau (nums 100000 seen))).contains o = false -> H (tau (mkHO av seen H d r l').τ o) = none /\ tau (mkHO av seen H d r l').τ o < 100000 /\ tau (mkHO av seen H d r l').τ o = tau (frN ((nums 100000 seen).map (·.2)) (50000 + 50 * d) l') o := fun o ho hc => by
  have h2 : 200000 ≤ o := by
   rcases hO.names o ho with h | h
   ·rw [hd] at h; rw [List.contains_iff_mem.2 h] at hc; cases hc
   ·exact h
  have e : tau (mkHO av seen H d r l').τ o = tau (frN ((nums 100000 seen).map (·.2)) (50000 + 50 * d) l') o := by
   show tau (swp _ ++ _) _ = _
   exact tau_app_out fun p hp => by have := (swp_keys p hp).2.1; omega
  obtain ⟨q, h1, h3, _⟩ := frN_spec (d := (nums 100000 seen).map (·.2)) (b := 50000 + 50 * d) ho (by rw [hd2]; exact hc)
  obtain ⟨h4, h5⟩ := freE_mem hf _ h1
  rw [e, h3]
  exact ⟨h4, h5, rfl⟩
 have hmem : ∀ o ∈ seen.map (tau (nums 100000 seen)), ∃ p ∈ seen, tau (mkHO av seen H d r l').τ o = p /\ tau (nums 100000 seen) p = o := fun o ho => by
  obtain ⟨p, hp, rfl⟩ := List.mem_map.1 ho
  exact ⟨p, hp, hback p hp, rfl⟩
 have hndm : (seen.map (tau (nums 100000 seen))).Nodup := nodup_map_of hn fun a ha b hb e => by
  rw [<- (tau_nums (b := 100000) ha).2.2, <- (tau_nums (b := 100000) hb).2.2, e]
 refine ⟨hO.hc |> fun h => ?_, ?_, oldC_of fun p hp => ?_, ndN_of ?_, ndN_of ?_, ndN_of ?_, freshC_of fun o ho hc => ?_, goneC_of fun o ho h1 h2 => ?_, pinsC_of fun o ho => ?_, ?_, ?_, hO.cr, hO.cl⟩
 ·have : surv (dom (obsOf H (nums 100000 seen) seen)) l' = (mkHO av seen H d r l').pins := by
   show surv _ _ = surv _ _
   rw [hd, hd2]
  rw [<- this]
  exact h
 ·show av = (av.map _).map _
  rw [List.map_map]
  conv => lhs; rw [<- List.map_id av]
  exact List.map_congr_left fun x hx => (ren_ren x fun o ho => hback o (hroot o (rls_mem.2 ⟨x, hx, ho⟩))).symm
 ·obtain ⟨o, ho, ob, h1, rfl⟩ := obsOf_mem.1 hp
  simp only
  rw [hback o ho, h1]
  congr 1
  obtain ⟨ob', h2, h3⟩ := hcl o ho
  rw [h1] at h2
  cases h2
  exact (renOb_ren ob fun p hp => hback p (h3 p hp)).symm
 ·show ((dom (obsOf H (nums 100000 seen) seen)).map _).Nodup
  rw [hd, List.map_map]
  have : seen.map (tau (mkHO av seen H d r l').τ ∘ tau (nums 100000 seen)) = seen := by
   conv => rhs; rw [<- List.map_id seen]
   exact List.map_congr_left fun o ho => hback o ho
  rw [this]
  exact hn
 ·show (dom (obsOf H (nums 100000 seen) seen)).Nodup
  rw [hd]; exact hndm
 ·show ((dom l').map _).Nodup
  refine nodup_map_of hO.nd fun a ha b hb e => ?_
  cases h1 : (seen.map (tau (nums 100000 seen))).contains a <;> cases h2 : (seen.map (tau (nums 100000 seen))).contains b
  ·obtain ⟨_, _, e1⟩ := hfresh a ha h1
   obtain ⟨_, _, e2⟩ := hfresh b hb h2
   rw [e1, e2] at e
   exact frN_inj ha hb (by rw [hd2]; exact h1) (by rw [hd2]; exact h2) e
  ·obtain ⟨k1, _⟩ := hfresh a ha h1
   obtain ⟨p, hp, e2, _⟩ := hmem b (List.contains_iff_mem.1 h2)
   obtain ⟨ob, hob⟩ := hex p hp
   rw [e, e2, hob] at k1
   cases k1
  ·obtain ⟨k1, _⟩ := hfresh b hb h2
   obtain ⟨p, hp, e2, _⟩ := hmem a (List.contains_iff_mem.1 h1)
   obtain ⟨ob, hob⟩ := hex p hp
   rw [<- e, e2, hob] at k1
   cases k1
  ·obtain ⟨p, hp, e1, e3⟩ := hmem a (List.contains_iff_mem.1 h1)
   obtain ⟨q, hq, e2, e4⟩ := hmem b (List.contains_iff_mem.1 h2)
   rw [e1, e2] at e
   rw [<- e3, <- e4, e]
 ·have hc' : (seen.map (tau (nums 100000 seen))).contains o = false := by
   have : (dom (obsOf H (nums 100000 seen) seen)).contains o = false := hc
   rwa [hd] at this
  obtain ⟨h1, h2, _⟩ := hfresh o ho hc'
  exact ⟨h1, h2⟩
 ·exfalso
  have h1 : (surv ((nums 100000 seen).map (·.2)) l').contains o = false := h1
  have h2 : (dom l').contains o = true := h2
  have ho : o ∈ dom (obsOf H (nums 100000 seen) seen) := ho
  rw [hd, <- hd2] at ho
  have : o ∈ surv ((nums 100000 seen).map (·.2)) l' := List.mem_filter.2 ⟨List.contains_iff_mem.1 h2, List.contains_iff_mem.2 ho⟩
  rw [List.contains_iff_mem.2 this] at h1
  cases h1
 ·refine hO.shape o ?_
  rw [hd, <- hd2]
  exact ho
 ·show (av.map _).all _ = true
  rw [List.all_eq_true]
  intro x hx
  obtain ⟨y, hy, rfl⟩ := List.mem_map.1 hx
  rw [refs_rl, rl_ren]
  intro o ho
  obtain ⟨p, hp, rfl⟩ := List.mem_map.1 ho
  show (dom (obsOf H (nums 100000 seen) seen)).contains _ = true
  rw [hd]
  exact List.contains_iff_mem.2 (List.mem_map.2 ⟨p, hroot p (rls_mem.2 ⟨y, hy, hp⟩), rfl⟩)
 ·show (obsOf H (nums 100000 seen) seen).all _ = true
  rw [List.all_eq_true]
  intro p hp
  obtain ⟨o, ho, ob, h1, rfl⟩ := obsOf_mem.1 hp
  rw [Ob.refs_rl, rl_renOb]
  intro q0 hq0
  obtain ⟨q, hq, rfl⟩ := List.mem_map.1 hq0
  obtain ⟨ob', h2, h3⟩ := hcl o ho
  rw [h1] at h2
  cases h2
  show (dom (obsOf H (nums 100000 seen) seen)).contains _ = true
  rw [hd]
  exact List.contains_iff_mem.2 (List.mem_map.2 ⟨q, h3 q hq, rfl⟩)
end Go.Aw

/- A region whose order is drawn: some orders that stand for all. Own work. -/
namespace Go.Aw
open Go
inductive OT
 | prog
 | leaf (l : List Nat)
 | node (i j : Nat) (a b : OT)
def pick (l : List Oper) (is : List Nat) : List Oper := is.filterMap (l[·]?)
def OT.Leaves (l : List Oper) (p : List Oper -> Prop) : OT -> Prop
 | .prog => p l
 | .leaf is => p (pick l is)
 | .node _ _ a b => a.Leaves l p /\ b.Leaves l p
def ndL : List Nat -> Bool
 | [] => true
 | x :: l => !l.contains x && ndL l
theorem ndL_spec : ∀ {l : List Nat}, ndL l = true -> l.Nodup
 | [], _ => List.nodup_nil
 | x :: l, h => by
  simp only [ndL, Bool.and_eq_true, Bool.not_eq_true'] at h
  exact List.nodup_cons.2 ⟨fun hx => (by rw [List.contains_iff_mem.2 hx] at h; exact absurd h.1 (by simp)), ndL_spec h.2⟩
def permOk (n : Nat) (l : List Nat) : Bool := l.all (fun i => decide (i < n)) && (List.range n).all l.contains && ndL l
def asmD (m : List Nat) (asm : List (Nat × Nat)) (i j : Nat) : Bool := asm.any fun p => (p.1 == i || (m.getD p.1 0).testBit i) && (p.2 == j || (m.getD j 0).testBit p.2)
def ordA (comm : Oper -> Oper -> Bool) (ops : List Oper) (asm : List (Nat × Nat)) : List Nat -> Bool
 | [] => true
 | i :: r => (match ops[i]? with
  | some x => r.all fun j => ((clo (ops.map depsOf) []).getD j 0).testBit i || asmD (clo (ops.map depsOf) []) asm i j || (match ops[j]? with | some y => comm x y | none => true)
  | none => true) && ordA comm ops asm r
def ordT (comm : Oper -> Oper -> Bool) (ops : List Oper) (asm : List (Nat × Nat)) : OT -> Bool
 | .prog => ordA comm ops asm (List.range' 0 ops.length)
 | .leaf l => ordA comm ops asm l && permOk ops.length l
 | .node i j a b => (i != j) && ordT comm ops ((i, j) :: asm) a && ordT comm ops ((j, i) :: asm) b
structure LO (m : List Nat) (rem : List Nat) (ω : Nat -> Nat -> Bool) : Prop where
 anti : ∀ i j, i ≠ j -> ω j i = !ω i j
 trans : ∀ i j k, ω i j = true -> ω j k = true -> ω i k = true
 dep : ∀ j ∈ rem, ∀ k ∈ rem, (m.getD k 0).testBit j = true -> ω j k = true
section
variable {cx : Cx} {ops : Array Oper} {step : Oper -> St -> Option (St × Prop)} {comm : Oper -> Oper -> Bool} {bl : Oper -> Bool}
def Fine (comm : Oper -> Oper -> Bool) (ops : Array Oper) (ω : Nat -> Nat -> Bool) (j i : Nat) : Prop :=
 ∀ x y, ops[j]? = some x -> ops[i]? = some y -> ((clo (ops.toList.map depsOf) []).getD i 0).testBit j = true \/ comm x y = true \/ ω j i = true
def Runs (step : Oper -> St -> Option (St × Prop)) (comm : Oper -> Oper -> Bool) (ops : Array Oper) (Qs : St -> Prop) (rem : List Nat) (s : St) : Prop :=
 ∀ ω, LO (clo (ops.toList.map depsOf) []) rem ω -> ∃ τ s' φ, τ.Nodup /\ (∀ i, i ∈ τ ↔ i ∈ rem) /\ τ.Pairwise (Fine comm ops ω) /\ runI step ops τ s = some (s', φ) /\ φ /\ Qs s'
def first (i : Nat) (ω : Nat -> Nat -> Bool) (j k : Nat) : Bool := if j = i then true else if k = i then false else ω j k
theorem first_lo {m rem : List Nat} {i : Nat} {ω : Nat -> Nat -> Bool} (hi : ∀ j ∈ rem, (m.getD i 0).testBit j = false) (h : LO m (rem.filter (· != i)) ω) : LO m rem (first i ω) where
 anti j k hjk := by
  unfold first
  by_cases h1 : j = i
  ·subst h1
   rw [if_neg (Ne.symm hjk), if_pos rfl, if_pos rfl]; rfl
  ·by_cases h2 : k = i
   ·subst h2
    rw [if_pos rfl, if_neg h1, if_pos rfl]; rfl
   ·rw [if_neg h2, if_neg h1, if_neg h1, if_neg h2]
    exact h.anti j k hjk
 trans a b c h1 h2 := by
  unfold first at *
  by_cases ha : a = i
  ·rw [if_pos ha]
  ·rw [if_neg ha] at h1 ⊢
   by_cases hb : b = i
   ·rw [if_pos hb] at h1; cases h1
   ·rw [if_neg hb] at h1 h2
    by_cases hc : c = i
    ·rw [if_pos hc] at h2; cases h2
    ·rw [if_neg hc] at h2 ⊢
     exact h.trans a b c h1 h2
 dep j hj k hk hb := by
  unfold first
  by_cases h1 : j = i
  ·rw [if_pos h1]
  ·rw [if_neg h1]
   by_cases h2 : k = i
   ·subst h2
    rw [hi j hj] at hb; cases hb
   ·rw [if_neg h2]
    exact h.dep j (List.mem_filter.2 ⟨hj, by simpa using h1⟩) k (List.mem_filter.2 ⟨hk, by simpa using h2⟩) hb
def ltO (i j : Nat) : Bool := decide (i < j)
theorem clo_lt {l : List Oper} (hsm : smaller l = true) : ∀ (k j : Nat), ((clo (l.map depsOf) []).getD k 0).testBit j = true -> j < k := by
 have hok := clo_ok (l.map depsOf) (l.map depsOf) [] (by simp) (fun i hi => by simp at hi)
 intro k
 induction k using Nat.strongRecOn with
 | _ k ih =>
  intro j hj
  have hlen : k < (clo (l.map depsOf) []).length := by
   rcases Nat.lt_or_ge k (clo (l.map depsOf) []).length with h | h
   ·exact h
   ·rw [List.getD_eq_getElem?_getD, List.getElem?_eq_none h] at hj; simp at hj
  obtain ⟨d, hd, hd'⟩ := hok k hlen j hj
  have hdk : d < k := by
   cases ho : l[k]? with
   | none => simp [List.getD_eq_getElem?_getD, ho] at hd
   | some o =>
    simp [List.getD_eq_getElem?_getD, ho] at hd
    simp only [smaller, List.all_eq_true] at hsm
    have h1 := hsm (o, k) (by rw [List.mk_mem_zipIdx_iff_getElem?]; exact ho)
    exact of_decide_eq_true (h1 d hd)
  rcases hd' with rfl | ⟨h1, h2⟩
  ·exact hdk
  ·exact Nat.lt_trans (ih d hdk j h2) hdk
theorem ltO_lo {l : List Oper} (hsm : smaller l = true) (rem : List Nat) : LO (clo (l.map depsOf) []) rem ltO where
 anti i j h := by
  unfold ltO
  by_cases h1 : i < j
  ·rw [decide_eq_true h1, decide_eq_false (by omega)]; rfl
  ·rw [decide_eq_false h1, decide_eq_true (by omega)]; rfl
 trans i j k h1 h2 := decide_eq_true (Nat.lt_trans (of_decide_eq_true h1) (of_decide_eq_true h2))
 dep j _ k _ h := decide_eq_true (clo_lt hsm k j h)
theorem any_soundT (hK : StepOk cx ops step comm bl) (hN : Ndst ops) (hsm : smaller ops.toList = true) {Q : Exit -> Act -> World -> Prop} {Qs : St -> Prop} (hQ : ∀ s' a w, Qs s' -> Rel cx s' a w -> Q .normal a w) :
  ∀ (n : Nat) (l : List Nat) (listed : Array Bool) (s : St) (a : Act) (w : World), l.length = n -> Blank bl ops l s -> l.Pairwise (· < ·) -> (∀ i, i ∈ l ↔ i < ops.size /\ listed.getD i true = false) -> listed.size = ops.size -> Closed ops listed ->
   Runs step comm ops Qs l s -> Rel cx s a w -> wpAnyIn (FR cx.rd) 0 cx.P .any ops Q n listed a w := by
 intro n
 induction n with
 | zero =>
  intro l listed s a w hl _ _ hmem _ _ hrun R
  obtain rfl := List.eq_nil_of_length_eq_zero hl
  obtain ⟨τ, s', φ, _, h2, _, h4, h5, h6⟩ := hrun ltO (ltO_lo hsm _)
  obtain rfl : τ = [] := List.eq_nil_iff_forall_not_mem.2 fun i hi => by have := (h2 i).1 hi; cases this
  simp only [runI] at h4
  cases h4
  refine ⟨?_, hQ s a w h6 R⟩
  cases hr : Region.ready .any ops listed with
  | nil => rfl
  | cons j r =>
   exfalso
   have hj : j ∈ Region.ready .any ops listed := by rw [hr]; simp
   obtain ⟨h1, o, ho, _⟩ := mem_ready.1 hj
   have := (hmem j).2 ⟨(Array.getElem?_eq_some_iff.1 ho).1, h1⟩
   simp at this
 | succ n ih =>
  intro l listed s a w hl hB hsorted hmem hls hcl hrun R
  refine ⟨fun hr => ?_, fun i hi => ?_⟩
  ·-- the first of what is left can always come
   exfalso
   cases l with
   | nil => simp at hl
   | cons i r =>
    obtain ⟨hi1, hi2⟩ := (hmem i).1 (by simp)
    have ho := Array.getElem?_eq_getElem hi1
    have : i ∈ Region.ready .any ops listed := mem_ready.2 ⟨hi2, _, ho, fun e he hb => by
     have hlt : e.on < i := by
      simp only [smaller, List.all_eq_true] at hsm
      have h1 := hsm (ops[i], i) (by
       rw [List.mk_mem_zipIdx_iff_getElem?]
       simp)
      exact of_decide_eq_true (h1 e.on (mem_depsOf.2 ⟨e, he, hb, rfl⟩))
     have hnl : e.on ∉ i :: r := fun h => by
      rcases List.mem_cons.1 h with h | h
      ·omega
      ·have := (List.pairwise_cons.1 hsorted).1 _ h; omega
     have hlt2 : e.on < listed.size := by omega
     have hget : listed.getD e.on true = true := by
      cases hg : listed.getD e.on true with
      | true => rfl
      | false => exact absurd ((hmem e.on).2 ⟨by omega, hg⟩) hnl
     simp [hlt2] at hget ⊢
     exact hget⟩
    rw [hr] at this
    cases this
  ·obtain ⟨hi1, oi, hoi, hdeps⟩ := mem_ready.1 hi
   have hisz : i < ops.size := (Array.getElem?_eq_some_iff.1 hoi).1
   have hil : i ∈ l := (hmem i).2 ⟨hisz, hi1⟩
   have hdl : ∀ k ∈ depsOf oi, listed.getD k false = true := fun k hk => by
    obtain ⟨e, he, hb, rfl⟩ := mem_depsOf.1 hk
    exact hdeps e he hb
   -- whatever is asked of the others, this one may come first
   have hiF : ∀ j ∈ l, ((clo (ops.toList.map depsOf) []).getD i 0).testBit j = false := fun j hj => by
    cases hb : ((clo (ops.toList.map depsOf) []).getD i 0).testBit j with
    | false => rfl
    | true =>
     exfalso
     have g1 := closed_bits hcl i i oi (Nat.le_refl _) hoi hdl j hb
     have g2 := ((hmem j).1 hj).2
     have g3 : j < listed.size := by have := ((hmem j).1 hj).1; omega
     simp [g3] at g1 g2
     rw [g1] at g2
     cases g2
   have take : ∀ ω, LO (clo (ops.toList.map depsOf) []) (l.filter (· != i)) ω -> ∃ τ s1 s' φ1 φ2, step oi s = some (s1, φ1) /\ φ1 /\ τ.Nodup /\ i ∉ τ /\ (∀ k, k ∈ τ ↔ k ∈ l /\ k ≠ i) /\ τ.Pairwise (Fine comm ops ω) /\ runI step ops τ s1 = some (s', φ2) /\ φ2 /\ Qs s' := fun ω hω => by
    obtain ⟨τ, s', φ, h1, h2, h3, h4, h5, h6⟩ := hrun (first i ω) (first_lo hiF hω)
    obtain ⟨pre, post, rfl⟩ := List.append_of_mem ((h2 i).2 hil)
    have hnd : i ∉ pre ++ post := fun h => by
     have := List.nodup_append.1 h1
     rcases List.mem_append.1 h with h | h
     ·exact this.2.2 i h i (by simp) rfl
     ·exact (List.nodup_cons.1 this.2.1).1 h
    have hpw := List.pairwise_append.1 h3
    have hcomm : ∀ j ∈ pre, ∀ oj, ops[j]? = some oj -> comm oj oi = true := fun j hj oj hoj => by
     rcases hpw.2.2 j hj i (by simp) oj oi hoj hoi with h | h | h
     ·exfalso
      have g1 := closed_bits hcl i i oi (Nat.le_refl _) hoi hdl j h
      have g2 := ((hmem j).1 ((h2 j).1 (by simp [hj]))).2
      have g3 : j < listed.size := by have := ((hmem j).1 ((h2 j).1 (by simp [hj]))).1; omega
      simp [g3] at g1 g2
      rw [g1] at g2
      cases g2
     ·exact h
     ·exfalso
      have hne : j ≠ i := fun e => hnd (e ▸ List.mem_append_left _ hj)
      simp [first, hne] at h
    obtain ⟨s1, φ1, φ2, g1, g2, g3, g4⟩ := bubble hK hN hoi pre post s s' φ ((List.nodup_append.1 h1).1) (fun j hj => hB j ((h2 j).1 (by simp [hj]))) hcomm h4 h5
    refine ⟨pre ++ post, s1, s', φ1, φ2, g1, g2, h1.sublist (List.Sublist.append_left (List.sublist_cons_self _ _) _), hnd, fun k => ?_, ?_, g3, g4, h6⟩
    ·rw [<- h2 k]
     simp only [List.mem_append, List.mem_cons]
     constructor
     ·rintro (h | h)
      ·exact ⟨.inl h, fun e => hnd (e ▸ List.mem_append_left _ h)⟩
      ·exact ⟨.inr (.inr h), fun e => hnd (e ▸ List.mem_append_right _ h)⟩
     ·rintro ⟨h | h | h, hne⟩
      ·exact .inl h
      ·exact absurd h hne
      ·exact .inr h
    ·refine (h3.sublist (List.Sublist.append_left (List.sublist_cons_self _ _) _)).imp_of_mem fun {x y} hx hy hf o1 o2 e1 e2 => ?_
     rcases hf o1 o2 e1 e2 with h | h | h
     ·exact .inl h
     ·exact .inr (.inl h)
     ·refine .inr (.inr ?_)
      have n1 : x ≠ i := fun e => hnd (e ▸ hx)
      have n2 : y ≠ i := fun e => hnd (e ▸ hy)
      simpa [first, n1, n2] using h
   obtain ⟨_, s1, _, φ1, _, g1, g2, _, _, _, _, _, _, _⟩ := take ltO (ltO_lo hsm _)
   obtain ⟨pre, post, rfl⟩ := List.append_of_mem hil
   have hpw := List.pairwise_append.1 hsorted
   have hnd : i ∉ pre ++ post := fun h => by
    rcases List.mem_append.1 h with h | h
    ·have := hpw.2.2 i h i (by simp); omega
    ·have := (List.pairwise_cons.1 hpw.2.1).1 i h; omega
   have hnext : ∀ a' w', Rel cx s1 a' w' -> wpAnyIn (FR cx.rd) 0 cx.P .any ops Q n (listed.setIfInBounds i true) a' w' := fun a' w' R' => by
    refine ih (pre ++ post) _ s1 a' w' (by simp at hl ⊢; omega) (Blank.next hK hN hoi (fun j hj => hB j (by rcases List.mem_append.1 hj with h | h <;> simp [h])) hnd g1) ?_ (fun j => ?_) (by simp [hls]) (fun j oj hoj hj k hk => ?_) (fun ω hω => ?_) R'
    ·exact hsorted.sublist (List.Sublist.append_left (List.sublist_cons_self _ _) _)
    ·by_cases hji : j = i
     ·subst hji
      constructor
      ·intro h; exact absurd h hnd
      ·rintro ⟨_, h⟩
       have h3 : j < listed.size := by omega
       simp [h3] at h
     ·rw [getD_set_ne true (fun e => hji e.symm)]
      have := hmem j
      simp only [List.mem_append, List.mem_cons] at this ⊢
      constructor
      ·rintro (h | h)
       ·exact this.1 (.inl h)
       ·exact this.1 (.inr (.inr h))
      ·intro h
       rcases this.2 h with h | h | h
       ·exact .inl h
       ·exact absurd h hji
       ·exact .inr h
    ·by_cases hji : j = i
     ·subst hji
      rw [hoi] at hoj
      cases hoj
      exact getD_set_true (hdl k hk)
     ·rw [getD_set_ne true (fun e => hji e.symm)] at hj
      exact getD_set_true (hcl j oj hoj hj k hk)
    ·obtain ⟨τ, s2, s', φ1', φ2, k1, _, k3, _, k5, k6, k7, k8, k9⟩ := take ω (by
      have : (pre ++ i :: post).filter (· != i) = pre ++ post := by
       have h1 : pre.filter (· != i) = pre := List.filter_eq_self.2 fun x hx => by simpa using fun e : x = i => hnd (e ▸ List.mem_append_left _ hx)
       have h2 : post.filter (· != i) = post := List.filter_eq_self.2 fun x hx => by simpa using fun e : x = i => hnd (e ▸ List.mem_append_right _ hx)
       rw [List.filter_append, List.filter_cons, h1, h2]
       simp
      rw [this]; exact hω)
     rw [g1] at k1
     cases k1
     refine ⟨τ, s', φ2, k3, fun k => ?_, k6, k7, k8, k9⟩
     rw [k5 k]
     simp only [List.mem_append, List.mem_cons]
     constructor
     ·rintro ⟨h | h | h, hne⟩
      ·exact .inl h
      ·exact absurd h hne
      ·exact .inr h
     ·rintro (h | h)
      ·exact ⟨.inl h, fun e => hnd (e ▸ List.mem_append_left _ h)⟩
      ·exact ⟨.inr (.inr h), fun e => hnd (e ▸ List.mem_append_right _ h)⟩
   obtain ⟨κ, R⟩ := R
   unfold wpOpIn
   simp only [hoi]
   rcases hK.sound κ s a w oi s1 φ1 R (Array.mem_of_getElem? hoi) g1 g2 with ⟨hw, hD⟩ | ⟨hw, hR⟩
   ·rw [if_pos hw]
    exact hD Q _ hnext
   ·rw [if_neg (by simp [hw])]
    exact ⟨fun _ _ => trivial, hnext _ _ hR⟩
theorem clo_length : ∀ (r : List (List Nat)) (acc : List Nat), (clo r acc).length = acc.length + r.length
 | [], acc => rfl
 | d :: r, acc => by simp only [clo, clo_length r, List.length_append, List.length_cons, List.length_nil]; omega
theorem asmD_spec {l : List Oper} {asm : List (Nat × Nat)} {ω : Nat -> Nat -> Bool} (hsm : smaller l = true) (hlo : LO (clo (l.map depsOf) []) (List.range' 0 l.length) ω) (hω : ∀ p ∈ asm, ω p.1 p.2 = true) {i j : Nat} (hi : i < l.length) (hj : j < l.length) (h : asmD (clo (l.map depsOf) []) asm i j = true) : ω i j = true := by
 have hin : ∀ k, k < l.length -> k ∈ List.range' 0 l.length := fun k hk => by simp [List.mem_range'_1, hk]
 have hlt : ∀ k a, ((clo (l.map depsOf) []).getD k 0).testBit a = true -> k < l.length := fun k a hb => by
  rcases Nat.lt_or_ge k (clo (l.map depsOf) []).length with h | h
  ·rw [clo_length] at h; simpa using h
  ·rw [List.getD_eq_getElem?_getD, List.getElem?_eq_none h] at hb; simp at hb
 simp only [asmD, List.any_eq_true, Bool.and_eq_true, Bool.or_eq_true, beq_iff_eq] at h
 obtain ⟨p, hp, h1, h2⟩ := h
 have h0 := hω p hp
 have a1 : ω i p.2 = true := by
  rcases h1 with h1 | h1
  ·rw [<- h1]; exact h0
  ·exact hlo.trans _ _ _ (hlo.dep i (hin i hi) p.1 (hin _ (hlt _ _ h1)) h1) h0
 rcases h2 with h2 | h2
 ·rw [<- h2]; exact a1
 ·by_cases hp2 : p.2 < l.length
  ·exact hlo.trans _ _ _ a1 (hlo.dep p.2 (hin _ hp2) j (hin j hj) h2)
  ·exfalso
   -- what waits, waits for less than all
   have := clo_lt hsm j p.2 h2
   omega
theorem ordA_spec {l : List Oper} {asm : List (Nat × Nat)} {ω : Nat -> Nat -> Bool} (hsm : smaller l = true) (hlo : LO (clo (l.map depsOf) []) (List.range' 0 l.length) ω) (hω : ∀ p ∈ asm, ω p.1 p.2 = true) : ∀ {τ : List Nat}, (∀ i ∈ τ, i < l.length) -> ordA comm l asm τ = true -> τ.Pairwise (Fine comm l.toArray ω)
 | [], _, _ => .nil
 | i :: r, hr, h => by
  simp only [ordA, Bool.and_eq_true] at h
  refine List.pairwise_cons.2 ⟨fun j hj x y hx hy => ?_, ordA_spec hsm hlo hω (fun j hj => hr j (by simp [hj])) h.2⟩
  have h1 := h.1
  rw [List.getElem?_toArray] at hx hy
  rw [hx] at h1
  simp only [List.all_eq_true] at h1
  have h2 := h1 j hj
  rw [hy] at h2
  simp only [Bool.or_eq_true] at h2
  rcases h2 with (h2 | h2) | h2
  ·exact .inl h2
  ·exact .inr (.inr (asmD_spec hsm hlo hω (hr i (by simp)) (hr j (by simp [hj])) h2))
  ·exact .inr (.inl h2)
theorem runI_pick {l : List Oper} : ∀ {is : List Nat} {s : St}, (∀ i ∈ is, i < l.length) -> runI step l.toArray is s = srunG step (pick l is) s
 | [], s, _ => rfl
 | i :: is, s, h => by
  have hi : l[i]? = some l[i]! := by
   have := h i (by simp)
   rw [List.getElem?_eq_getElem this]
   simp [this]
  have e : pick l (i :: is) = l[i]! :: pick l is := by
   simp only [pick, List.filterMap_cons, hi]
  rw [e]
  simp only [runI, List.getElem?_toArray, hi, srunG]
  cases step l[i]! s with
  | none => rfl
  | some p =>
   have := runI_pick (l := l) (is := is) (s := p.1) (fun j hj => h j (by simp [hj]))
   first
   | (simp only [this]; done)
   | (simp only [this]; cases srunG step (pick l is) p.1 <;> rfl)
theorem ordT_spec {l : List Oper} (hsm : smaller l = true) {s : St} {Qs : St -> Prop} : ∀ {t : OT} {asm : List (Nat × Nat)}, ordT comm l asm t = true -> t.Leaves l (fun τ => ∃ s' φ, srunG step τ s = some (s', φ) /\ φ /\ Qs s') -> ∀ ω, LO (clo (l.map depsOf) []) (List.range' 0 l.length) ω -> (∀ p ∈ asm, ω p.1 p.2 = true) ->
  ∃ τ s' φ, τ.Nodup /\ (∀ i, i ∈ τ ↔ i ∈ List.range' 0 l.length) /\ τ.Pairwise (Fine comm l.toArray ω) /\ runI step l.toArray τ s = some (s', φ) /\ φ /\ Qs s'
 | .prog, asm, h, ⟨s', φ, h1, h2, h3⟩, ω, hω, ha => ⟨List.range' 0 l.length, s', φ, List.nodup_range', fun _ => Iff.rfl, ordA_spec hsm hω ha (fun i hi => by simpa [List.mem_range'_1] using hi) h, by rw [runI_srun (ops := l.toArray) l 0 _ (by simp)]; exact h1, h2, h3⟩
 | .leaf is, asm, h, ⟨s', φ, h1, h2, h3⟩, ω, hω, ha => by
  simp only [ordT, permOk, Bool.and_eq_true, List.all_eq_true, decide_eq_true_eq] at h
  obtain ⟨g1, ⟨g2, g3⟩, g4⟩ := h
  refine ⟨is, s', φ, ndL_spec g4, fun i => ⟨fun hi => ?_, fun hi => ?_⟩, ordA_spec hsm hω ha g2 g1, by rw [runI_pick g2]; exact h1, h2, h3⟩
  ·simp [List.mem_range'_1]; exact g2 i hi
  ·simp [List.mem_range'_1] at hi
   exact List.contains_iff_mem.1 (g3 i (List.mem_range.2 hi))
 | .node i j a b, asm, h, ⟨ha, hb⟩, ω, hω, hasm => by
  simp only [ordT, Bool.and_eq_true, bne_iff_ne] at h
  cases hx : ω i j with
  | true => exact ordT_spec hsm h.1.2 ha ω hω fun p hp => (List.mem_cons.1 hp).elim (fun e => by rw [e]; exact hx) (hasm p)
  | false =>
   have : ω j i = true := by rw [hω.anti i j h.1.1, hx]; rfl
   exact ordT_spec hsm h.2 hb ω hω fun p hp => (List.mem_cons.1 hp).elim (fun e => by rw [e]; exact this) (hasm p)
theorem AW.regT {id : Nat} {l : List Oper} {Q : Exit -> St -> Prop} {s : St} (hK : StepOk cx l.toArray step comm bl) (hm : cx.P.follows .mixedOrders = true) (hnd : ndB (l.map (·.dst)) = true) (hsm : smaller l = true) {t : OT}
  (hord : ordT comm l [] t = true) {s0 : St} (h0 : s0 = blank ((l.filter bl).map (·.dst)) s) (h : t.Leaves l (fun τ => ∃ s' φ, srunG step τ s0 = some (s', φ) /\ φ /\ Q .normal s')) : AW cx (.region id l.toArray true) Q s := by
 subst h0
 intro a w R
 obtain ⟨κ, R⟩ := R
 refine wpIn_region_any hm ?_
 refine any_soundT hK (fun i j oi oj d hi hj hdi hdj => ndB_spec hnd i j d (by rw [List.getElem?_map, <- List.getElem?_toArray, hi, Option.map_some, hdi]) (by rw [List.getElem?_map, <- List.getElem?_toArray, hj, Option.map_some, hdj])) (by simpa using hsm) (Qs := fun s' => Q .normal s') (Q := fun e a' w' => ∃ s', Q e s' /\ Rel cx s' a' w') (fun s' a w hq R => ⟨s', hq, R⟩) _ (List.range' 0 l.length) _ _ a _ (by simp) (fun j _ oj hoj hbl d hd => by
  simp only [blank]
  rw [if_pos]
  simp only [List.contains_eq_mem, decide_eq_true_eq]
  exact List.mem_map.2 ⟨oj, List.mem_filter.2 ⟨by simpa using Array.mem_of_getElem? hoj, hbl⟩, hd⟩) (List.pairwise_lt_range' ..) (fun i => ?_) (by simp) (fun j oj hoj hj => ?_) (fun ω hω => ordT_spec hsm hord h ω (by simpa using hω) (by simp)) ⟨κ, (R.blank _).drew⟩
 ·simp [List.mem_range'_1]
  intro hi
  simp [hi]
 ·have hj2 : j < l.toArray.size := (Array.getElem?_eq_some_iff.1 hoj).1
  simp at hj2
  simp [hj2] at hj
end
end Go.Aw

/- Calls that only borrow what they get. Own work. -/
namespace Go.Aw
open Go
structure Sig where
 F : FuncId -> List AV -> HL -> Option ((AV × HL) × Prop)
 L : FuncId -> Nat -> List AV -> HL -> Option ((Exit × List AV × HL) × Prop)
def SigF (P : Program) (G : Nat -> AV) (S : Sig) : Prop :=
 ∀ k a l r l' φ, S.F k a l = some ((r, l'), φ) -> φ -> OutOk P G k a l r l'
def AV.flat : AV -> Bool
 | .int _ _ | .bool _ | .str _ | .nilp | .nilf | .nili | .nilsl | .nilm => true
 | .agg cs | .tup cs => flats cs
 | _ => false
where
 flats : List AV -> Bool
  | [] => true
  | x :: r => x.flat && flats r
theorem flats_iff {l : List AV} : AV.flat.flats l = true ↔ ∀ x ∈ l, x.flat = true := by
 induction l with
 | nil => simp [AV.flat.flats]
 | cons x r ih => simp [AV.flat.flats, ih]
theorem RV.flat_of {κ κ' : Kz} {H H' : Hp} {w w' : World} {x : AV} {v : Value} (h : RV κ H w x v) : x.flat = true -> RV κ' H' w' x v := by
 induction h with
 | imm h =>
  intro hx
  cases h with
  | int k n => exact .imm (.int k n)
  | bool b => exact .imm (.bool b)
  | str s => exact .imm (.str s)
  | nilp => exact .imm .nilp
  | nilf => exact .imm .nilf
  | nili => exact .imm .nili
  | nilm => exact .imm .nilm
  | ro _ _ _ _ _ _ _ _ _ _ _ _ => cases hx
 | nilsl => exact fun _ => .nilsl
 | agg cs vs hl h h1 ih => exact fun hx => .agg cs vs hl (fun i x v hi hv => ih i x v hi hv (flats_iff.1 hx x (List.mem_of_getElem? hi))) h1
 | tup cs vs hl h ih => exact fun hx => .tup cs vs hl (fun i x v hi hv => ih i x v hi hv (flats_iff.1 hx x (List.mem_of_getElem? hi)))
 | _ => intro hx; cases hx
def immB (ob : Ob) : Bool := ob.es.all fun e => e.cells.all AV.isImm
theorem immB_spec {ob : Ob} (h : immB ob = true) : ob.Imm := fun e he x hx => List.all_eq_true.1 (List.all_eq_true.1 h e he) x hx
def frzA (o : Nat) (ob : Ob) : AV -> AV := sub o (fun lo len => .ro ob.sz ((ob.es.drop lo).take len)) (fun i c => .rop (ob.es.getD i .junk) c)
def frzH (o : Nat) (ob : Ob) (H : Hp) : Hp := fun p => if p = o then none else (H p).map (subOb o (fun lo len => .ro ob.sz ((ob.es.drop lo).take len)) (fun i c => .rop (ob.es.getD i .junk) c))
theorem freeze_eq (s : St) (o : Nat) (ob : Ob) : s.freeze o ob = ⟨fun t => frzA o ob (s.ρ t), frzH o ob s.H⟩ := rfl
def tel0 : AV -> AV
 | .nilsl => .ro 1 []
 | x => x
def telE : AV -> AV
 | .nilsl => .ro 1 []
 | .agg cs => .agg (cs.map tel0)
 | x => x
def telOb (ob : Ob) : Ob := ⟨ob.box, ob.sz, ob.es.map telE⟩
theorem tel0_rv {κ : Kz} {H : Hp} {w : World} {x : AV} {v : Value} (h : RV κ H w x v) : RV κ H w (tel0 x) v := by
 cases x with
 | nilsl =>
  cases h with
  | imm h => cases h
  | nilsl => exact .imm (.ro 1 [] none 0 0 0 (fun _ _ => undef) (fun h => absurd h (by simp)) (by simp) (by simp) (by simp) (by simp))
 | _ => exact h
theorem telE_rv {κ : Kz} {H : Hp} {w : World} {x : AV} {v : Value} (h : RV κ H w x v) : RV κ H w (telE x) v := by
 cases x with
 | nilsl => exact tel0_rv h
 | agg cs =>
  cases h with
  | imm h => cases h
  | agg _ vs hl h h1 =>
   refine .agg _ vs (by simpa using hl) (fun i x v hx hv => ?_) h1
   rw [List.getElem?_map] at hx
   obtain ⟨y, hy, rfl⟩ := Option.map_eq_some_iff.1 hx
   exact tel0_rv (h i y v hy hv)
 | _ => exact h
theorem telE_cells {e : AV} : (telE e).cells = e.cells.map tel0 := by
 cases e <;> rfl
theorem RelK.tel {cx : Cx} {κ : Kz} {s : St} {a : Act} {w : World} (R : RelK cx κ s a w) {o : Nat} {ob : Ob} (ho : s.H o = some ob) : RelK cx κ ⟨s.ρ, upd s.H o (some (telOb ob))⟩ a w := by
 have hS : Same κ κ s.H (upd s.H o (some (telOb ob))) := fun p ob' hp => by
  by_cases e : p = o
  ·subst e
   rw [ho] at hp; cases hp
   exact ⟨telOb ob, upd_same _ _ _, rfl, rfl, by simp [telOb], rfl⟩
  ·exact ⟨ob', by rw [upd_ne _ _ e]; exact hp, rfl, rfl, Nat.le_refl _, rfl⟩
 have up : ∀ {x : AV} {v : Value}, RV κ s.H w x v -> RV κ (upd s.H o (some (telOb ob))) w x v := fun h => h.mono (fun _ h => h) (fun _ _ => rfl) hS
 have back : ∀ p ob', upd s.H o (some (telOb ob)) p = some ob' -> ∃ ob0, s.H p = some ob0 /\ (p = o /\ ob0 = ob /\ ob' = telOb ob \/ p ≠ o /\ ob' = ob0) := fun p ob' hp => by
  by_cases e : p = o
  ·subst e
   rw [upd_same] at hp; cases hp
   exact ⟨ob, ho, .inl ⟨rfl, rfl, rfl⟩⟩
  ·rw [upd_ne _ _ e] at hp
   exact ⟨ob', hp, .inr ⟨e, rfl⟩⟩
 refine { R with rep := fun p ob' hp => ?_, inj := fun p p' ob1 ob2 x x' h1 h2 => ?_, env := fun t => up (R.env t), own := fun p ob' x hp => ?_, pin := fun p ob' x hx hp => ?_, glob := fun g => up (R.glob g) }
 ·obtain ⟨ob0, h0, hc⟩ := back p ob' hp
  obtain ⟨r1, r2⟩ := R.rep p ob0 h0
  rcases hc with ⟨rfl, rfl, rfl⟩ | ⟨_, rfl⟩
  ·refine ⟨fun i e hi => ?_, ?_⟩
   ·simp only [telOb, List.getElem?_map] at hi
    obtain ⟨e0, he, rfl⟩ := Option.map_eq_some_iff.1 hi
    rw [telE_cells, List.length_map]
    exact r1 i e0 he
   ·rcases r2 with ⟨c1, c2, c3⟩ | ⟨b, base, cs, el, c1, c2, c3, c4, c5⟩ | ⟨z0, b, c, mes, clock, m1, m2, m3, m4, m5⟩
    ·exact .inl ⟨c1, c2, by simp [telOb, c3]⟩
    case inr.inr =>
     refine .inr (.inr ⟨z0, b, c, mes, clock, m1, m2, m3, by simpa [telOb] using m4, fun i e hi => ?_⟩)
     simp only [telOb, List.getElem?_map] at hi
     obtain ⟨e0, he, rfl⟩ := Option.map_eq_some_iff.1 hi
     obtain ⟨k, v, m, rfl, n1, n2, n3⟩ := m5 i e0 he
     exact ⟨k, v, m, rfl, n1, n2, up n3⟩
    ·refine .inr (.inl ⟨b, base, cs, el, c1, c2, c3, by simpa [telOb] using c4, fun i e j x hi hj => ?_⟩)
     simp only [telOb, List.getElem?_map] at hi
     obtain ⟨e0, he, rfl⟩ := Option.map_eq_some_iff.1 hi
     rw [telE_cells, List.getElem?_map] at hj
     obtain ⟨x0, hx0, rfl⟩ := Option.map_eq_some_iff.1 hj
     obtain ⟨v, d1, d2, d3⟩ := c5 i e0 j x0 he hx0
     exact ⟨v, d1, up (tel0_rv d2), d3⟩
  ·refine ⟨r1, ?_⟩
   rcases r2 with h | ⟨b, base, cs, el, c1, c2, c3, c4, c5⟩ | h
   ·exact .inl h
   ·exact .inr (.inl ⟨b, base, cs, el, c1, c2, c3, c4, fun i e j x hi hj => by
     obtain ⟨v, d1, d2, d3⟩ := c5 i e j x hi hj
     exact ⟨v, d1, up d2, d3⟩⟩)
   ·exact .inr (.inr (h.same rfl (fun _ _ h => h) (fun _ _ => rfl) up))
 ·obtain ⟨o1, g1, _⟩ := back p ob1 h1
  obtain ⟨o2, g2, _⟩ := back p' ob2 h2
  exact R.inj p p' o1 o2 x x' g1 g2
 ·obtain ⟨o1, g1, _⟩ := back p ob' hp
  exact R.own p o1 x g1
 ·obtain ⟨o1, g1, _⟩ := back p ob' hp
  exact R.pin p o1 x hx g1
theorem frzH_upd {o : Nat} {ob ob' : Ob} {H : Hp} : frzH o ob (upd H o (some ob')) = frzH o ob H := by
 funext p
 unfold frzH
 by_cases e : p = o
 ·rw [if_pos e, if_pos e]
 ·rw [if_neg e, if_neg e, upd_ne _ _ e]
def frzL : List Nat -> List AV -> Hp -> Option (List AV × Prop)
 | [], av, _ => some (av, True)
 | o :: l, av, H => frzO l av H o (H o)
where
 frzO (l : List Nat) (av : List AV) (H : Hp) (o : Nat) : Option Ob -> Option (List AV × Prop)
  | some ob => frzP (immB (telOb ob) = true) (frzL l (av.map (frzA o (telOb ob))) (frzH o (telOb ob) H))
  | none => none
 frzP (φ : Prop) : Option (List AV × Prop) -> Option (List AV × Prop)
  | some (av, ψ) => some (av, φ /\ ψ)
  | none => none
theorem sub_pure {o : Nat} {fs fp : Nat -> Nat -> AV} {x : AV} (h : x.pure = true) : sub o fs fp x = x := by
 have hl : ∀ l : List AV, (∀ x ∈ l, x.pure = true -> sub o fs fp x = x) -> AV.pure.pures l = true -> sub.subs o fs fp l = l := fun l => by
  induction l with
  | nil => intros; rfl
  | cons y l ihl =>
   intro ih h
   simp only [AV.pure.pures, Bool.and_eq_true] at h
   simp only [sub.subs]
   rw [ih y (by simp) h.1, ihl (fun x hx => ih x (by simp [hx])) h.2]
 induction x using AV.ind with
 | agg cs ih => simp only [sub]; rw [hl cs ih h]
 | tup cs ih => simp only [sub]; rw [hl cs ih h]
 | fn f a b iha ihb =>
  simp only [AV.pure, Bool.and_eq_true] at h
  simp only [sub]; rw [hl a iha h.1, hl b ihb h.2]
 | gd b v ih => simp only [sub]; rw [ih h]
 | ifc t v ih => simp only [sub]; rw [ih h]
 | leaf x hx => cases x <;> first | rfl | cases h | cases hx
theorem globSub {cx : Cx} (hcx : CxOk cx) {o : Nat} {fs fp : Nat -> Nat -> AV} (g : Nat) : sub o fs fp (cx.G g) = cx.G g := by
 rcases hcx.pureG g with h | h
 ·exact sub_pure h
 ·rw [h]; rfl
variable {cx : Cx} {κ : Kz} {s : St} {a : Act} {w w' : World}
theorem frzL_sound (hcx : CxOk cx) : ∀ {l : List Nat} {κ : Kz} {av av' : List AV} {H : Hp} {φ : Prop}, frzL l av H = some (av', φ) -> φ -> RelK cx κ ⟨fun t => av.getD t .junk, H⟩ a w ->
  ∃ κ' H', RelK cx κ' ⟨fun t => av'.getD t .junk, H'⟩ a w /\ (∀ b, κ.im b -> κ'.im b) /\ av'.length = av.length
 | [], κ, av, av', H, φ, h, _, R => by simp only [frzL] at h; cases h; exact ⟨κ, H, R, fun _ h => h, rfl⟩
 | o :: l, κ, av, av', H, φ, h, hφ, R => by
  simp only [frzL] at h
  cases ho : H o with
  | none => rw [ho] at h; simp only [frzL.frzO] at h; cases h
  | some ob =>
   rw [ho] at h
   simp only [frzL.frzO] at h
   cases hr : frzL l (av.map (frzA o (telOb ob))) (frzH o (telOb ob) H) with
   | none => rw [hr] at h; simp only [frzL.frzP] at h; cases h
   | some r =>
    obtain ⟨av2, ψ⟩ := r
    rw [hr] at h
    simp only [frzL.frzP] at h
    cases h
    have R0 := RelK.tel R ho
    have R1 := RelK.freeze R0 (o := o) (ob := telOb ob) (upd_same _ _ _) (immB_spec hφ.1) (fun g => globSub hcx g)
    rw [freeze_eq, frzH_upd] at R1
    have e : (fun t => frzA o (telOb ob) (av.getD t .junk)) = fun t => (av.map (frzA o (telOb ob))).getD t .junk := by
     funext t
     simp only [List.getD_eq_getElem?_getD, List.getElem?_map]
     cases av[t]? <;> rfl
    simp only [e] at R1
    obtain ⟨κ', H', k1, k2, k3⟩ := frzL_sound hcx hr hφ.2 R1
    exact ⟨κ', H', k1, fun b hb => k2 b (.inl hb), by rw [k3, List.length_map]⟩
def brwR (pu : Bool) (φ : Prop) (res : Option ((AV × HL) × Prop)) : Option (AV × Prop) :=
 match res with
 | some ((r, _), ψ) => if pu && r.flat then some (r, φ /\ ψ) else none
 | none => none
def brwF (S : Sig) (k : FuncId) (x : Option (List AV × Prop)) : Option (AV × Prop) :=
 match x with
 | some (av', φ) => brwR (AV.pure.pures (av'.map telE)) φ (S.F k (av'.map telE) [])
 | none => none
def brwS (S : Sig) (H : Hp) (k : FuncId) (av : List AV) (x : Option (List Nat)) : Option (AV × Prop) :=
 match x with
 | some seen => brwF S k (frzL seen.reverse av H)
 | none => none
def brwK (S : Sig) (H : Hp) (k : FuncId) (av : List AV) : Option (AV × Prop) := brwS S H k av (reach 500 H (AV.rl.rls av) [])
theorem RelK.args (R : RelK cx κ s a w) {av : List AV} {vs : Array Value} (hsz : vs.size = av.length) (h : ∀ (i : Nat) (x : AV) (v : Value), av[i]? = some x -> vs[i]? = some v -> RV κ s.H w x v) :
  RelK { cx with n := vs.size, fzl := [] } κ ⟨fun t => av.getD t .junk, s.H⟩ { a with tmps := vs } w where
 rep := R.rep
 inj := R.inj
 env t := by
  show RV κ s.H w (av.getD t .junk) (vs.getD t undef)
  simp only [List.getD_eq_getElem?_getD, Array.getD_eq_getD_getElem?]
  cases h1 : av[t]? with
  | none => exact .junk _
  | some x =>
   have hlt : t < vs.size := by rw [hsz]; exact (List.getElem?_eq_some_iff.1 h1).1
   rw [Array.getElem?_eq_getElem hlt]
   exact h t x _ h1 (Array.getElem?_eq_getElem hlt)
 size := rfl
 defers := ⟨R.defers.1, fun t h => by simp at h⟩
 os := R.os
 tape := R.tape
 output := R.output
 le := R.le
 block := R.block
 own := R.own
 im0 := R.im0
 imlt := R.imlt
 imnew := R.imnew
 pin := R.pin
 pinlo := R.pinlo
 glob := R.glob
theorem brwK_sound (hcx : CxOk cx) (R : RelK cx κ s a w) {S : Sig} (hS : SigF cx.P cx.G S) {k : FuncId} {av : List AV} {r : AV} {φ : Prop} (h : brwK S s.H k av = some (r, φ)) (hφ : φ)
  {vs : Array Value} (hsz : vs.size = av.length) (hv : ∀ (i : Nat) (x : AV) (v : Value), av[i]? = some x -> vs[i]? = some v -> RV κ s.H w x v) :
  (∀ as w, (callFunc k as).run cx.P w = .ok (.enter k as) w) /\
  Calls cx.P k vs w fun e w' => ∃ u, e = .returned u /\ RelK cx κ s a w' /\ RV κ s.H w' r u := by
 unfold brwK at h
 cases hre : reach 500 s.H (AV.rl.rls av) [] with
 | none => rw [hre] at h; cases h
 | some seen =>
  rw [hre] at h
  simp only [brwS] at h
  cases hfr : frzL seen.reverse av s.H with
  | none => rw [hfr] at h; cases h
  | some x =>
   obtain ⟨av', φ1⟩ := x
   rw [hfr] at h
   simp only [brwF, brwR] at h
   split at h
   case h_2 => cases h
   rename_i r' l' ψ hF
   split at h
   case isFalse => cases h
   rename_i hpf
   cases h
   simp only [Bool.and_eq_true] at hpf
   obtain ⟨hpu, hfl⟩ := hpf
   have hO := hS k (av'.map telE) [] _ _ _ hF hφ.2
   have R2 := R.args hsz hv
   obtain ⟨κ', H', R3, him, hlen⟩ := frzL_sound (cx := { cx with n := vs.size, fzl := [] }) ⟨hcx.glob, hcx.pureG⟩ hfr hφ.1 R2
   obtain ⟨hcf, hcall⟩ := hO.hc
   refine ⟨hcf, ?_⟩
   have hH0 : hp [] = noH := rfl
   have hC := hcall w ⟨noμ, κ'.im⟩ vs R3.imlt (globs (κ := κ') (cx := { cx with n := vs.size, fzl := [] }) ⟨hcx.glob, hcx.pureG⟩ R3) (by rw [hsz, List.length_map, hlen]) (fun i y v hy hvv => by
     rw [hH0]
     have hy0 := hy
     rw [List.getElem?_map] at hy
     obtain ⟨x, hx, rfl⟩ := Option.map_eq_some_iff.1 hy
     have := R3.env i
     have e1 : (fun t => av'.getD t AV.junk) i = x := by simp only [List.getD_eq_getElem?_getD, hx]; rfl
     have e2 : vs.getD i undef = v := by simp only [Array.getD_eq_getD_getElem?, hvv]; rfl
     have e1' : av'.getD i AV.junk = x := e1
     simp only [e1', e2] at this
     exact (telE_rv this).pure_of (pures_iff.1 hpu (telE x) (List.mem_of_getElem? hy0)))
    (fun o ob h => by cases h) (fun o o' ob ob' x x' h => by cases h)
   refine hC.mono fun e w' ⟨u, κ2, he, g1, g2, g3, g4, g5, g6, g7, g8, g9, _⟩ => ?_
   refine ⟨u, he, ?_, g4.flat_of hfl⟩
   exact RelK.called R (im' := κ.im) (fun _ h => h) (fun _ h => .inl h) (fun b hb => Nat.lt_of_lt_of_le (R.imlt b hb) g8) g5 g6 g7 g8 (fun b hb => g9 b hb fun ⟨o, ob, x, h, _⟩ => by cases h)
end Go.Aw

/- One operation, calls by a program. Own work. -/
namespace Go.Aw
open Go
structure An where
 bor : FuncId -> Bool
 pur : FuncId -> Bool
 ro : FuncId -> Bool
 dr : FuncId -> Nat -> Option (List Nat × Bool × List Tmp × List (Option Tmp))
 ok : FuncId -> Bool
 keep : FuncId -> Nat -> Option (List Tmp)
 fix : FuncId -> Nat -> List (Nat × List Nat × Nat)
 frl : FuncId -> Nat -> Bool
 res : FuncId -> List (Nat × List Nat × Nat)
 frz : FuncId -> Bool
 fra : FuncId -> Bool
 cp : FuncId -> Nat -> Bool
 giv : FuncId -> List AV -> HL -> Option ((AV × HL) × Prop)
 seq : FuncId -> List AV -> Option (List AV × Prop) := fun _ _ => none
 ord : FuncId -> Nat -> OT := fun _ _ => .prog
 sty : FuncId -> Bool := fun _ => false
 lz : FuncId -> Bool := fun _ => false
 fzr : FuncId -> Nat -> List Tmp := fun _ _ => []
def hoR (H : Hp) (d : Nat) (av : List AV) (seen : List Nat) (res : Option ((AV × HL) × Prop)) : Option (HO × Prop) :=
 match res with
 | some ((r, l'), φ) => some (mkHO av seen H d r l', φ /\ seen.length < 1000 /\ freE H (frN ((nums 100000 seen).map (·.2)) (50000 + 50 * d) l'))
 | none => none
def hoS (S : Sig) (H : Hp) (d : Nat) (k : FuncId) (av : List AV) (x : Option (List Nat)) : Option (HO × Prop) :=
 match x with
 | some seen => hoR H d av seen (S.F k (av.map (ren (tau (nums 100000 seen)))) (obsOf H (nums 100000 seen) seen))
 | none => none
def hoK (S : Sig) (H : Hp) (d : Nat) (k : FuncId) (av : List AV) : Option (HO × Prop) := hoS S H d k av (reach 500 H (AV.rl.rls av) [])
theorem hoK_ok {cx : Cx} {S : Sig} (hS : SigF cx.P cx.G S) {H : Hp} {d : Nat} {k : FuncId} {av : List AV} {h : HO} {φ : Prop} (e : hoK S H d k av = some (h, φ)) (hφ : φ) : HOk cx h k av H := by
 unfold hoK at e
 cases hr : reach 500 H (AV.rl.rls av) [] with
 | none => rw [hr] at e; cases e
 | some seen =>
  rw [hr] at e
  simp only [hoS, hoR] at e
  split at e
  ·rename_i r l' ψ hF
   cases e
   exact mkHO_ok hr hφ.2.1 (hS _ _ _ _ _ _ hF hφ.1) hφ.2.2
  ·cases e
def avOf (cx : Cx) (s : St) (first cap : List AV) (cl : Call) : List AV := first ++ cl.args.toList.map (fun x => stripV (aev cx s.ρ x)) ++ cap
def stB (cx : Cx) (o : Oper) (cl : Call) (f : Operand) (s : St) (x : Option (AV × Prop)) : Option (St × Prop) :=
 match x with
 | some (r, φ) => some (putv s o.dst (wrapg o.guard true r), φ /\ allB cx s.ρ (f :: cl.args.toList) = true)
 | none => none
def clr (fr : Option (List Nat)) (s : St) (h : HO) : Bool := match fr with
 | none => true
 | some g => clearOf g s.ρ (h.badG g)
def stH (cx : Cx) (fr : Option (List Nat)) (o : Oper) (cl : Call) (f : Operand) (s : St) (x : Option (HO × Prop)) : Option (St × Prop) :=
 match x with
 | some (h, φ) => if clr fr s h = true then some (putv { (dropAll s h.lost) with H := newH h (dropAll s h.lost).H } o.dst (wrapg o.guard true (ren (tau h.τ) h.r)), φ /\ allB cx s.ρ (f :: cl.args.toList) = true) else none
 | none => none
def stCall (cx : Cx) (S : Sig) (A : An) (fr : Option (List Nat)) (o : Oper) (cl : Call) (f : Operand) (s : St) (v : AV) : Option (St × Prop) :=
 match v with
 | .fn (.func k) first cap => if A.bor k = true then stB cx o cl f s (brwK S s.H k (avOf cx s first cap cl)) else stH cx fr o cl f s (hoK S s.H (o.dst.getD 0) k (avOf cx s first cap cl))
 | _ => none
def noA (P : Program) (t : TypeId) : Option (List AV) -> AV
 | some z => mkE P t z
 | none => .junk
def noV (P : Program) (t : TypeId) : AV := noA P t (tZero P t)
theorem gdx_rel {cx : Cx} {κ : Kz} {s : St} {a : Act} {w : World} {d : Option Tmp} {x : AV} (R : RelK cx κ (putv s d (.gd false .junk)) a w) : RelK cx κ (putv s d (.gd false x)) a w := by
 cases d with
 | none => exact R
 | some d =>
  have e : ∀ t, RV κ s.H w (upd s.ρ d (.gd false x) t) (a.tmps.getD t undef) := fun t => by
   have h : RV κ s.H w (upd s.ρ d (.gd false .junk) t) (a.tmps.getD t undef) := R.env t
   unfold upd at h ⊢
   split at h
   ·rename_i ht
    rw [if_pos ht]
    cases h with
    | imm h => cases h
    | gd _ _ _ _ hf => exact .gd false x _ (fun h => by cases h) hf
   ·rename_i ht
    rw [if_neg ht]
    exact h
  exact ⟨R.rep, R.inj, e, R.size, R.defers, R.os, R.tape, R.output, R.le, R.block, R.own, R.im0, R.imlt, R.imnew, R.pin, R.pinlo, R.glob⟩
def stNo (cx : Cx) (fr : Option (List Nat)) (o : Oper) (s : St) : Option (St × Prop) := match fr with
 | none => if o.guard.isSome = true then some (putv s o.dst (.gd false (noV cx.P o.type)), True) else none
 | some _ => none
def qId (A : An) (o : Oper) : Option FuncId := match o.op with
 | .call cl => match cl.callee with
  | .value (.func k) => if (A.pur k || A.bor k || A.ro k) = true /\ o.dst.isSome = true then some k else none
  | _ => none
 | _ => none
def pcQ (pu : Bool) (res : Option ((AV × HL) × Prop)) : Option (AV × Prop) := match res with
 | some ((r, _), φ) => if (pu && r.pure) = true then some (r, φ) else none
 | none => none
def pcR (S : Sig) (k : FuncId) (av : List AV) : Option (AV × Prop) := pcQ (AV.pure.pures av) (S.F k av [])
def roR (H : Hp) (d : Nat) (seen : List Nat) (res : Option ((AV × HL) × Prop)) : Option (AV × Prop) := match res with
 | some ((r, l'), φ) => if r.pure = true then some (r, φ /\ seen.length < 1000 /\ freE H (frN ((nums 100000 seen).map (·.2)) (50000 + 50 * d) l') /\ l' = obsOf H (nums 100000 seen) seen) else none
 | none => none
def roS (S : Sig) (H : Hp) (d : Nat) (k : FuncId) (av : List AV) (x : Option (List Nat)) : Option (AV × Prop) := match x with
 | some seen => roR H d seen (S.F k (av.map (ren (tau (nums 100000 seen)))) (obsOf H (nums 100000 seen) seen))
 | none => none
def roK (S : Sig) (H : Hp) (d : Nat) (k : FuncId) (av : List AV) : Option (AV × Prop) := roS S H d k av (reach 500 H (AV.rl.rls av) [])
def qR (S : Sig) (A : An) (H : Hp) (d : Nat) (k : FuncId) (av : List AV) : Option (AV × Prop) :=
 if A.pur k = true then pcR S k av else if A.bor k = true then brwK S H k av else roK S H d k av
def stP (cx : Cx) (o : Oper) (cl : Call) (k : FuncId) (s : St) (x : Option (AV × Prop)) : Option (St × Prop) := match x with
 | some (r, φ) => some (putv s o.dst (wrapg o.guard true r), φ /\ allB cx s.ρ (.func k :: cl.args.toList) = true)
 | none => none
def stX (cx : Cx) (S : Sig) (A : An) (fr : Option (List Nat)) (o : Oper) (cl : Call) (f : Operand) (s : St) (q : Option FuncId) (c : Option Bool) : Option (St × Prop) :=
 match q with
 | some k => match c with
  | some true => stP cx o cl k s (qR S A s.H (o.dst.getD 0) k (avOf cx s [] [] cl))
  | some false => some (putv s o.dst (wrapg o.guard false (noV cx.P o.type)), True)
  | none => none
 | none => match c with
  | some true => stCall cx S A fr o cl f s (stripV (aev cx s.ρ f))
  | some false => stNo cx fr o s
  | none => none
def isT : Operand -> Nat -> Bool
 | .tmp t, p => t == p
 | _, _ => false
theorem isT_spec {a : Operand} {p : Nat} (h : isT a p = true) : a = .tmp p := by
 cases a with
 | tmp t => rw [show t = p from beq_iff_eq.1 h]
 | _ => cases h
def wOk (cx : Cx) (fr : Option (List Nat)) (o : Oper) (s : St) : Bool := match fr with
 | none => true
 | some g => match o.op with
  | .store _ x _ => !g.contains 999999 || (match refOf (stripV (aev cx s.ρ x)) with
   | some p => g.contains p && (!g.contains (p + 700000) || isT x p)
   | none => false)
  | _ => true
def stepX (cx : Cx) (S : Sig) (A : An) (fr : Option (List Nat)) (ds : List (Option Tmp)) (o : Oper) (s : St) : Option (St × Prop) :=
 match o.op with
 | .call cl => match cl.callee with
  | .value f => stX cx S A fr o cl f s (qId A o) (gcond ds s.ρ o.guard)
  | _ => sstep cx (frL fr) [] ds o s
 | _ => if wOk cx fr o s = true then sstep cx (frL fr) [] ds o s else none
def frzS : List Nat -> St -> Option (St × Prop)
 | [], s => some (s, True)
 | o :: l, s => frzO l s o (s.H o)
where
 frzO (l : List Nat) (s : St) (o : Nat) : Option Ob -> Option (St × Prop)
  | some ob => frzP (immB ob = true) (frzS l ⟨fun t => frzA o ob (s.ρ t), frzH o ob s.H⟩)
  | none => none
 frzP (φ : Prop) : Option (St × Prop) -> Option (St × Prop)
  | some (s, ψ) => some (s, φ /\ ψ)
  | none => none
def frzR (s : St) (x : Option (List Nat)) : Option (St × Prop) := match x with
 | some seen => frzS seen.reverse s
 | none => none
theorem frzS_sound {cx : Cx} (hcx : CxOk cx) {a : Act} {w : World} : ∀ {l : List Nat} {s s' : St} {φ : Prop} {κ : Kz}, frzS l s = some (s', φ) -> φ -> RelK cx κ s a w -> ∃ κ', RelK cx κ' s' a w
 | [], s, s', φ, κ, h, _, R => by simp only [frzS] at h; cases h; exact ⟨κ, R⟩
 | o :: l, s, s', φ, κ, h, hφ, R => by
  simp only [frzS] at h
  cases ho : s.H o with
  | none => rw [ho] at h; simp only [frzS.frzO] at h; cases h
  | some ob =>
   rw [ho] at h
   simp only [frzS.frzO] at h
   cases hr : frzS l ⟨fun t => frzA o ob (s.ρ t), frzH o ob s.H⟩ with
   | none => rw [hr] at h; simp only [frzS.frzP] at h; cases h
   | some r =>
    obtain ⟨s2, ψ⟩ := r
    rw [hr] at h
    simp only [frzS.frzP] at h
    cases h
    have R1 := RelK.freeze R (o := o) (ob := ob) ho (immB_spec hφ.1) (fun g => globSub hcx g)
    rw [freeze_eq] at R1
    exact frzS_sound hcx hr hφ.2 R1
theorem frzR_sound {cx : Cx} (hcx : CxOk cx) {a : Act} {w : World} {x : Option (List Nat)} {s s' : St} {φ : Prop} {κ : Kz} (h : frzR s x = some (s', φ)) (hφ : φ) (R : RelK cx κ s a w) : ∃ κ', RelK cx κ' s' a w := by
 cases x with
 | none => cases h
 | some l => exact frzS_sound hcx h hφ R
def fzT (l : List Tmp) (s : St) : Option (St × Prop) := match l with
 | [] => some (s, True)
 | t :: r => frzR s (reach 500 s.H (AV.rl.rls ((t :: r).map s.ρ)) [])
theorem fzT_sound {cx : Cx} (hcx : CxOk cx) {a : Act} {w : World} {l : List Tmp} {s s' : St} {φ : Prop} {κ : Kz} (h : fzT l s = some (s', φ)) (hφ : φ) (R : RelK cx κ s a w) : ∃ κ', RelK cx κ' s' a w := by
 cases l with
 | nil => cases h; exact ⟨κ, R⟩
 | cons t r => exact frzR_sound hcx h hφ R
def preF (cx : Cx) (A : An) (s : St) (cl : Call) : Operand -> Option (Option (St × Prop))
 | .func k => if A.fra k = true then some (frzR s (reach 500 s.H (AV.rl.rls (avOf cx s [] [] cl)) [])) else none
 | _ => none
def preX (cx : Cx) (A : An) (fr : Option (List Nat)) (o : Oper) (s : St) : Option (Option (St × Prop)) := match fr with
 | some _ => none
 | none => match o.op with
  | .call cl => match cl.callee with
   | .value f => preF cx A s cl f
   | _ => none
  | _ => none
def isCV (o : Oper) : Bool := match o.op with
 | .call cl => match cl.callee with
  | .value _ => true
  | _ => false
 | _ => false
theorem stepX_no {cx : Cx} {S : Sig} {A : An} {fr : Option (List Nat)} {ds : List (Option Tmp)} {o : Oper} {s : St} (h : isCV o = false) : stepX cx S A fr ds o s = if wOk cx fr o s = true then sstep cx (frL fr) [] ds o s else none := by
 unfold isCV at h
 unfold stepX
 split
 ·rename_i cl hop
  rw [hop] at h
  have hw : wOk cx fr o s = true := by
   unfold wOk
   cases fr with
   | none => rfl
   | some g => simp only [hop]
  simp only at h
  split
  ·rename_i f hcl
   rw [hcl] at h
   cases h
  ·rw [if_pos hw]
 ·rfl
theorem stepX_get {cx : Cx} {S : Sig} {A : An} {fr : Option (List Nat)} {ds : List (Option Tmp)} {o : Oper} {s : St} (h : isCV o = false) {r : St × Prop} (e : stepX cx S A fr ds o s = some r) : wOk cx fr o s = true /\ sstep cx (frL fr) [] ds o s = some r := by
 rw [stepX_no h] at e
 split at e
 ·rename_i hw; exact ⟨hw, e⟩
 ·cases e
theorem stepX_put {cx : Cx} {S : Sig} {A : An} {fr : Option (List Nat)} {ds : List (Option Tmp)} {o : Oper} {s : St} (h : isCV o = false) {r : St × Prop} (hw : wOk cx fr o s = true) (e : sstep cx (frL fr) [] ds o s = some r) : stepX cx S A fr ds o s = some r := by
 rw [stepX_no h, if_pos hw, e]
theorem wOk_ne {cx : Cx} {fr : Option (List Nat)} {o : Oper} {s : St} (h : opCls o.op ≠ .store) : wOk cx fr o s = true := by
 unfold wOk
 split
 ·rfl
 ·split
  ·rename_i hop; rw [hop] at h; exact absurd rfl h
  ·rfl
theorem preX_no {cx : Cx} {A : An} {fr : Option (List Nat)} {o : Oper} {s : St} (h : isCV o = false) : preX cx A fr o s = none := by
 unfold isCV at h
 unfold preX
 cases fr with
 | some _ => rfl
 | none =>
  simp only
  split
  ·rename_i cl hop
   rw [hop] at h
   simp only at h
   split
   ·rename_i f hcl
    rw [hcl] at h
    cases h
   ·rfl
  ·rfl
theorem preX_ok {cx cx' : Cx} (hcx : CxOk cx) {A : An} {fr : Option (List Nat)} {o : Oper} {s s' : St} {φ : Prop} {κ : Kz} {a : Act} {w : World} (h : preX cx' A fr o s = some (some (s', φ))) (hφ : φ) (R : RelK cx κ s a w) : ∃ κ', RelK cx κ' s' a w := by
 unfold preX at h
 split at h
 ·cases h
 split at h
 case h_2 => cases h
 split at h
 case h_2 => cases h
 unfold preF at h
 split at h
 case h_2 => cases h
 split at h
 case isFalse => cases h
 exact frzR_sound hcx (Option.some.inj h) hφ R
theorem isCV_spec {o : Oper} (h : isCV o = true) : ∃ cl f, o.op = .call cl /\ cl.callee = .value f := by
 unfold isCV at h
 split at h
 ·rename_i cl hop
  split at h
  ·rename_i f hcl; exact ⟨cl, f, hop, hcl⟩
  ·cases h
 ·cases h
theorem stepX_cv {cx : Cx} {S : Sig} {A : An} {fr : Option (List Nat)} {ds : List (Option Tmp)} {o : Oper} {s : St} {cl : Call} {f : Operand} (h1 : o.op = .call cl) (h2 : cl.callee = .value f) (hp : qId A o = none) :
  stepX cx S A fr ds o s = (match gcond ds s.ρ o.guard with
   | some true => stCall cx S A fr o cl f s (stripV (aev cx s.ρ f))
   | some false => stNo cx fr o s
   | none => none) := by
 simp only [stepX, h1, h2, hp, stX]
theorem qId_spec {A : An} {o : Oper} {k : FuncId} (h : qId A o = some k) : ∃ cl, o.op = .call cl /\ cl.callee = .value (.func k) /\ o.dst.isSome = true := by
 unfold qId at h
 split at h
 case h_2 => cases h
 rename_i cl hop
 split at h
 case h_2 => cases h
 rename_i k' hcl
 split at h
 ·rename_i hk; cases h; exact ⟨cl, hop, hcl, hk.2⟩
 ·cases h
theorem stepX_q {cx : Cx} {S : Sig} {A : An} {fr : Option (List Nat)} {ds : List (Option Tmp)} {o : Oper} {s : St} {cl : Call} {k : FuncId} (h1 : o.op = .call cl) (h2 : cl.callee = .value (.func k)) (hp : qId A o = some k) :
  stepX cx S A fr ds o s = (match gcond ds s.ρ o.guard with
   | some true => stP cx o cl k s (qR S A s.H (o.dst.getD 0) k (avOf cx s [] [] cl))
   | some false => some (putv s o.dst (wrapg o.guard false (noV cx.P o.type)), True)
   | none => none) := by
 simp only [stepX, h1, h2, hp, stX]
def isHV (A : An) (o : Oper) : Bool := isCV o && (qId A o).isNone
theorem isHV_spec {A : An} {o : Oper} (h : isHV A o = true) : isCV o = true /\ qId A o = none := by
 simp only [isHV, Bool.and_eq_true, Option.isNone_iff_eq_none] at h
 exact h
theorem qId_cv {A : An} {o : Oper} {k : FuncId} (h : qId A o = some k) : isCV o = true := by
 obtain ⟨cl, h1, h2, _⟩ := qId_spec h
 simp [isCV, h1, h2]
theorem sstep_orc {cx : Cx} {fr : List Nat} {orc : List (Tmp × AV)} {ds : List (Option Tmp)} {o : Oper} {s : St} (h : isCV o = false) : sstep cx fr orc ds o s = sstep cx fr [] ds o s := by
 unfold isCV at h
 unfold sstep
 cases gcond ds s.ρ o.guard with
 | none => rfl
 | some c =>
  simp only
  split <;> first | rfl | skip
  rename_i cl hop
  rw [hop] at h
  simp only at h
  split <;> first | rfl | skip
  rename_i f hcl
  rw [hcl] at h
  cases h
theorem HC.toPC {P : Program} {G : Nat -> AV} {k : FuncId} {args : List AV} {r : AV} {l' : HL} {pins : List Nat} (h : HC P G k args [] r l' pins) (hr : r.pure = true) : PC P G k args r := by
 refine ⟨h.1, fun w im vs him hg hsz hv => ?_⟩
 have := h.2 w ⟨noμ, im⟩ vs him hg hsz hv (fun o ob h => by cases h) (fun o o' ob ob' x x' h => by cases h)
 refine this.mono fun e w' ⟨u, κ', he, g1, g2, g3, g4, g5, g6, g7, g8, g9, _⟩ => ?_
 exact ⟨u, κ'.im, he, g1, fun b hb => (g2 b hb).elim .inl (fun h => h.elim (fun ⟨o, ob, x, h, _⟩ => by cases h) .inr), g3, g4.pure_of hr, g5, g6, g7, g8, fun b hb => g9 b hb fun ⟨o, ob, x, h, _⟩ => by cases h⟩
theorem q_inv {cx : Cx} {S : Sig} {A : An} {fr : Option (List Nat)} {ds : List (Option Tmp)} {o : Oper} {s s' : St} {k : FuncId} {φ : Prop} (hp : qId A o = some k) (h : stepX cx S A fr ds o s = some (s', φ)) :
  ∃ (c : Bool) (r : AV), s' = putv s o.dst (wrapg o.guard c r) /\ gcond ds s.ρ o.guard = some c /\
   (∀ t : St, (∀ z ∈ looks ds o, s.ρ z = t.ρ z) -> (s.H = t.H \/ A.pur k = true) -> stepX cx S A fr ds o t = some (putv t o.dst (wrapg o.guard c r), φ)) /\
   (c = true -> ∃ cl ψ, o.op = .call cl /\ cl.callee = .value (.func k) /\ qR S A s.H (o.dst.getD 0) k (avOf cx s [] [] cl) = some (r, ψ) /\ φ = (ψ /\ allB cx s.ρ (.func k :: cl.args.toList) = true)) := by
 obtain ⟨cl, h1, h2, _⟩ := qId_spec hp
 have hopn : opnds o.op = .func k :: cl.args.toList := by rw [h1]; simp only [opnds, h2]
 have hae : ∀ t : St, (∀ z ∈ looks ds o, s.ρ z = t.ρ z) -> ∀ z ∈ opnds o.op, aev cx s.ρ z = aev cx t.ρ z := fun t ht z hz => aev_agree fun t' ht' => ht t' (looks_op hz ht')
 have hav : ∀ t : St, (∀ z ∈ looks ds o, s.ρ z = t.ρ z) -> avOf cx s [] [] cl = avOf cx t [] [] cl := fun t ht => by
  unfold avOf
  congr 2
  exact List.map_congr_left fun z hz => by rw [hae t ht z (by rw [hopn]; exact List.mem_cons_of_mem _ hz)]
 have hB : ∀ t : St, (∀ z ∈ looks ds o, s.ρ z = t.ρ z) -> allB cx s.ρ (.func k :: cl.args.toList) = allB cx t.ρ (.func k :: cl.args.toList) := fun t ht => allB_agree fun z hz => hae t ht z (by rw [hopn]; exact hz)
 have hgc : ∀ t : St, (∀ z ∈ looks ds o, s.ρ z = t.ρ z) -> gcond ds t.ρ o.guard = gcond ds s.ρ o.guard := fun t ht => (gcond_agree ht).symm
 rw [stepX_q h1 h2 hp] at h
 cases hg : gcond ds s.ρ o.guard with
 | none => rw [hg] at h; cases h
 | some c =>
  rw [hg] at h
  cases c with
  | false =>
   cases h
   exact ⟨false, noV cx.P o.type, rfl, rfl, fun t ht _ => by rw [stepX_q h1 h2 hp, hgc t ht, hg], fun h => by cases h⟩
  | true =>
   simp only at h
   cases hx : qR S A s.H (o.dst.getD 0) k (avOf cx s [] [] cl) with
   | none => rw [hx] at h; cases h
   | some y =>
    obtain ⟨r, χ⟩ := y
    rw [hx] at h
    cases h
    refine ⟨true, r, rfl, rfl, fun t ht hH => ?_, fun _ => ⟨cl, χ, h1, h2, hx, rfl⟩⟩
    have e : qR S A t.H (o.dst.getD 0) k (avOf cx t [] [] cl) = some (r, χ) := by
     rw [<- hav t ht]
     rcases hH with hH | hH
     ·rw [<- hH]; exact hx
     ·rw [<- hx]; simp only [qR, if_pos hH]
    rw [stepX_q h1 h2 hp, hgc t ht, hg]
    simp only [e, stP, hB t ht]
theorem pc_sstep {cx : Cx} {S : Sig} (hS : SigF cx.P cx.G S) {A : An} {fr : Option (List Nat)} {ds : List (Option Tmp)} {o : Oper} {s s' : St} {k : FuncId} {φ : Prop} (hp : qId A o = some k) (hpu : A.pur k = true) (h : stepX cx S A fr ds o s = some (s', φ)) (hφ : φ) :
  ∃ (c : Bool) (r : AV) (ψ : Prop), ψ /\ s' = putv s o.dst (wrapg o.guard c r) /\
   (∀ (t : St) (orc : List (Tmp × AV)) (fr2 : List Nat), (∀ z ∈ looks ds o, s.ρ z = t.ρ z) -> orcGet orc (o.dst.getD 0) = some r -> sstep cx fr2 orc ds o t = some (putv t o.dst (wrapg o.guard c r), ψ)) /\
   (∀ t : St, (∀ z ∈ looks ds o, s.ρ z = t.ρ z) -> stepX cx S A fr ds o t = some (putv t o.dst (wrapg o.guard c r), φ)) := by
 obtain ⟨c, r, e1, hg, e2, e3⟩ := q_inv hp h
 obtain ⟨cl, h1, h2, _⟩ := qId_spec hp
 have hopn : opnds o.op = .func k :: cl.args.toList := by rw [h1]; simp only [opnds, h2]
 have hae : ∀ t : St, (∀ z ∈ looks ds o, s.ρ z = t.ρ z) -> ∀ z ∈ opnds o.op, aev cx s.ρ z = aev cx t.ρ z := fun t ht z hz => aev_agree fun t' ht' => ht t' (looks_op hz ht')
 have hav : ∀ t : St, (∀ z ∈ looks ds o, s.ρ z = t.ρ z) -> avOf cx s [] [] cl = avOf cx t [] [] cl := fun t ht => by
  unfold avOf
  congr 2
  exact List.map_congr_left fun z hz => by rw [hae t ht z (by rw [hopn]; exact List.mem_cons_of_mem _ hz)]
 have hB : ∀ t : St, (∀ z ∈ looks ds o, s.ρ z = t.ρ z) -> allB cx s.ρ (.func k :: cl.args.toList) = allB cx t.ρ (.func k :: cl.args.toList) := fun t ht => allB_agree fun z hz => hae t ht z (by rw [hopn]; exact hz)
 have hgc : ∀ t : St, (∀ z ∈ looks ds o, s.ρ z = t.ρ z) -> gcond ds t.ρ o.guard = gcond ds s.ρ o.guard := fun t ht => (gcond_agree ht).symm
 refine ⟨c, r, c = true -> allB cx s.ρ (.func k :: cl.args.toList) = true /\ AV.pure.pures (avOf cx s [] [] cl) = true /\ PC cx.P cx.G k (avOf cx s [] [] cl) r, fun hc => ?_, e1, fun t orc fr2 ht ho => ?_, fun t ht => e2 t ht (.inr hpu)⟩
 ·obtain ⟨cl', ψ, h1', _, hx, rfl⟩ := e3 hc
  rw [h1] at h1'
  cases h1'
  simp only [qR, if_pos hpu, pcR, pcQ] at hx
  split at hx
  case h_2 => cases hx
  rename_i r' l' χ' hF
  split at hx
  case isFalse => cases hx
  rename_i hpr
  cases hx
  simp only [Bool.and_eq_true] at hpr
  exact ⟨hφ.2, hpr.1, HC.toPC (hS _ _ _ _ _ _ hF hφ.1).hc hpr.2⟩
 ·unfold sstep
  rw [hgc t ht, hg]
  simp only [h1, h2, scall]
  show (match stripV (.fn (.func k) [] []) with | .fn (.func k) first cap => _ | _ => none) = _
  simp only [stripV, ho]
  rw [hB t ht, hav t ht]
  rfl
variable {cx : Cx} {κ : Kz} {s : St} {a : Act} {w : World}
theorem surv_mem' {d : List Nat} {l' : HL} {o : Nat} : o ∈ surv d l' ↔ o ∈ dom l' /\ o ∈ d := by simp [surv]
theorem rl_pure' {x : AV} (h : x.pure = true) : x.rl = [] := by
 have := (refs_rl (D := fun _ => false) x).1 (pure_refs h)
 cases hx : x.rl with
 | nil => rfl
 | cons o r => have := this o (by simp [hx]); cases this
theorem ren_pure' {τ : Nat -> Nat} {x : AV} (h : x.pure = true) : ren τ x = x := by
 have h1 := rl_pure' h
 have h2 := ren_ren (σ := fun o => o) (τ := τ) x (by rw [h1]; intro o ho; cases ho)
 rw [ren_id] at h2
 exact h2
theorem RelK.callee (R : RelK cx κ s a w) {k : FuncId} {first cap : List AV} {cl : Call} {f : Operand} (hB : allB cx s.ρ (f :: cl.args.toList) = true) (hf : stripV (Aw.aev cx s.ρ f) = .fn (.func k) first cap) :
  ∃ as bs, a.eval f = .func (.func k) as bs /\ (as ++ cl.args.map a.eval ++ bs).size = (avOf cx s first cap cl).length /\
   ∀ (i : Nat) (x : AV) (v : Value), (avOf cx s first cap cl)[i]? = some x -> (as ++ cl.args.map a.eval ++ bs)[i]? = some v -> RV κ s.H w x v := by
 have hop := R.opnd hB
 have hfv := hop f (by simp)
 rw [hf] at hfv
 generalize hev : a.eval f = vf at hfv
 cases hfv with
 | imm h => cases h
 | fn _ _ _ as bs hl hl' h1 h2 =>
  refine ⟨as, bs, rfl, by simp [avOf, hl, hl'], fun i x v hx hv => ?_⟩
  unfold avOf at hx
  rw [List.append_assoc, List.getElem?_append] at hx
  rw [Array.append_assoc, Array.getElem?_append, hl] at hv
  split at hx
  ·rename_i hi
   rw [if_pos hi] at hv
   exact h1 i x v hx hv
  ·rename_i hi
   rw [if_neg hi] at hv
   rw [List.getElem?_append] at hx
   rw [Array.getElem?_append] at hv
   simp only [List.length_map, Array.length_toList, Array.size_map] at hx hv
   split at hx
   ·rename_i hi2
    rw [if_pos hi2] at hv
    rw [List.getElem?_map, Array.getElem?_toList] at hx
    rw [Array.getElem?_map] at hv
    obtain ⟨y, hy, rfl⟩ := Option.map_eq_some_iff.1 hx
    obtain ⟨y', hy', rfl⟩ := Option.map_eq_some_iff.1 hv
    rw [hy] at hy'
    cases hy'
    exact hop y (by simpa using .inr (Array.mem_of_getElem? hy))
   ·rename_i hi2
    rw [if_neg hi2] at hv
    exact h2 _ x v hx hv
set_option linter.unusedVariables false in
theorem stH_sstepH {S : Sig} (hS : SigF cx.P cx.G S) {fr : Option (List Nat)} {o : Oper} {cl : Call} {f : Operand} (h1 : o.op = .call cl) (h2 : cl.callee = .value f) {k : FuncId} {first cap : List AV} (hf : stripV (aev cx s.ρ f) = .fn (.func k) first cap)
  {h : HO} {ψ : Prop} (hk : hoK S s.H (o.dst.getD 0) k (avOf cx s first cap cl) = some (h, ψ)) {s' : St} {φ : Prop} (hs : stH cx fr o cl f s (some (h, ψ)) = some (s', φ)) (hφ : φ) :
  clr fr s h = true /\ φ = (ψ /\ allB cx s.ρ (f :: cl.args.toList) = true) /\ ∃ φ', φ' /\ scallH cx h true o cl f s = some (s', φ') := by
 simp only [stH] at hs
 split at hs
 case isFalse => cases hs
 rename_i hc
 cases hs
 refine ⟨hc, rfl, allB cx s.ρ (f :: cl.args.toList) = true /\ HOk cx h k (avOf cx s first cap cl) s.H, ⟨hφ.2, hoK_ok hS hk hφ.1⟩, ?_⟩
 simp only [scallH, hf]
 rfl
theorem stepX_sound (hcx : CxOk cx) (R : RelK cx κ s a w) {S : Sig} (hS : SigF cx.P cx.G S) {A : An} {fr : Option (List Nat)} {ops : Array Oper} {o : Oper} (hn : ∀ o ∈ ops, ∀ d, o.dst = some d -> cx.ok d) (ho : o ∈ ops) {s' : St} {φ : Prop}
  (h : stepX cx S A fr (ops.toList.map (·.dst)) o s = some (s', φ)) (hφ : φ) :
  (Region.wanted o (yielded ops a.tmps) = true /\ Does cx o a w s') \/ (Region.wanted o (yielded ops a.tmps) = false /\ Rel cx s' (a.put o.dst undef) w) := by
 cases hcv : isCV o with
 | false => exact sstep_sound hcx R hn ho (stepX_get hcv h).2 hφ
 | true =>
  cases hpc : qId A o with
  | some k =>
   obtain ⟨c, r, rfl, hg, _, e3⟩ := q_inv hpc h
   have hw := gcond_sound R (o := o) hn hg
   cases c with
   | false =>
    refine .inr ⟨hw, ?_⟩
    cases hgd : o.guard with
    | none => rw [hgd] at hg; cases hg
    | some g => exact ⟨κ, R.putv (hn o ho) RV.skip⟩
   | true =>
    refine .inl ⟨hw, ?_⟩
    obtain ⟨cl, ψ, h1, h2, hx, rfl⟩ := e3 rfl
    by_cases hpu : A.pur k = true
    ·obtain ⟨c, r', ψ', hψ', er, k1, _⟩ := pc_sstep hS hpc hpu h hφ
     rcases sstep_sound hcx R hn ho (k1 s [(o.dst.getD 0, r')] [] (fun _ _ => rfl) (by simp [orcGet])) hψ' with ⟨_, hD⟩ | ⟨hw', _⟩
     ·rw [er]; exact hD
     ·rw [hw] at hw'; cases hw'
    ·have hf : stripV (aev cx s.ρ (.func k)) = .fn (.func k) [] [] := rfl
     by_cases hbor : A.bor k = true
     ·simp only [qR, if_neg hpu, if_pos hbor] at hx
      obtain ⟨as, bs, e1, e2, e3⟩ := R.callee hφ.2 hf
      obtain ⟨hcf, hcall⟩ := brwK_sound hcx R hS hx hφ.1 e2 e3
      have hrun : (execOp a.eval o).run cx.P w = .ok (.enter k (as ++ cl.args.map a.eval ++ bs)) w := by
       simp only [execOp, h1]
       rw [resolve_value h2 e1]
       exact hcf _ w
      intro Q K2 hK
      refine wpIn_enter hrun (hcall.mono fun e w' ⟨u, he, R2, hu⟩ => ?_)
      subst he
      exact ⟨_, rfl, hK _ _ ⟨_, R2.putv (hn o ho) (RV.wrapg hu)⟩⟩
     ·simp only [qR, if_neg hpu, if_neg hbor, roK] at hx
      cases hr : reach 500 s.H (AV.rl.rls (avOf cx s [] [] cl)) [] with
      | none => rw [hr] at hx; cases hx
      | some seen =>
       rw [hr] at hx
       simp only [roS, roR] at hx
       split at hx
       case h_2 => cases hx
       rename_i r0 l' χ hF
       split at hx
       case isFalse => cases hx
       rename_i hpr
       cases hx
       obtain ⟨⟨hχ, hlen, hfr, hl'⟩, hB⟩ := hφ
       have hO := mkHO_ok hr hlen (hS _ _ _ _ _ _ hF hχ) hfr
       have hO0 := hO.to0
       obtain ⟨hnd, _, _, hcl⟩ := reach_spec hr (by simp) (by simp)
       have hdl : dom (obsOf s.H (nums 100000 seen) seen) = (nums 100000 seen).map (·.2) := by
        rw [dom_obsOf fun o ho => by obtain ⟨ob, h, _⟩ := hcl o ho; exact ⟨ob, h⟩, nums_snd hnd]
       have hlost : (mkHO (avOf cx s [] [] cl) seen s.H (o.dst.getD 0) r l').lost = [] := by
        unfold HO.lost
        have : (dom (obsOf s.H (nums 100000 seen) seen)).filter (fun o => !(surv ((nums 100000 seen).map (·.2)) l').contains o) = [] := by
         rw [List.filter_eq_nil_iff]
         intro p hp
         have : p ∈ surv ((nums 100000 seen).map (·.2)) l' := surv_mem'.2 ⟨by rw [hl']; exact hp, by rw [<- hdl]; exact hp⟩
         simp only [Bool.not_eq_true', Bool.not_eq_false]
         rw [List.contains_iff_mem.2 this]
        exact (congrArg (List.map (tau (mkHO (avOf cx s [] [] cl) seen s.H (o.dst.getD 0) r l').τ)) this)
       have hH : newH (mkHO (avOf cx s [] [] cl) seen s.H (o.dst.getD 0) r l') s.H = s.H := by
        funext p
        unfold newH
        split
        ·rename_i ob hob
         obtain ⟨q, ob0, k1, k2, k3⟩ := tau_find hob
         have := hO0.old (q, ob0) (by show (q, ob0) ∈ obsOf s.H (nums 100000 seen) seen; rw [<- hl']; exact k1)
         rw [<- k2, this, k3]
        ·rfl
       have hst : sstepH cx [(o.dst.getD 0, mkHO (avOf cx s [] [] cl) seen s.H (o.dst.getD 0) r l')] [] (ops.toList.map (·.dst)) o s = some (putv s o.dst (wrapg o.guard true r), allB cx s.ρ (.func k :: cl.args.toList) = true /\ HOk cx (mkHO (avOf cx s [] [] cl) seen s.H (o.dst.getD 0) r l') k (avOf cx s [] [] cl) s.H) := by
        simp only [sstepH, h1, h2, orcH, if_true, hg, scallH, hf]
        rw [hlost]
        simp only [dropAll]
        rw [hH]
        have : ren (tau (mkHO (avOf cx s [] [] cl) seen s.H (o.dst.getD 0) r l').τ) (mkHO (avOf cx s [] [] cl) seen s.H (o.dst.getD 0) r l').r = r := ren_pure' hpr
        rw [this]
        rfl
       rcases sstepH_sound hcx R hn ho hst ⟨hB, hO⟩ with ⟨_, hD⟩ | ⟨hw', _⟩
       ·exact hD
       ·rw [hw] at hw'; cases hw'
  | none =>
  obtain ⟨cl, f, h1, h2⟩ := isCV_spec hcv
  rw [stepX_cv h1 h2 hpc] at h
  cases hg : gcond (ops.toList.map (·.dst)) s.ρ o.guard with
  | none => rw [hg] at h; cases h
  | some c =>
   rw [hg] at h
   cases c with
   | false =>
    simp only [stNo] at h
    split at h
    case h_2 => cases h
    split at h
    case isFalse => cases h
    rename_i hgs
    cases h
    have : sstepH cx [(o.dst.getD 0, ⟨[], [], .junk, [], [], []⟩)] [] (ops.toList.map (·.dst)) o s = some (putv s o.dst (.gd false .junk), o.guard.isSome = true) := by
     simp only [sstepH, h1, h2, orcH, if_true, hg, scallH]
    have mv : ∀ a' w', Rel cx (putv s o.dst (.gd false .junk)) a' w' -> Rel cx (putv s o.dst (.gd false (noV cx.P o.type))) a' w' := fun a' w' ⟨κ', R'⟩ => ⟨κ', gdx_rel R'⟩
    rcases sstepH_sound hcx R hn ho this hgs with ⟨z1, z3⟩ | ⟨z1, z2⟩
    ·exact .inl ⟨z1, fun Q K hK => z3 Q K fun a' w' h => hK a' w' (mv a' w' h)⟩
    ·exact .inr ⟨z1, mv _ _ z2⟩
   | true =>
    simp only [stCall] at h
    split at h
    case h_2 => cases h
    rename_i k first cap hf
    split at h
    ·-- it borrows
     cases hb : brwK S s.H k (avOf cx s first cap cl) with
     | none => rw [hb] at h; cases h
     | some x =>
      obtain ⟨r, ψ⟩ := x
      rw [hb] at h
      cases h
      refine .inl ⟨gcond_sound R (o := o) hn hg, ?_⟩
      obtain ⟨as, bs, e1, e2, e3⟩ := R.callee hφ.2 hf
      obtain ⟨hcf, hcall⟩ := brwK_sound hcx R hS hb hφ.1 e2 e3
      have hrun : (execOp a.eval o).run cx.P w = .ok (.enter k (as ++ cl.args.map a.eval ++ bs)) w := by
       simp only [execOp, h1]
       rw [resolve_value h2 e1]
       exact hcf _ w
      intro Q K2 hK
      refine wpIn_enter hrun (hcall.mono fun e w' ⟨u, he, R2, hu⟩ => ?_)
      subst he
      exact ⟨_, rfl, hK _ _ ⟨_, R2.putv (hn o ho) (RV.wrapg hu)⟩⟩
    ·cases hk : hoK S s.H (o.dst.getD 0) k (avOf cx s first cap cl) with
     | none => rw [hk] at h; cases h
     | some x =>
      obtain ⟨hh, ψ⟩ := x
      rw [hk] at h
      obtain ⟨_, _, φ', hφ', hs⟩ := stH_sstepH hS h1 h2 hf hk h hφ
      have : sstepH cx [(o.dst.getD 0, hh)] [] (ops.toList.map (·.dst)) o s = some (s', φ') := by
       simp only [sstepH, h1, h2, orcH, if_true, hg, hs]
      exact sstepH_sound hcx R hn ho this hφ'
/-! ### Drawn regions -/
def anyX (A : An) : List Oper -> Bool
 | [] => false
 | o :: l => if isApp o.op || isHV A o then true else anyX A l
def isQ (A : An) (o : Oper) : Bool := if isCV o then (qId A o).isSome else opCls o.op == .P || opCls o.op == .L
def isBR (A : An) (o : Oper) : Bool := match qId A o with
 | some k => !A.pur k
 | none => false
def mkD (fr : List Nat) (o : Oper) : Bool := match o.dst with
 | some d => fr.contains (d + 700000)
 | none => false
def commX (A : An) (fl wm : Bool) (fr : List Nat) (ds : List (Option Tmp)) (x y : Oper) : Bool :=
 if isQ A x && isQ A y then apartA ds x y
 else if wm && ((opCls x.op == .store && x.dst == none && !isCV y && opCls y.op == .L) || (!isCV x && opCls x.op == .L && opCls y.op == .store && y.dst == none)) then apartA ds x y
 else if wm && ((opCls x.op == .store && x.dst == none && opCls y.op == .A && mkD fr y) || (opCls x.op == .A && mkD fr x && opCls y.op == .store && y.dst == none)) then apartA ds x y
 else if fl then (if isHV A x then apartA ds x y && okY fr ds y else if isHV A y then apartA ds x y && okY fr ds x else !isBR A x && !isBR A y && (commB fr ds x y || commA fr ds x y))
 else !isHV A x && !isHV A y && !isBR A x && !isBR A y && commB fr ds x y
theorem okY_noCV {fr : List Nat} {ds : List (Option Tmp)} {y : Oper} (h : okY fr ds y = true) : isCV y = false := by
 have := okY_isY h
 unfold isY at this
 unfold isCV
 split at this <;> first | (rename_i h; rw [h]) | cases this
variable {S : Sig} {A : An} {fr : List Nat} {ds : List (Option Tmp)} {x y o : Oper} {s1 s2 : St} {φ φ1 φ2 : Prop}
theorem isHC_one {d : Nat} (hx : isCV x = true) (hd : x.dst.getD 0 = d) : isHC [d] x = true := by
 obtain ⟨cl, f, h1, h2⟩ := isCV_spec hx
 simp [isHC, h1, h2, hd]
theorem isHC_no {hk : List Tmp} (hx : isCV x = false) : isHC hk x = false := by
 unfold isCV at hx
 unfold isHC
 split
 ·rename_i cl h1
  rw [h1] at hx
  simp only at hx
  split
  ·rename_i f h2; rw [h2] at hx; cases hx
  ·rfl
 ·rfl
theorem stepD_nCV {oh : List (Tmp × HO)} (hx : isCV x = false) : stepD cx fr oh [] ds x s = sstep cx fr [] ds x s := stepD_no (isHC_no hx)
theorem callX_inv (hx0 : isHV A x = true) (hS : SigF cx.P cx.G S) (h : stepX cx S A (some fr) ds x s = some (s1, φ)) (hφ : φ) :
  (∃ r, s1 = putv s x.dst r /\ ∀ t : St, (∀ z ∈ looks ds x, s.ρ z = t.ρ z) -> s.H = t.H -> stepX cx S A (some fr) ds x t = some (putv t x.dst r, φ)) \/
  (∃ (hh : HO) (φ' : Prop), φ' /\ stepD cx fr [(x.dst.getD 0, hh)] [] ds x s = some (s1, φ') /\
   ∀ (t t' : St), (∀ z ∈ looks ds x, s.ρ z = t.ρ z) -> s.H = t.H -> stepD cx fr [(x.dst.getD 0, hh)] [] ds x t = some (t', φ') -> stepX cx S A (some fr) ds x t = some (t', φ)) := by
 obtain ⟨hx, hpc⟩ := isHV_spec hx0
 obtain ⟨cl, f, h1, h2⟩ := isCV_spec hx
 have hae : ∀ t : St, (∀ z ∈ looks ds x, s.ρ z = t.ρ z) -> ∀ z ∈ opnds x.op, aev cx s.ρ z = aev cx t.ρ z := fun t ht z hz => aev_agree fun t' ht' => ht t' (looks_op hz ht')
 have hopn : opnds x.op = f :: cl.args.toList := by rw [h1]; simp only [opnds, h2]
 have hav : ∀ t : St, (∀ z ∈ looks ds x, s.ρ z = t.ρ z) -> ∀ first cap, avOf cx s first cap cl = avOf cx t first cap cl := fun t ht first cap => by
  unfold avOf
  congr 2
  exact List.map_congr_left fun z hz => by rw [hae t ht z (by rw [hopn]; exact List.mem_cons_of_mem _ hz)]
 have hB : ∀ t : St, (∀ z ∈ looks ds x, s.ρ z = t.ρ z) -> allB cx s.ρ (f :: cl.args.toList) = allB cx t.ρ (f :: cl.args.toList) := fun t ht => allB_agree fun z hz => hae t ht z (by rw [hopn]; exact hz)
 have h0 := h
 rw [stepX_cv h1 h2 hpc] at h
 cases hg : gcond ds s.ρ x.guard with
 | none => rw [hg] at h; cases h
 | some c =>
  rw [hg] at h
  cases c with
  | false => simp only [stNo] at h; cases h
  | true =>
   simp only [stCall] at h
   split at h
   case h_2 => cases h
   rename_i k first cap hf
   have hfe : ∀ t : St, (∀ z ∈ looks ds x, s.ρ z = t.ρ z) -> stripV (aev cx t.ρ f) = .fn (.func k) first cap := fun t ht => by rw [<- hae t ht f (by rw [hopn]; simp), hf]
   split at h
   ·rename_i hbor
    left
    cases hb : brwK S s.H k (avOf cx s first cap cl) with
    | none => rw [hb] at h; cases h
    | some q =>
     obtain ⟨r, ψ⟩ := q
     rw [hb] at h
     cases h
     refine ⟨_, rfl, fun t ht hH => ?_⟩
     rw [stepX_cv h1 h2 hpc, <- gcond_agree (o := x) ht, hg]
     simp only [stCall, hfe t ht, if_pos hbor]
     rw [<- hH, <- hav t ht, hb]
     simp only [stB, hB t ht]
   ·rename_i hbor
    right
    cases hk : hoK S s.H (x.dst.getD 0) k (avOf cx s first cap cl) with
    | none => rw [hk] at h; cases h
    | some q =>
     obtain ⟨hh, ψ⟩ := q
     rw [hk] at h
     obtain ⟨hc, hφe, φ', hφ', hs⟩ := stH_sstepH hS h1 h2 hf hk h hφ
     have hD : ∀ t : St, gcond ds t.ρ x.guard = some true -> stepD cx fr [(x.dst.getD 0, hh)] [] ds x t = if clearOf fr t.ρ (hh.badG fr) = true then scallH cx hh true x cl f t else none := fun t ht => by
      simp only [stepD, h1, h2, orcH, if_true, ht]
     refine ⟨hh, φ', hφ', ?_, fun t t' ht hH he => ?_⟩
     ·have hc2 : clearOf fr s.ρ (hh.badG fr) = true := hc
      rw [hD s hg, if_pos hc2, hs]
     ·have hgt : gcond ds t.ρ x.guard = some true := by rw [<- gcond_agree (o := x) ht, hg]
      rw [hD t hgt] at he
      split at he
      case isFalse => cases he
      rename_i hct
      rw [stepX_cv h1 h2 hpc, hgt]
      simp only [stCall, hfe t ht, if_neg hbor]
      rw [<- hH, <- hav t ht, hk]
      have hct' : clr (some fr) t hh = true := hct
      simp only [stH, hct', if_true]
      simp only [scallH, hfe t ht, Option.some.injEq, Prod.mk.injEq] at he
      rw [<- he.1, hφe, hB t ht]
end Go.Aw

/- copy. Own work. -/
namespace Go.Aw
open Go
section
variable {cx : Cx} {κ : Kz} {s : St} {a : Act} {w : World} {P : Program}
theorem store_cells' {o i b base n : Nat} (c0 : Nat) : ∀ (xs : List AV) (vs : List Value) (k : Nat) (s : St) (w : World) (ob : Ob) (e : AV), RelK cx κ s a w -> s.H o = some ob -> κ.μ o = some (b, base, n) -> ob.es[i]? = some e -> c0 + k + xs.length ≤ ob.sz ->
  vs.length = xs.length -> (∀ (j : Nat) (x : AV) (u : Value), xs[j]? = some x -> vs[j]? = some u -> RV κ s.H w x u /\ u.oneCell' = true) ->
  ∃ w', (storeCells ⟨b, base + i * ob.sz + c0, none⟩ vs k).run P w = .ok () w' /\ RelK cx κ { s with H := upd s.H o (some { ob with es := ob.es.set i (putl e (c0 + k) xs) }) } a w' /\ ∀ b2, b2 ≠ b -> w'.heap[b2]? = w.heap[b2]?
 | [], [], k, s, w, ob, e, R, hH, hμ, he, _, _, _ => by
  refine ⟨w, rfl, ?_, fun _ _ => rfl⟩
  have h1 : ob.es.set i e = ob.es := by
   apply List.ext_getElem?
   intro j
   rw [List.getElem?_set]
   split
   ·rename_i hij
    subst hij
    have := (List.getElem?_eq_some_iff.1 he).1
    rw [if_pos this, he]
   ·rfl
  simp only [putl, h1, upd_self hH]
  exact R
 | [], _ :: _, _, _, _, _, _, _, _, _, _, _, hl, _ => by simp at hl
 | _ :: _, [], _, _, _, _, _, _, _, _, _, _, hl, _ => by simp at hl
 | x :: xs, v :: vs, k, s, w, ob, e, R, hH, hμ, he, hc, hl, hr => by
  obtain ⟨hx, h1⟩ := hr 0 x v rfl rfl
  obtain ⟨h0, _⟩ := R.rep o ob hH
  have hlen : c0 + k < e.cells.length := by rw [h0 i e he]; simp at hc; omega
  have hx0 := List.getElem?_eq_getElem hlen
  obtain ⟨u0, g1, g2, g3, g4⟩ := R.at_cell hH hμ he hx0
  have R' := R.setCell hH hμ he hx0 (one_not_agg hx h1) hx h1
  have he' : (ob.es.set i (put1 e (c0 + k) x))[i]? = some (put1 e (c0 + k) x) := by
   rw [List.getElem?_set]
   have := (List.getElem?_eq_some_iff.1 he).1
   simp [this]
  obtain ⟨w', f1, f2, f3⟩ := store_cells' c0 xs vs (k + 1) { s with H := upd s.H o (some { ob with es := ob.es.set i (put1 e (c0 + k) x) }) } (w.setCell ⟨b, base + i * ob.sz + (c0 + k), none⟩ v)
   {ob with es := ob.es.set i (put1 e (c0 + k) x) } (put1 e (c0 + k) x) R' (upd_same _ _ _) hμ he' (by simp at hc ⊢; omega) (by simpa using hl)
   (fun j y u hy hu => ⟨(R.rv_setCell (e := e) (c := 0) hH hμ _ v (hr (j + 1) y u hy hu).1).2 _, (hr (j + 1) y u hy hu).2⟩)
  refine ⟨w', ?_, ?_, fun b2 hb2 => (f3 b2 hb2).trans (setCell_heap_ne v hb2)⟩
  ·simp only [storeCells, Sem.run_bind]
   rw [Addr.add_lit, run_store _ _ _ _ _ h1, show base + i * ob.sz + c0 + k = base + i * ob.sz + (c0 + k) by omega, g1]
   simp only [g4, Bool.false_eq_true, if_false, Result.andThen_ok]
   exact f1
  ·simp only [upd_upd, List.set_set] at f2
   simp only [putl]
   exact f2
theorem storeCells_shift {b o m : Nat} : ∀ (vs : List Value) (k : Nat), storeCells ⟨b, o, none⟩ vs (m + k) = storeCells ⟨b, o + m, none⟩ vs k
 | [], _ => rfl
 | v :: vs, k => by
  simp only [storeCells, Addr.add_lit]
  rw [show m + k + 1 = m + (k + 1) by omega, storeCells_shift vs (k + 1), show o + (m + k) = o + m + k by omega]
theorem storeCells_app {x : Addr} : ∀ (us vs : List Value) (k : Nat) (w w1 : World), (storeCells x us k).run P w = .ok () w1 -> (storeCells x (us ++ vs) k).run P w = (storeCells x vs (k + us.length)).run P w1
 | [], vs, k, w, w1, h => by cases h; rfl
 | u :: us, vs, k, w, w1, h => by
  simp only [List.cons_append, storeCells, Sem.run_bind] at h ⊢
  cases hh : (store (x.add k) u).run P w with
  | halt h' w' => rw [hh] at h; cases h
  | ok v w2 =>
   rw [hh] at h
   simp only [Result.andThen_ok] at h ⊢
   rw [storeCells_app us vs (k + 1) w2 w1 h, show k + (u :: us).length = k + 1 + us.length by simp only [List.length_cons]; omega]
def putR (es : List AV) (i : Nat) : List AV -> List AV
 | [] => es
 | y :: r => putR (es.set i (putl (es.getD i .junk) 0 y.cells)) (i + 1) r
theorem copy_rows {o b base n : Nat} : ∀ (ys : List AV) (us : List Value) (i : Nat) (s : St) (w : World) (ob : Ob), RelK cx κ s a w -> s.H o = some ob -> κ.μ o = some (b, base, n) -> i + ys.length ≤ ob.es.length -> us.length = ys.length * ob.sz -> Cov κ s.H w ob.sz ys us.toArray ->
  ∃ w', (storeCells ⟨b, base + i * ob.sz, none⟩ us 0).run P w = .ok () w' /\ RelK cx κ { s with H := upd s.H o (some { ob with es := putR ob.es i ys }) } a w'
 | [], us, i, s, w, ob, R, hH, hμ, hi, hu, hc => by
  have : us = [] := List.eq_nil_of_length_eq_zero (by simpa using hu)
  subst this
  exact ⟨w, rfl, by simp only [putR, upd_self hH]; exact R⟩
 | y :: ys, us, i, s, w, ob, R, hH, hμ, hi, hu, hc => by
  simp only [List.length_cons] at hi hu
  have hsz : y.cells.length = ob.sz := hc.1 0 y rfl
  have hil : i < ob.es.length := by omega
  have he : ob.es[i]? = some (ob.es.getD i .junk) := by rw [List.getD_eq_getElem?_getD, List.getElem?_eq_getElem hil]; rfl
  have hul : ob.sz ≤ us.length := by rw [hu, Nat.add_mul, Nat.one_mul]; exact Nat.le_add_left _ _
  obtain ⟨w1, f1, f2, f3⟩ := store_cells' (P := P) 0 y.cells (us.take ob.sz) 0 s w ob _ R hH hμ he (by omega) (by rw [List.length_take, hsz]; omega) (fun j x u hx hu' => by
   obtain ⟨v, g1, g2, g3⟩ := hc.2 0 y j x rfl hx
   have hj : j < ob.sz := by rw [<- hsz]; exact (List.getElem?_eq_some_iff.1 hx).1
   rw [List.getElem?_take_of_lt hj] at hu'
   rw [Nat.zero_mul, Nat.zero_add, List.getElem?_toArray, hu'] at g1
   cases g1
   exact ⟨g2, g3⟩)
  have hb : ¬ κ.im b := by
   obtain ⟨_, h⟩ := R.rep o ob hH
   rcases h with ⟨h1, _⟩ | ⟨b', base', cs, el, e1, e2, _⟩ | h
   ·rw [h1] at hμ; cases hμ
   ·rw [e1] at hμ; cases hμ; exact e2
   ·obtain ⟨_, _, _, _, _, e2⟩ := h.lies hμ
    exact e2
  have hmono : ∀ {x : AV} {v : Value}, RV κ s.H w x v -> RV κ (upd s.H o (some { ob with es := ob.es.set i (putl (ob.es.getD i .junk) (0 + 0) y.cells) })) w1 x v := fun h =>
   RV.mono (fun _ h => h) (fun b2 hb2 => f3 b2 (fun e => hb (by rw [<- e]; exact hb2))) (fun o2 ob2 ho => by
    by_cases hoo : o2 = o
    ·subst hoo
     rw [hH] at ho
     cases ho
     exact ⟨_, upd_same _ _ _, rfl, rfl, by simp, rfl⟩
    ·exact ⟨ob2, by rw [upd_ne _ _ hoo]; exact ho, rfl, rfl, Nat.le_refl _, rfl⟩) h
  obtain ⟨w', k1, k2⟩ := copy_rows ys (us.drop ob.sz) (i + 1) { s with H := upd s.H o (some { ob with es := ob.es.set i (putl (ob.es.getD i .junk) (0 + 0) y.cells) }) } w1 { ob with es := ob.es.set i (putl (ob.es.getD i .junk) (0 + 0) y.cells) } f2 (upd_same _ _ _) hμ (by simp; omega) (by rw [List.length_drop, hu, Nat.add_mul]; simp)
   ⟨fun j e hj => hc.1 (j + 1) e hj, fun j e q x hj hx => by
    obtain ⟨v, g1, g2, g3⟩ := hc.2 (j + 1) e q x hj hx
    refine ⟨v, ?_, hmono g2, g3⟩
    rw [List.getElem?_toArray] at g1 ⊢
    rw [List.getElem?_drop, <- g1]
    congr 1
    simp only [Nat.add_mul]; omega⟩
  refine ⟨w', ?_, ?_⟩
  ·have e1 : us = us.take ob.sz ++ us.drop ob.sz := (List.take_append_drop _ _).symm
   have f1' : (storeCells ⟨b, base + i * ob.sz, none⟩ (us.take ob.sz) 0).run P w = .ok () w1 := f1
   rw [e1, storeCells_app _ _ _ _ _ f1']
   have e2 : 0 + (us.take ob.sz).length = ob.sz + 0 := by rw [List.length_take]; omega
   rw [e2, storeCells_shift]
   simp only [Nat.add_mul, Nat.one_mul, <- Nat.add_assoc] at k1 ⊢
   exact k1
  ·simp only [upd_upd, putR] at k2 ⊢
   exact k2
def trc (n : Nat) : AV -> AV
 | .sl o lo _ => .sl o lo n
 | .ro z es => .ro z (es.take n)
 | .nilsl => .nilsl
 | _ => .junk
def isCp : AV -> Bool
 | .sl _ _ _ | .ro _ _ | .nilsl => true
 | _ => false
theorem trc_src {H : Hp} {sz n : Nat} {y : AV} {ys : List AV} {φ : Prop} (h : srcE H sz y = some (ys, φ)) (hi : isCp y = true) (hn : n ≤ ys.length) : ∃ ψ, srcE H sz (trc n y) = some (ys.take n, ψ) /\ (φ -> ψ) := by
 cases y <;> simp only [isCp, Bool.false_eq_true] at hi
 case nilsl =>
  simp only [srcE] at h
  cases h
  exact ⟨True, by simp [srcE, trc], id⟩
 case ro z es =>
  simp only [srcE] at h
  cases h
  exact ⟨_, rfl, id⟩
 case sl o lo len =>
  simp only [srcE] at h
  split at h
  ·rename_i ob hob
   cases h
   refine ⟨ob.sz = sz, ?_, id⟩
   simp only [srcE, trc, hob]
   rw [List.take_take, Nat.min_eq_left (by rw [List.length_take] at hn; omega)]
  ·cases h
theorem trc_rv {H : Hp} {sz n : Nat} {y : AV} {ys : List AV} {φ : Prop} (h : srcE H sz y = some (ys, φ)) (hi : isCp y = true) (hn : n ≤ ys.length) {vy : Value} (hv : RV κ H w y vy) : ∃ A m cap cap', vy = .slice A m cap /\ RV κ H w (trc n y) (.slice A n cap') := by
 cases y <;> simp only [isCp, Bool.false_eq_true] at hi
 case nilsl =>
  simp only [srcE] at h
  cases h
  obtain rfl := hv.nilsl_inv
  have : n = 0 := by simpa using hn
  subst this
  exact ⟨none, 0, 0, 0, rfl, .nilsl⟩
 case ro z es =>
  simp only [srcE] at h
  cases h
  cases hv with
  | imm h =>
   cases h with
   | ro _ _ A cap b off vs hA hcap hz hc hr =>
    have hl : (ys.take n).length = n := by rw [List.length_take]; omega
    have hg : ∀ (i : Nat) (e : AV), (ys.take n)[i]? = some e -> ys[i]? = some e := fun i e hi => by
     rw [List.getElem?_take] at hi
     split at hi
     ·exact hi
     ·cases hi
    have := RI.ro (im := κ.im) (w := w) z (ys.take n) A cap b off vs (fun h => hA (by omega)) (by omega) (fun i e hi => hz i e (hg i e hi)) (fun i e j x hi hj => hc i e j x (hg i e hi) hj) (fun i e j x hi hj => hr i e j x (hg i e hi) hj)
    rw [hl] at this
    exact ⟨A, ys.length, cap, cap, rfl, .imm this⟩
 case sl o lo len =>
  simp only [srcE] at h
  split at h
  ·rename_i ob hob
   cases h
   rw [List.length_take] at hn
   cases hv with
   | imm h => cases h
   | sl _ _ _ ob' A cap hH hbox hlen hcap hA =>
    exact ⟨A, len, cap, cap, rfl, .sl o lo n ob' A cap hH hbox (by omega) (by omega) hA⟩
  ·cases h
theorem putl_row : ∀ {ys es : List AV} {i : Nat}, i + ys.length ≤ es.length -> (∀ (j : Nat) (e : AV), i ≤ j -> es[j]? = some e -> ∀ y ∈ ys, putl e 0 y.cells = y) -> putR es i ys = es.take i ++ (ys ++ es.drop (i + ys.length))
 | [], es, i, _, _ => by simp [putR]
 | y :: ys, es, i, hi, h => by
  simp only [List.length_cons] at hi
  have hil : i < es.length := by omega
  have he : es[i]? = some (es.getD i .junk) := by rw [List.getD_eq_getElem?_getD, List.getElem?_eq_getElem hil]; rfl
  have hy : putl (es.getD i .junk) 0 y.cells = y := h i _ (Nat.le_refl _) he y (by simp)
  simp only [putR, hy]
  rw [putl_row (ys := ys) (es := es.set i y) (i := i + 1) (by simp; omega) (fun j e hj hje z hz => h j e (by omega) (by rwa [List.getElem?_set_ne (by omega)] at hje) z (by simp [hz]))]
  have e1 : (es.set i y).take (i + 1) = es.take i ++ [y] := by
   have e0 : es.set i y = es.take i ++ y :: es.drop (i + 1) := by rw [List.set_eq_take_append_cons_drop, if_pos hil]
   have hl : (es.take i).length = i := by rw [List.length_take]; omega
   rw [e0, List.take_append, hl, show i + 1 - i = 1 by omega, List.take_of_length_le (by omega : (es.take i).length ≤ i + 1)]
   rfl
  have e2 : (es.set i y).drop (i + 1 + ys.length) = es.drop (i + (ys.length + 1)) := by
   rw [List.drop_set_of_lt (by omega), show i + 1 + ys.length = i + (ys.length + 1) by omega]
  rw [e1, e2]
  simp
def vcopy (P : Program) (H : Hp) (t : TypeId) (x y : AV) : Option (Hp × AV × Prop) :=
 match x with
 | .sl o lo len => match H o, tSliceElem P t with
  | some ob, some e => match srcE H ob.sz y with
   | some (ys, φ) => some (upd H o (some { ob with es := ob.es.take lo ++ (ys.take len ++ ob.es.drop (lo + min ys.length len)) }), .int .i64 (min ys.length len : Nat), φ /\ isCp y = true /\ tSz P e = some ob.sz /\ ∀ e ∈ ob.es, ∀ y ∈ ys, putl e 0 y.cells = y)
   | none => none
  | _, _ => none
 | _ => none
theorem vcopy_sound (R : RelK cx κ s a w) {t t2 ty : TypeId} {x y v : AV} {H' : Hp} {φ : Prop} (h : vcopy cx.P s.H t x y = some (H', v, φ)) (hφ : φ) {vx vy : Value} (hx : RV κ s.H w x vx) (hy : RV κ s.H w y vy) :
  ∃ u w', (Builtin.copy_ #[t, t2] ty #[vx, vy]).run cx.P w = .ok u w' /\ RelK cx κ { s with H := H' } a w' /\ RV κ H' w' v u := by
 unfold vcopy at h
 split at h
 case h_2 => cases h
 rename_i o lo len
 split at h
 case h_2 => cases h
 rename_i ob e hob he
 split at h
 case h_2 => cases h
 rename_i ys φ' hsrc
 cases h
 obtain ⟨hφ, hcp, hz, hput⟩ := hφ
 have hu : cx.P.underlying t = some (.slice e) := by
  unfold tSliceElem at he
  split at he
  ·cases he; assumption
  ·cases he
 obtain ⟨i, g1, g2⟩ := Option.map_eq_some_iff.1 (show (cx.P.info? e).map (·.size) = some ob.sz from hz)
 obtain ⟨hlen, _⟩ := src_sound (P := cx.P) R hsrc hφ hy
 have hn : min ys.length len ≤ ys.length := Nat.min_le_left _ _
 obtain ⟨ψ, hsrc', hψ⟩ := trc_src hsrc hcp hn
 obtain ⟨A2, m2, cap2, cap2', rfl, hy2⟩ := trc_rv hsrc hcp hn hy
 obtain ⟨_, us, hfc, hul, hcov⟩ := src_sound (P := cx.P) R hsrc' (hψ hφ) hy2
 have hyl : (ys.take (min ys.length len)).length = min ys.length len := by rw [List.length_take]; omega
 rw [hyl] at hfc hul
 have hfc2 : (Builtin.firstCells ob.sz (min ys.length len) (.slice A2 m2 cap2)).run cx.P w = .ok us.toArray w := by
  rw [show Builtin.firstCells ob.sz (min ys.length len) (.slice A2 m2 cap2) = Builtin.firstCells ob.sz (min ys.length len) (.slice A2 (min ys.length len) cap2') by cases A2 <;> rfl]
  exact hfc w rfl
 have hyt : ys.take len = ys.take (min ys.length len) := by
  by_cases hc : ys.length ≤ len
  ·rw [Nat.min_eq_left hc, List.take_of_length_le hc, List.take_of_length_le (Nat.le_refl _)]
  ·rw [Nat.min_eq_right (by omega)]
 cases hx with
 | imm h => cases h
 | sl _ _ _ ob' A cap hH hbox hlo hcap hA =>
  rw [hob] at hH
  cases hH
  have hrow : putR ob.es lo (ys.take (min ys.length len)) = ob.es.take lo ++ (ys.take len ++ ob.es.drop (lo + min ys.length len)) := by
   rw [putl_row (by rw [hyl]; omega) (fun j e _ hj y hy => hput e (List.mem_of_getElem? hj) y (List.mem_of_mem_take hy)), hyl, hyt]
  have hst : ∃ w', (do if let some a := A then storeCells a us.toArray.toList : Sem Unit).run cx.P w = .ok () w' /\ RelK cx κ { s with H := upd s.H o (some { ob with es := ob.es.take lo ++ (ys.take len ++ ob.es.drop (lo + min ys.length len)) }) } a w' := by
   rcases hA with hA | ⟨b, base, n, e1, e2, e3⟩
   ·have h0 : min ys.length len = 0 := by omega
    rw [h0] at hul hrow hyt hyl
    have : us = [] := List.eq_nil_of_length_eq_zero (by simpa using hul)
    subst this
    refine ⟨w, by cases A <;> rfl, ?_⟩
    have hes : ob.es.take lo ++ (ys.take len ++ ob.es.drop (lo + min ys.length len)) = ob.es := by
     rw [h0, hyt]; simp
    rw [hes, upd_self hob]
    exact R
   ·subst e2
    obtain ⟨w', k1, k2⟩ := copy_rows (P := cx.P) (ys.take (min ys.length len)) us lo s w ob R hob e1 (by rw [hyl]; omega) (by rw [hul, hyl]) hcov
    rw [hrow] at k2
    exact ⟨w', by simpa using k1, k2⟩
  obtain ⟨w', k1, k2⟩ := hst
  refine ⟨goInt ((min ys.length len : Nat) : Int), w', ?_, k2, .imm (.int _ _)⟩
  have hl2 := hlen w
  have hmin : Nat.min ys.length len = min ys.length len := rfl
  simp only [Builtin.copy_, Sem.run_bind, hl2, run_underlying hu, run_sizeOf g1, g2, Result.andThen_ok, hfc2, hmin, List.getElem?_toArray, List.getElem?_cons_zero, List.getElem?_cons_succ]
  cases A with
  | none => cases k1; rfl
  | some ad =>
   have k1' : (storeCells ad us).run cx.P w = .ok () w' := by simpa using k1
   simp only [Sem.run_bind, k1', Result.andThen_ok]
   rfl
end
end Go.Aw

/- Regions that copy. Own work. -/
namespace Go.Aw
open Go
set_option linter.unusedVariables false
def vclear (P : Program) (H : Hp) (t : TypeId) (x : AV) : Option (Hp × AV × Prop) :=
 match x with
 | .sl o lo len => match H o, tSliceElem P t with
  | some ob, some e => match tZero P e with
   | some zs => if eok P e zs = true then some (upd H o (some { ob with es := ob.es.take lo ++ (List.replicate len (mkE P e zs) ++ ob.es.drop (lo + len)) }), .tup [], tSz P e = some ob.sz /\ ∀ y ∈ ob.es, ∀ z ∈ [mkE P e zs], putl y 0 z.cells = z) else none
   | none => none
  | _, _ => none
 | _ => none
theorem vclear_sound {cx : Cx} {κ : Kz} {s : St} {a : Act} {w : World} (R : RelK cx κ s a w) {t ty : TypeId} {x v : AV} {H' : Hp} {φ : Prop} (h : vclear cx.P s.H t x = some (H', v, φ)) (hφ : φ) {vx : Value} (hx : RV κ s.H w x vx) :
  ∃ u w', (Builtin.clear_ #[t] ty #[vx]).run cx.P w = .ok u w' /\ RelK cx κ { s with H := H' } a w' /\ RV κ H' w' v u := by
 unfold vclear at h
 split at h
 case h_2 => cases h
 rename_i o lo len
 split at h
 case h_2 => cases h
 rename_i ob e hob he
 split at h
 case h_2 => cases h
 rename_i zs hzs
 split at h
 case isFalse => cases h
 rename_i hek
 cases h
 obtain ⟨hz, hput⟩ := hφ
 have hu : cx.P.underlying t = some (.slice e) := by
  unfold tSliceElem at he
  split at he
  ·cases he; assumption
  ·cases he
 obtain ⟨i, z, h1, h2, h3, h4, h5, h6⟩ := tZero_spec hzs
 have hcm := cells_mkE hek
 have hsz : i.size = ob.sz := by
  obtain ⟨j, g1, g2⟩ := Option.map_eq_some_iff.1 (show (cx.P.info? e).map (·.size) = some ob.sz from hz)
  rw [h1] at g1
  cases g1
  exact g2
 have htup : ∀ {H' : Hp} {w' : World}, RV κ H' w' (.tup []) (.tuple #[]) := .tup [] #[] rfl (fun i x v h => by simp at h)
 cases hx with
 | imm h => cases h
 | sl _ _ _ ob' A cap hH hbox hlo hcap hA =>
  rw [hob] at hH
  cases hH
  cases len with
  | zero =>
   have hes : ob.es.take lo ++ (List.replicate 0 (mkE cx.P e zs) ++ ob.es.drop (lo + 0)) = ob.es := by simp
   refine ⟨.tuple #[], w, ?_, by rw [hes, upd_self hob]; exact R, htup⟩
   simp only [Builtin.clear_, Sem.run_bind, run_underlying hu, Result.andThen_ok, List.getElem?_toArray, List.getElem?_cons_zero]
   cases A <;> rfl
  | succ n =>
   obtain ⟨b, base, m, e1, e2, e3⟩ : ∃ b base n, κ.μ o = some (b, base, n) /\ A = some ⟨b, base + lo * ob.sz, none⟩ /\ base + (lo + cap) * ob.sz ≤ n := by
    rcases hA with hA | hA
    ·omega
    ·exact hA
   subst e2
   have hul : (Builtin.zeroCells z.cells (n + 1)).toList.length = (List.replicate (n + 1) (mkE cx.P e zs)).length * ob.sz := by
    simp [Builtin.zeroCells, h4, hsz]
   have hcov : Cov κ s.H w ob.sz (List.replicate (n + 1) (mkE cx.P e zs)) (Builtin.zeroCells z.cells (n + 1)).toList.toArray := by
    refine ⟨fun k y hk => ?_, fun k y j x hk hj => ?_⟩
    ·rw [List.getElem?_replicate] at hk
     split at hk
     ·cases hk; rw [hcm, h5, hsz]
     ·cases hk
    ·rw [List.getElem?_replicate] at hk
     split at hk
     case isFalse => cases hk
     rename_i hkn
     cases hk
     rw [hcm, <- h3, List.getElem?_map, Array.getElem?_toList] at hj
     obtain ⟨u, hu', rfl⟩ := Option.map_eq_some_iff.1 hj
     have hjz : j < z.cells.size := (Array.getElem?_eq_some_iff.1 hu').1
     have hjs : j < ob.sz := by rw [<- hsz, <- h4]; exact hjz
     have hlt : k * ob.sz + j < (n + 1) * z.cells.size := by
      rw [h4, hsz]
      have : (k + 1) * ob.sz ≤ (n + 1) * ob.sz := Nat.mul_le_mul_right _ (by omega)
      rw [Nat.add_mul, Nat.one_mul] at this
      omega
     have hmod : (k * ob.sz + j) % z.cells.size = j := by
      rw [h4, hsz, Nat.mul_comm, Nat.mul_add_mod, Nat.mod_eq_of_lt hjs]
     refine ⟨u, ?_, .cst1 u, h6 j u hu'⟩
     simp only [Builtin.zeroCells, Array.toArray_toList, Array.getElem?_map, Array.getElem?_range, hlt, if_true, Option.map_some, hmod]
     rw [getElem!_pos z.cells j hjz, (Array.getElem?_eq_some_iff.1 hu').2]
   obtain ⟨w', k1, k2⟩ := copy_rows (P := cx.P) (List.replicate (n + 1) (mkE cx.P e zs)) _ lo s w ob R hob e1 (by rw [List.length_replicate]; omega) hul hcov
   have hrow : putR ob.es lo (List.replicate (n + 1) (mkE cx.P e zs)) = ob.es.take lo ++ (List.replicate (n + 1) (mkE cx.P e zs) ++ ob.es.drop (lo + (n + 1))) := by
    rw [putl_row (by rw [List.length_replicate]; omega) (fun j e' _ hj y hy => hput e' (List.mem_of_getElem? hj) y (by rw [List.eq_of_mem_replicate hy]; simp)), List.length_replicate]
   rw [hrow] at k2
   refine ⟨.tuple #[], w', ?_, k2, htup⟩
   simp only [Builtin.clear_, Sem.run_bind, run_underlying hu, run_zeroValue h1 h2, Result.andThen_ok, List.getElem?_toArray, List.getElem?_cons_zero, k1]
   rfl
def isCpy (o : Oper) : Bool := match o.op with
 | .call cl => match cl.callee with
  | .builtin .copy => true
  | .builtin .clear => true
  | _ => false
 | _ => false
def clrB : Callee -> Bool
 | .builtin .clear => true
 | _ => false
def scpy (cx : Cx) (o : Oper) (b : Bool) (args : List Operand) (ts : List TypeId) (s : St) : Option (St × Prop) := match b, args, ts with
 | false, [x, y], [t, _] => match vcopy cx.P s.H t (stripV (aev cx s.ρ x)) (stripV (aev cx s.ρ y)) with
  | some (H', v, φ) => some (putv { s with H := H' } o.dst v, φ /\ stripB (aev cx s.ρ x) = true /\ stripB (aev cx s.ρ y) = true)
  | none => none
 | true, [x], [t] => match vclear cx.P s.H t (stripV (aev cx s.ρ x)) with
  | some (H', v, φ) => some (putv { s with H := H' } o.dst v, φ /\ stripB (aev cx s.ρ x) = true)
  | none => none
 | _, _, _ => none
def stepC (cx : Cx) (ds : List (Option Tmp)) (o : Oper) (s : St) : Option (St × Prop) := match isCpy o with
 | true => match o.guard with
  | some _ => none
  | none => match o.op with
   | .call cl => scpy cx o (clrB cl.callee) cl.args.toList cl.argTypes.toList s
   | _ => none
 | false => if isV (opCls o.op) = true then sstep cx [] [] ds o s else none
def commC (ds : List (Option Tmp)) (x y : Oper) : Bool :=
 if isCpy x then !isCpy y && (opCls y.op == .P) && apartA ds x y
 else if isCpy y then (opCls x.op == .P) && apartA ds x y
 else isV (opCls x.op) && isV (opCls y.op) && opCls x.op != .A && commB [] ds x y
variable {cx : Cx} {κ : Kz} {s s1 s2 : St} {a : Act} {w : World} {ds : List (Option Tmp)} {x y o : Oper} {φ φ1 φ2 : Prop}
theorem cpy_spec (h : isCpy o = true) : ∃ cl, o.op = .call cl /\ (cl.callee = .builtin .copy \/ cl.callee = .builtin .clear) := by
 unfold isCpy at h
 split at h
 ·rename_i cl hop
  split at h
  ·rename_i hcl; exact ⟨cl, hop, .inl hcl⟩
  ·rename_i hcl; exact ⟨cl, hop, .inr hcl⟩
  ·cases h
 ·cases h
theorem cpy_loc (hx : isCpy o = true) (h : stepC cx ds o s = some (s1, φ)) : o.guard = none /\ ∃ v H', s1 = putv { s with H := H' } o.dst v /\ ∀ t : St, (∀ z ∈ looks ds o, s.ρ z = t.ρ z) -> s.H = t.H -> stepC cx ds o t = some (putv { t with H := H' } o.dst v, φ) := by
 obtain ⟨cl, hop, hcl⟩ := cpy_spec hx
 unfold stepC at h
 rw [hx] at h
 simp only at h
 split at h
 ·cases h
 rename_i hg
 rw [hop] at h
 simp only at h
 unfold scpy at h
 split at h
 ·rename_i a b t t2 hb hargs hts
  split at h
  case h_2 => cases h
  rename_i H' v φ' hv
  cases h
  refine ⟨hg, v, H', rfl, fun u hu hH => ?_⟩
  have hae : ∀ z ∈ opnds o.op, aev cx s.ρ z = aev cx u.ρ z := fun z hz => aev_agree fun t' ht' => hu t' (looks_op hz ht')
  have hopn : opnds o.op = [a, b] := by rw [hop]; rcases hcl with hcl | hcl <;> simp only [opnds, hcl, hargs]
  have ea := hae a (by rw [hopn]; simp)
  have eb := hae b (by rw [hopn]; simp)
  unfold stepC
  rw [hx]
  simp only [hg, hop]
  unfold scpy
  rw [hb, hargs, hts]
  simp only [<- ea, <- eb, <- hH, hv]
 ·rename_i a t hb hargs hts
  split at h
  case h_2 => cases h
  rename_i H' v φ' hv
  cases h
  refine ⟨hg, v, H', rfl, fun u hu hH => ?_⟩
  have hae : ∀ z ∈ opnds o.op, aev cx s.ρ z = aev cx u.ρ z := fun z hz => aev_agree fun t' ht' => hu t' (looks_op hz ht')
  have hopn : opnds o.op = [a] := by rw [hop]; rcases hcl with hcl | hcl <;> simp only [opnds, hcl, hargs]
  have ea := hae a (by rw [hopn]; simp)
  unfold stepC
  rw [hx]
  simp only [hg, hop]
  unfold scpy
  rw [hb, hargs, hts]
  simp only [<- ea, <- hH, hv]
 ·cases h
theorem stepC_no (h : isCpy o = false) : stepC cx ds o s = if isV (opCls o.op) = true then sstep cx [] [] ds o s else none := by
 unfold stepC
 rw [h]
theorem stepC_get (h : isCpy o = false) {r : St × Prop} (e : stepC cx ds o s = some r) : isV (opCls o.op) = true /\ sstep cx [] [] ds o s = some r := by
 rw [stepC_no h] at e
 split at e
 ·rename_i hv; exact ⟨hv, e⟩
 ·cases e
theorem stepC_put (h : isCpy o = false) (hv : isV (opCls o.op) = true) {r : St × Prop} (e : sstep cx [] [] ds o s = some r) : stepC cx ds o s = some r := by
 rw [stepC_no h, if_pos hv, e]
theorem p_loc (hv : opCls o.op = .P) (h : sstep cx [] [] ds o s = some (s1, φ)) : ∃ v, s1 = putv s o.dst v /\ ∀ t : St, (∀ z ∈ looks ds o, s.ρ z = t.ρ z) -> sstep cx [] [] ds o t = some (putv t o.dst v, φ) := by
 obtain ⟨v, ob, rfl, hob, _, hF⟩ := step_loc (by rw [hv]; rfl) h
 have hn : ob = none := by
  cases hb : ob with
  | none => rfl
  | some b => have := (hob b hb).1; rw [hv] at this; cases this
 subst hn
 refine ⟨v, by cases o.dst <;> rfl, fun t ht => ?_⟩
 have := hF t ht ⟨fun hl => (by rw [hv] at hl; cases hl), fun hl => (by rw [hv] at hl; cases hl)⟩
 rw [this]
 cases o.dst <;> rfl
theorem putv_Hc {s : St} {d : Option Tmp} {v : AV} : (putv s d v).H = s.H := by cases d <;> rfl
theorem putv_cm {s : St} {d e : Option Tmp} {u v : AV} {H' : Hp} (h : ∀ i j, d = some i -> e = some j -> i ≠ j) : putv { (putv s d u) with H := H' } e v = putv (putv { s with H := H' } e v) d u := by
 cases d with
 | none => cases e <;> rfl
 | some i => cases e with
  | none => rfl
  | some j =>
   have hne := h i j rfl rfl
   simp only [putv]
   congr 1
   funext t
   by_cases h1 : t = i
   ·subst h1; rw [upd_ne _ _ hne, upd_same, upd_same]
   ·by_cases h2 : t = j
    ·subst h2; rw [upd_same, upd_ne _ _ h1, upd_same]
    ·rw [upd_ne _ _ h2, upd_ne _ _ h1, upd_ne _ _ h1, upd_ne _ _ h2]
theorem swapC (hc : commC ds x y = true) (h1 : stepC cx ds x s = some (s1, φ1)) (h2 : stepC cx ds y s1 = some (s2, φ2)) (hφ2 : φ2) : ∃ s1', stepC cx ds y s = some (s1', φ2) /\ stepC cx ds x s1' = some (s2, φ1) := by
 unfold commC at hc
 cases hx : isCpy x with
 | true =>
  rw [hx] at hc
  simp only [if_true, Bool.and_eq_true, Bool.not_eq_true', beq_iff_eq] at hc
  obtain ⟨⟨hy, hyP⟩, hap⟩ := hc
  obtain ⟨a1, a2, a3⟩ := apartA_spec hap
  obtain ⟨_, v, H', rfl, hF⟩ := cpy_loc hx h1
  obtain ⟨hyv, h2⟩ := stepC_get hy h2
  obtain ⟨u, rfl, hG⟩ := p_loc hyP h2
  have g1 := hG s (fun z hz => by rw [putv_ρ fun d hd => a1 d hd z hz])
  refine ⟨_, stepC_put hy hyv g1, ?_⟩
  rw [hF (putv s y.dst u) (fun z hz => by rw [putv_ρ fun d hd => a3 d hd z hz]) putv_Hc.symm]
  rw [putv_cm fun i j hi hj => ?_]
  intro e
  exact a2 j i hj hi e.symm
 | false =>
  rw [hx] at hc
  simp only [Bool.false_eq_true, if_false] at hc
  cases hy : isCpy y with
  | true =>
   rw [hy] at hc
   simp only [if_true, Bool.and_eq_true, beq_iff_eq] at hc
   obtain ⟨hxP, hap⟩ := hc
   obtain ⟨a1, a2, a3⟩ := apartA_spec hap
   obtain ⟨hxv, h1⟩ := stepC_get hx h1
   obtain ⟨u, rfl, hG⟩ := p_loc hxP h1
   obtain ⟨_, v, H', rfl, hF⟩ := cpy_loc hy h2
   have g1 := hF s (fun z hz => by rw [putv_ρ fun d hd => a1 d hd z hz]) putv_Hc
   refine ⟨_, g1, ?_⟩
   have g2 := hG (putv { s with H := H' } y.dst v) (fun z hz => by rw [putv_ρ fun d hd => a3 d hd z hz])
   rw [stepC_put hx hxv g2]
   rw [putv_cm fun i j hi hj => a2 i j hi hj]
  | false =>
   rw [hy] at hc
   simp only [Bool.false_eq_true, if_false, Bool.and_eq_true] at hc
   obtain ⟨⟨⟨hxv, hyv⟩, _⟩, hcb⟩ := hc
   obtain ⟨_, h1⟩ := stepC_get hx h1
   obtain ⟨_, h2⟩ := stepC_get hy h2
   obtain ⟨s1', k1, k2⟩ := swap hcb h1 h2 hφ2
   exact ⟨s1', stepC_put hy hyv k1, stepC_put hx hxv k2⟩
theorem stepC_sound (hcx : CxOk cx) (R : RelK cx κ s a w) {ops : Array Oper} (hn : ∀ o ∈ ops, ∀ d, o.dst = some d -> cx.ok d) (ho : o ∈ ops) (h : stepC cx (ops.toList.map (·.dst)) o s = some (s1, φ)) (hφ : φ) :
  (Region.wanted o (yielded ops a.tmps) = true /\ Does cx o a w s1) \/ (Region.wanted o (yielded ops a.tmps) = false /\ Rel cx s1 (a.put o.dst undef) w) := by
 cases hx : isCpy o with
 | false => exact sstep_sound hcx R hn ho (stepC_get hx h).2 hφ
 | true =>
  obtain ⟨cl, hop, hcl⟩ := cpy_spec hx
  unfold stepC at h
  rw [hx] at h
  simp only at h
  split at h
  ·cases h
  rename_i hg
  rw [hop] at h
  simp only at h
  unfold scpy at h
  split at h
  ·rename_i x y t t2 hb hargs hts
   have hcc : cl.callee = .builtin .copy := by
    rcases hcl with hcl | hcl
    ·exact hcl
    ·rw [hcl] at hb; cases hb
   split at h
   case h_2 => cases h
   rename_i H' v φ' hv
   cases h
   obtain ⟨h1, h3, h4⟩ := hφ
   refine .inl ⟨by simp [Region.wanted, hg], ?_⟩
   obtain ⟨u, w', g1, g2, g3⟩ := vcopy_sound (t2 := t2) (ty := o.type) R hv h1 ((R.aev x).strip.1 h3) ((R.aev y).strip.1 h4)
   have e1 : cl.args = #[x, y] := by rw [<- Array.toArray_toList (xs := cl.args), hargs]
   have e2 : cl.argTypes = #[t, t2] := by rw [<- Array.toArray_toList (xs := cl.argTypes), hts]
   refine .value (u := u) (w' := w') ?_ ⟨κ, g2.putv (hn o ho) g3⟩
   obtain ⟨callee, args, ts⟩ := cl
   simp only at e1 e2 hcc
   subst e1 e2 hcc
   simp [execOp, hop, resolve, invoke, builtin, g1]
  ·rename_i x t hb hargs hts
   have hcc : cl.callee = .builtin .clear := by
    rcases hcl with hcl | hcl
    ·rw [hcl] at hb; cases hb
    ·exact hcl
   split at h
   case h_2 => cases h
   rename_i H' v φ' hv
   cases h
   obtain ⟨h1, h3⟩ := hφ
   refine .inl ⟨by simp [Region.wanted, hg], ?_⟩
   obtain ⟨u, w', g1, g2, g3⟩ := vclear_sound (ty := o.type) R hv h1 ((R.aev x).strip.1 h3)
   have e1 : cl.args = #[x] := by rw [<- Array.toArray_toList (xs := cl.args), hargs]
   have e2 : cl.argTypes = #[t] := by rw [<- Array.toArray_toList (xs := cl.argTypes), hts]
   refine .value (u := u) (w' := w') ?_ ⟨κ, g2.putv (hn o ho) g3⟩
   obtain ⟨callee, args, ts⟩ := cl
   simp only at e1 e2 hcc
   subst e1 e2 hcc
   simp [execOp, hop, resolve, invoke, builtin, g1]
  ·cases h
theorem stepC_junk {d : Nat} (h : stepC cx ds o s = some (s1, φ)) (hd : o.dst ≠ some d) (hj : s.ρ d = .junk) : s1.ρ d = .junk := by
 cases hx : isCpy o with
 | false => exact sstep_junk (stepC_get hx h).2 hd hj
 | true =>
  obtain ⟨_, v, H', rfl, _⟩ := cpy_loc hx h
  rw [putv_ρ fun e he e2 => hd (by rw [he, e2])]
  exact hj
theorem stepC_ok (hcx : CxOk cx) {ops : Array Oper} (hn : ∀ o ∈ ops, ∀ d, o.dst = some d -> cx.ok d) : StepOk cx ops (stepC cx (ops.toList.map (·.dst))) (commC (ops.toList.map (·.dst))) (fun _ => false) where
 sound κ s a w o s' φ R ho h hφ := stepC_sound hcx R hn ho h hφ
 swap x y s s1 s2 φ1 φ2 hc _ h1 _ h2 hφ2 := swapC hc h1 h2 hφ2
 junk o s s' φ d h hd hj := stepC_junk h hd hj
end Go.Aw

/- Drawn regions with calls by a program. Own work. -/
namespace Go.Aw
open Go
set_option linter.unusedVariables false
variable {cx : Cx} {κ : Kz} {s : St} {a : Act} {w : World} {S : Sig} {A : An} {fr : List Nat} {ds : List (Option Tmp)} {x y o : Oper} {s1 s2 : St} {φ φ1 φ2 : Prop}
theorem putv_comm {s : St} {x y : Option Tmp} {u v : AV} (h : ∀ d e, x = some d -> y = some e -> d ≠ e) : putv (putv s x u) y v = putv (putv s y v) x u := by
 cases x with
 | none => rfl
 | some d =>
  cases y with
  | none => rfl
  | some e =>
   simp only [putv]
   rw [upd_comm _ _ _ (h d e rfl rfl)]
theorem commB_keep (hc : commB fr ds x y = true) {orc : List (Tmp × AV)} {gr : List Nat} (h : sstep cx gr orc ds y s = some (s1, φ)) (hx : isCV x = true) : ∀ z ∈ looks ds x, s.ρ z = s1.ρ z := by
 simp only [commB, Bool.and_eq_true] at hc
 obtain ⟨hap, hcls⟩ := hc
 obtain ⟨a1, a2, a3⟩ := apartA_spec hap
 simp only [Bool.or_eq_true, Bool.and_eq_true, beq_iff_eq] at hcls
 have hxP : opCls x.op = .P := by
  obtain ⟨cl, f, h1, h2⟩ := isCV_spec hx
  rw [h1]; simp only [opCls, h2]
 intro z hz
 rcases hcls with (⟨⟨_, hyv⟩, _⟩ | ⟨⟨hxs, _⟩, _⟩) | ⟨⟨_, hys⟩, hyd⟩
 ·obtain ⟨v, ob, rfl, _⟩ := step_loc hyv h
  exact (app_ρ fun d hd => a3 d hd z hz).symm
 ·rw [hxP] at hxs; cases hxs
 ·obtain ⟨H', rfl, _⟩ := store_loc hys hyd h
  rfl
theorem commB_keep' (hc : commB fr ds x y = true) {orc : List (Tmp × AV)} {gr : List Nat} (h : sstep cx gr orc ds x s = some (s1, φ)) (hy : isCV y = true) : ∀ z ∈ looks ds y, s.ρ z = s1.ρ z := by
 simp only [commB, Bool.and_eq_true] at hc
 obtain ⟨hap, hcls⟩ := hc
 obtain ⟨a1, a2, a3⟩ := apartA_spec hap
 simp only [Bool.or_eq_true, Bool.and_eq_true, beq_iff_eq] at hcls
 have hyP : opCls y.op = .P := by
  obtain ⟨cl, f, h1, h2⟩ := isCV_spec hy
  rw [h1]; simp only [opCls, h2]
 intro z hz
 rcases hcls with (⟨⟨hxv, _⟩, _⟩ | ⟨⟨hxs, hxd⟩, _⟩) | ⟨⟨_, hys⟩, _⟩
 ·obtain ⟨v, ob, rfl, _⟩ := step_loc hxv h
  exact (app_ρ fun d hd => a1 d hd z hz).symm
 ·obtain ⟨H', rfl, _⟩ := store_loc hxs hxd h
  rfl
 ·rw [hyP] at hys; cases hys
theorem commB_ρ (hc : commB fr ds x y = true) {gr : List Nat} {orc : List (Tmp × AV)} (h : sstep cx gr orc ds x s = some (s1, φ)) : ∀ z ∈ looks ds y, s.ρ z = s1.ρ z := by
 simp only [commB, Bool.and_eq_true] at hc
 obtain ⟨hap, hcls⟩ := hc
 obtain ⟨a1, a2, a3⟩ := apartA_spec hap
 simp only [Bool.or_eq_true, Bool.and_eq_true, beq_iff_eq] at hcls
 intro z hz
 rcases hcls with (⟨⟨hxv, _⟩, _⟩ | ⟨⟨hxs, hxd⟩, _⟩) | ⟨⟨hxp, _⟩, _⟩
 ·obtain ⟨v, ob, rfl, _⟩ := step_loc hxv h
  exact (app_ρ fun d hd => a1 d hd z hz).symm
 ·obtain ⟨H', rfl, _⟩ := store_loc hxs hxd h
  rfl
 ·obtain ⟨v, ob, rfl, _⟩ := step_loc (by rw [hxp]; rfl) h
  exact (app_ρ fun d hd => a1 d hd z hz).symm
theorem commB_ρ' (hc : commB fr ds x y = true) {gr : List Nat} {orc : List (Tmp × AV)} (h : sstep cx gr orc ds y s = some (s1, φ)) : ∀ z ∈ looks ds x, s.ρ z = s1.ρ z := by
 simp only [commB, Bool.and_eq_true] at hc
 obtain ⟨hap, hcls⟩ := hc
 obtain ⟨a1, a2, a3⟩ := apartA_spec hap
 simp only [Bool.or_eq_true, Bool.and_eq_true, beq_iff_eq] at hcls
 intro z hz
 rcases hcls with (⟨⟨_, hyv⟩, _⟩ | ⟨⟨_, _⟩, hyp⟩) | ⟨⟨_, hys⟩, hyd⟩
 ·obtain ⟨v, ob, rfl, _⟩ := step_loc hyv h
  exact (app_ρ fun d hd => a3 d hd z hz).symm
 ·obtain ⟨v, ob, rfl, _⟩ := step_loc (by rw [hyp]; rfl) h
  exact (app_ρ fun d hd => a3 d hd z hz).symm
 ·obtain ⟨H', rfl, _⟩ := store_loc hys hyd h
  rfl
theorem wOk_agree {g : Option (List Nat)} {t : St} (h : ∀ z ∈ looks ds o, s.ρ z = t.ρ z) : wOk cx g o s = wOk cx g o t := by
 unfold wOk
 cases g with
 | none => rfl
 | some g =>
  simp only
  split
  ·rename_i ty a b hop
   have : aev cx s.ρ a = aev cx t.ρ a := aev_agree fun t' ht' => h t' (looks_op (by rw [hop]; simp [opnds]) ht')
   rw [this]
  ·rfl
theorem orc_one {d : Nat} {r : AV} : orcGet [(d, r)] d = some r := by simp [orcGet]
variable {gr : List Nat}
theorem swapB (hS : SigF cx.P cx.G S) (hc : commB gr ds x y = true) (hx : isHV A x = false) (hy : isHV A y = false) (hbx : isBR A x = false) (hby : isBR A y = false)
  (h1 : stepX cx S A (some gr) ds x s = some (s1, φ1)) (hφ1 : φ1) (h2 : stepX cx S A (some gr) ds y s1 = some (s2, φ2)) (hφ2 : φ2) :
  ∃ s1', stepX cx S A (some gr) ds y s = some (s1', φ2) /\ stepX cx S A (some gr) ds x s1' = some (s2, φ1) := by
 have hap : apartA ds x y = true := by simp only [commB, Bool.and_eq_true] at hc; exact hc.1
 obtain ⟨a1, a2, a3⟩ := apartA_spec hap
 have pu : ∀ {o : Oper} {k : FuncId}, isBR A o = false -> qId A o = some k -> A.pur k = true := fun {o k} h hq => by
  simp only [isBR, hq] at h; simpa using h
 have pl : ∀ {o : Oper}, isHV A o = false -> qId A o = none -> isCV o = false := fun {o} h hq => by
  cases h' : isCV o with
  | false => rfl
  | true => simp [isHV, h', hq] at h
 cases hpx : qId A x with
 | some k =>
  obtain ⟨c, r, ψ, hψ, rfl, k1, k2⟩ := pc_sstep hS hpx (pu hbx hpx) h1 hφ1
  cases hpy : qId A y with
  | some k' =>
   obtain ⟨c', r', ψ', hψ', rfl, k1', k2'⟩ := pc_sstep hS hpy (pu hby hpy) h2 hφ2
   refine ⟨_, k2' s fun z hz => putv_ρ fun d hd => a1 d hd z hz, ?_⟩
   rw [k2 _ fun z hz => (putv_ρ fun e he => a3 e he z hz).symm, putv_comm fun d e hd he => (a2 e d he hd).symm]
  | none =>
   have hyc := pl hy hpy
   obtain ⟨hw, h2⟩ := stepX_get hyc h2
   simp only [frL, Option.getD_some] at h2
   rw [<- sstep_orc (orc := [(x.dst.getD 0, r)]) hyc] at h2
   obtain ⟨s1', g1, g2⟩ := swap hc (k1 s _ _ (fun _ _ => rfl) orc_one) h2 hφ2
   have hk := commB_keep hc g1 (qId_cv hpx)
   have hw' : wOk cx (some gr) y s = true := by
    rw [<- hw]
    exact wOk_agree (ds := ds) fun z hz => (putv_ρ fun d hd => a1 d hd z hz).symm
   rw [sstep_orc hyc] at g1
   refine ⟨s1', stepX_put hyc hw' g1, ?_⟩
   rw [k1 s1' _ _ hk orc_one] at g2
   simp only [Option.some.injEq, Prod.mk.injEq] at g2
   rw [k2 s1' hk, g2.1]
 | none =>
  have hxc := pl hx hpx
  obtain ⟨hwx, h1⟩ := stepX_get hxc h1
  simp only [frL, Option.getD_some] at h1
  cases hpy : qId A y with
  | some k' =>
   obtain ⟨c', r', ψ', hψ', rfl, k1', k2'⟩ := pc_sstep hS hpy (pu hby hpy) h2 hφ2
   have hk := commB_keep' hc h1 (qId_cv hpy)
   have h1' := h1
   rw [<- sstep_orc (orc := [(y.dst.getD 0, r')]) hxc] at h1'
   obtain ⟨s1', g1, g2⟩ := swap hc h1' (k1' s1 _ _ (fun _ _ => rfl) orc_one) hψ'
   have hk2 : ∀ z ∈ looks ds y, s1.ρ z = s.ρ z := fun z hz => (hk z hz).symm
   rw [k1' s _ _ hk2 orc_one] at g1
   simp only [Option.some.injEq, Prod.mk.injEq, and_true] at g1
   rw [sstep_orc hxc, <- g1] at g2
   refine ⟨_, k2' s hk2, stepX_put hxc ?_ g2⟩
   rw [<- hwx]
   exact wOk_agree (ds := ds) fun z hz => putv_ρ fun e he => a3 e he z hz
  | none =>
   have hyc := pl hy hpy
   obtain ⟨hwy, h2⟩ := stepX_get hyc h2
   simp only [frL, Option.getD_some] at h2
   obtain ⟨s1', g1, g2⟩ := swap hc h1 h2 hφ2
   refine ⟨s1', stepX_put hyc ?_ g1, stepX_put hxc ?_ g2⟩
   ·rw [<- hwy]; exact wOk_agree (ds := ds) (commB_ρ hc h1)
   ·rw [<- hwx]; exact (wOk_agree (ds := ds) (commB_ρ' hc g1)).symm
theorem q_loc (hq : isQ A o = true) (h : stepX cx S A (some gr) ds o s = some (s1, φ)) : ∃ v, s1 = putv s o.dst v /\ ∀ t : St, (∀ z ∈ looks ds o, s.ρ z = t.ρ z) -> s.H = t.H -> stepX cx S A (some gr) ds o t = some (putv t o.dst v, φ) := by
 unfold isQ at hq
 split at hq
 ·obtain ⟨k, hk⟩ := Option.isSome_iff_exists.1 hq
  obtain ⟨c, r, e1, _, e2, _⟩ := q_inv hk h
  exact ⟨_, e1, fun t ht hH => e2 t ht (.inl hH)⟩
 ·rename_i hcv
  have hcv : isCV o = false := by simpa using hcv
  obtain ⟨hw, h⟩ := stepX_get hcv h
  simp only [Bool.or_eq_true, beq_iff_eq] at hq
  have hV : isV (opCls o.op) = true := by rcases hq with h | h <;> rw [h] <;> rfl
  have hA : opCls o.op ≠ .A := by rcases hq with h | h <;> rw [h] <;> simp
  obtain ⟨v, ob, e1, e2, _, e4⟩ := step_loc hV h
  have hob : ob = none := by
   cases ob with
   | none => rfl
   | some b => exact absurd (e2 b rfl).1 hA
  subst hob
  refine ⟨v, e1, fun t ht hH => ?_⟩
  refine stepX_put hcv (wOk_ne (by rcases hq with h | h <;> rw [h] <;> simp)) ?_
  exact e4 t ht ⟨fun _ z p _ _ => .inl (by rw [hH]), fun h => absurd h hA⟩
theorem store_op (hx : opCls x.op = .store) : ∃ t a b, x.op = .store t a b := by
 cases hop : x.op <;> simp [hop, opCls] at hx <;> first | exact ⟨_, _, _, rfl⟩ | skip
 case call c =>
  obtain ⟨callee, args, ts⟩ := c
  cases callee with
  | builtin b => cases b <;> simp at hx
  | _ => simp at hx
theorem store_ncv (hx : opCls x.op = .store) : isCV x = false := by
 obtain ⟨t, a, b, hop⟩ := store_op hx
 simp [isCV, hop]
theorem store_at {orc : List (Tmp × AV)} {t : TypeId} {a b : Operand} (hop : x.op = .store t a b) (hd : x.dst = none) (h : sstep cx gr orc ds x s = some (s1, φ1)) : ∀ q, refOf (stripV (aev cx s.ρ a)) ≠ some q -> s1.H q = s.H q := by
 unfold sstep at h
 split at h
 case h_1 => cases h
 simp only [hop, sstore] at h
 split at h
 ·split at h
  ·rename_i H' φ' hv
   cases h
   unfold vstore at hv
   split at hv
   case h_2 => cases hv
   rename_i o i c hx
   split at hv
   case h_2 => cases hv
   cases hv
   intro q hq
   have : q ≠ o := fun e => hq (by rw [hx, e]; rfl)
   rw [hd]
   exact upd_ne _ _ this
  ·cases h
 ·cases h
  intro q _
  rw [hd]; rfl
theorem wOk_store {t : TypeId} {a b : Operand} (hop : x.op = .store t a b) (hg : gr.contains 999999 = true) (h : wOk cx (some gr) x s = true) : ∀ q, gr.contains q = false -> refOf (stripV (aev cx s.ρ a)) ≠ some q := by
 intro q hq e
 simp only [wOk, hop, hg, Bool.not_true, Bool.false_or, e, hq, Bool.false_and] at h
 cases h
theorem swapW (hg : gr.contains 999999 = true) (hap : apartA ds x y = true) (hc : (opCls x.op = .store /\ x.dst = none /\ isCV y = false /\ opCls y.op = .L) \/ (isCV x = false /\ opCls x.op = .L /\ opCls y.op = .store /\ y.dst = none))
  (h1 : stepX cx S A (some gr) ds x s = some (s1, φ1)) (h2 : stepX cx S A (some gr) ds y s1 = some (s2, φ2)) :
  ∃ s1', stepX cx S A (some gr) ds y s = some (s1', φ2) /\ stepX cx S A (some gr) ds x s1' = some (s2, φ1) := by
 obtain ⟨a1, a2, a3⟩ := apartA_spec hap
 rcases hc with ⟨hx, hxd, hyc, hy⟩ | ⟨hxc, hx, hy, hyd⟩
 ·obtain ⟨ty, a, b, hop⟩ := store_op hx
  have hxc := store_ncv hx
  obtain ⟨hwx, h1⟩ := stepX_get hxc h1
  obtain ⟨hwy, h2⟩ := stepX_get hyc h2
  obtain ⟨H', e1, hF⟩ := store_loc hx hxd h1
  have hat := store_at hop hxd h1
  obtain ⟨v, ob, e2, e3, hout, hG⟩ := step_loc (by rw [hy]; rfl) h2
  have hob : ob = none := by
   cases ob with
   | none => rfl
   | some b => have := (e3 b rfl).1; rw [hy] at this; cases this
  subst hob
  subst e1
  have g1 := hG s (fun _ _ => rfl) ⟨fun _ z p hz hp => by
   refine .inl (hat p (wOk_store hop hg hwx p ?_))
   have ho := hout hy
   unfold headOut at ho
   cases hz' : opnds y.op with
   | nil => rw [hz'] at hz; cases hz
   | cons z0 r =>
    rw [hz'] at hz ho
    cases hz
    simp only [outside, hp] at ho
    simpa [frL] using ho, fun h => by rw [hy] at h; cases h⟩
  refine ⟨_, stepX_put hyc (wOk_ne (by rw [hy]; simp)) g1, ?_⟩
  have g2 := hF (app s y.dst v none) (fun z hz => (app_ρ fun d hd => a3 d hd z hz).symm) (by cases y.dst <;> rfl)
  refine stepX_put hxc ?_ ?_
  ·rw [<- hwx]
   exact (wOk_agree (ds := ds) fun z hz => (app_ρ fun d hd => a3 d hd z hz).symm).symm
  ·rw [show sstep cx (frL (some gr)) [] ds x (app s y.dst v none) = _ from g2, e2]
   cases y.dst <;> rfl
 ·obtain ⟨ty, a, b, hop⟩ := store_op hy
  have hyc := store_ncv hy
  obtain ⟨hwx, h1⟩ := stepX_get hxc h1
  obtain ⟨hwy, h2⟩ := stepX_get hyc h2
  obtain ⟨v, ob, e1, e3, hout, hG⟩ := step_loc (by rw [hx]; rfl) h1
  have hob : ob = none := by
   cases ob with
   | none => rfl
   | some b => have := (e3 b rfl).1; rw [hx] at this; cases this
  subst hob
  subst e1
  obtain ⟨H', e2, hF⟩ := store_loc hy hyd h2
  have hH : (app s x.dst v none).H = s.H := by cases x.dst <;> rfl
  have hlk : ∀ z ∈ looks ds y, (app s x.dst v none).ρ z = s.ρ z := fun z hz => app_ρ fun d hd => a1 d hd z hz
  have hat := store_at hop hyd h2
  have g1 := hF s hlk hH
  refine ⟨_, stepX_put hyc (by rw [<- hwy]; exact (wOk_agree (ds := ds) hlk).symm) g1, ?_⟩
  have g2 := hG { s with H := H' } (fun _ _ => rfl) ⟨fun _ z p hz hp => by
   have ho := hout hx
   unfold headOut at ho
   cases hz' : opnds x.op with
   | nil => rw [hz'] at hz; cases hz
   | cons z0 r =>
    rw [hz'] at hz ho
    cases hz
    simp only [outside, hp] at ho
    have := hat p (wOk_store hop hg hwy p (by simpa [frL] using ho))
    rw [e2, hH] at this
    exact .inl this.symm, fun h => by rw [hx] at h; cases h⟩
  refine stepX_put hxc (wOk_ne (by rw [hx]; simp)) ?_
  rw [g2, e2]
  cases x.dst <;> rfl
theorem store_one {orc : List (Tmp × AV)} {t : TypeId} {a b : Operand} {p : Nat} (hop : x.op = .store t a b) (hd : x.dst = none) (h : sstep cx gr orc ds x s = some (s1, φ1)) (hp : refOf (stripV (aev cx s.ρ a)) = some p) :
  (∃ ob', s1 = { s with H := upd s.H p (some ob') } /\ ∀ u : St, (∀ z ∈ looks ds x, s.ρ z = u.ρ z) -> s.H p = u.H p -> sstep cx gr orc ds x u = some ({ u with H := upd u.H p (some ob') }, φ1)) \/
  (s1 = s /\ ∀ u : St, (∀ z ∈ looks ds x, s.ρ z = u.ρ z) -> sstep cx gr orc ds x u = some (u, φ1)) := by
 have hae : ∀ t : St, (∀ z ∈ looks ds x, s.ρ z = t.ρ z) -> ∀ z ∈ opnds x.op, aev cx s.ρ z = aev cx t.ρ z := fun t ht z hz => aev_agree fun t' ht' => ht t' (looks_op hz ht')
 unfold sstep at h
 split at h
 case h_1 => cases h
 rename_i c hc
 have hst : ∀ t : St, (∀ z ∈ looks ds x, s.ρ z = t.ρ z) -> gcond ds t.ρ x.guard = some c := fun t ht => (gcond_agree ht).symm.trans hc
 simp only [hop, sstore] at h
 split at h
 ·split at h
  ·rename_i H' φ' hv
   cases h
   unfold vstore at hv
   split at hv
   case h_2 => cases hv
   rename_i o i c' hx
   rw [hx] at hp
   cases hp
   split at hv
   case h_2 => cases hv
   rename_i ob xs χ hH hcells
   cases hv
   left
   refine ⟨_, by rw [hd]; rfl, fun u hu hHu => ?_⟩
   have e := hae u hu
   simp only [hop, opnds] at e
   unfold sstep
   rw [hst u hu]
   simp only [hop, sstore]
   rw [<- e a (by simp), <- e b (by simp), hx]
   simp only [vstore, <- hHu, hH, hcells, hd]
   rfl
  ·cases h
 ·cases h
  right
  refine ⟨by rw [hd]; rfl, fun u hu => ?_⟩
  unfold sstep
  rw [hst u hu]
  simp only [hop, sstore, hd]
  rfl
theorem app_upd {s : St} {d : Option Tmp} {v : AV} {ob : Option Ob} {p : Nat} {ob' : Option Ob} (h : ∀ e, d = some e -> p ≠ e) : ({ app s d v ob with H := upd (app s d v ob).H p ob' } : St) = app { s with H := upd s.H p ob' } d v ob := by
 cases d with
 | none => cases ob <;> rfl
 | some e =>
  cases ob with
  | none => rfl
  | some b =>
   simp only [app, putv]
   rw [upd_comm _ _ _ (h e rfl).symm]
theorem swapN (hg : gr.contains 999999 = true) (hap : apartA ds x y = true) (hc : (opCls x.op = .store /\ x.dst = none /\ opCls y.op = .A /\ mkD gr y = true) \/ (opCls x.op = .A /\ mkD gr x = true /\ opCls y.op = .store /\ y.dst = none))
  (h1 : stepX cx S A (some gr) ds x s = some (s1, φ1)) (h2 : stepX cx S A (some gr) ds y s1 = some (s2, φ2)) :
  ∃ s1', stepX cx S A (some gr) ds y s = some (s1', φ2) /\ stepX cx S A (some gr) ds x s1' = some (s2, φ1) := by
 obtain ⟨a1, a2, a3⟩ := apartA_spec hap
 have aN : ∀ {o : Oper}, opCls o.op = .A -> isCV o = false := fun {o} h => by
  cases hcv : isCV o with
  | false => rfl
  | true =>
   obtain ⟨cl, f, h1, h2⟩ := isCV_spec hcv
   rw [h1] at h
   simp only [opCls, h2] at h
   cases h
 have tgt : ∀ {o : Oper} {s : St} {t : TypeId} {a b : Operand}, o.op = .store t a b -> wOk cx (some gr) o s = true -> ∃ p, refOf (stripV (aev cx s.ρ a)) = some p /\ (gr.contains (p + 700000) = false \/ a = .tmp p) := fun {o s t a b} hop hw => by
  simp only [wOk, hop, hg, Bool.not_true, Bool.false_or] at hw
  split at hw
  ·rename_i p hp
   simp only [Bool.and_eq_true, Bool.or_eq_true, Bool.not_eq_true'] at hw
   exact ⟨p, hp, hw.2.imp id isT_spec⟩
  ·cases hw
 have hmk : ∀ {o : Oper} {p : Nat}, mkD gr o = true -> gr.contains (p + 700000) = false -> ∀ e, o.dst = some e -> p ≠ e := fun {o p} h1 h2 e he hpe => by
  subst hpe
  simp only [mkD, he] at h1
  rw [h1] at h2; cases h2
 rcases hc with ⟨hx, hxd, hy, hm⟩ | ⟨hx, hm, hy, hyd⟩
 ·obtain ⟨ty, a, b, hop⟩ := store_op hx
  have hxc := store_ncv hx
  have hyc := aN hy
  obtain ⟨hwx, h1⟩ := stepX_get hxc h1
  obtain ⟨hwy, h2⟩ := stepX_get hyc h2
  obtain ⟨p, hp, hpm⟩ := tgt hop hwx
  obtain ⟨v, ob, e2, e3, _, hG⟩ := step_loc (by rw [hy]; rfl) h2
  have hne : ∀ e, y.dst = some e -> p ≠ e := fun e he => hpm.elim (fun h => hmk hm h e he) (fun h => a3 e he p (looks_op (x := .tmp p) (by rw [hop, h]; simp [opnds]) rfl))
  have hwy' : ∀ t, wOk cx (some gr) y t = true := fun t => wOk_ne (by rw [hy]; simp)
  have hwx' : ∀ t : St, (∀ z ∈ looks ds x, s.ρ z = t.ρ z) -> wOk cx (some gr) x t = true := fun t ht => by rw [<- hwx]; exact (wOk_agree (ds := ds) ht).symm
  have hlk : ∀ z ∈ looks ds x, s.ρ z = (app s y.dst v ob).ρ z := fun z hz => (app_ρ fun d hd => a3 d hd z hz).symm
  rcases store_one hop hxd h1 hp with ⟨ob', rfl, hF⟩ | ⟨rfl, hF⟩
  ·have g1 := hG s (fun _ _ => rfl) ⟨(fun h => by rw [hy] at h; cases h), fun _ d hd => by show upd _ _ _ _ = _ ↔ _; rw [upd_ne _ _ (hne d hd).symm]⟩
   have hHp : s.H p = (app s y.dst v ob).H p := (app_H fun d b hd _ e => hne d hd e).symm
   refine ⟨_, stepX_put hyc (hwy' _) g1, stepX_put hxc (hwx' _ hlk) ?_⟩
   rw [show sstep cx (frL (some gr)) [] ds x (app s y.dst v ob) = _ from hF _ hlk hHp, app_upd hne, e2]
  ·refine ⟨_, stepX_put hyc (hwy' _) (by rw [<- e2]; exact h2), stepX_put hxc (hwx' _ hlk) ?_⟩
   rw [show sstep cx (frL (some gr)) [] ds x (app s1 y.dst v ob) = _ from hF _ hlk, e2]
 ·obtain ⟨ty, a, b, hop⟩ := store_op hy
  have hyc := store_ncv hy
  have hxc := aN hx
  obtain ⟨hwx, h1⟩ := stepX_get hxc h1
  obtain ⟨hwy, h2⟩ := stepX_get hyc h2
  obtain ⟨p, hp, hpm⟩ := tgt hop hwy
  have hne : ∀ e, x.dst = some e -> p ≠ e := fun e he => hpm.elim (fun h => hmk hm h e he) (fun h => a1 e he p (looks_op (x := .tmp p) (by rw [hop, h]; simp [opnds]) rfl))
  obtain ⟨v, ob, rfl, e3, _, hG⟩ := step_loc (by rw [hx]; rfl) h1
  have hlk : ∀ z ∈ looks ds y, (app s x.dst v ob).ρ z = s.ρ z := fun z hz => app_ρ fun d hd => a1 d hd z hz
  have hHp : (app s x.dst v ob).H p = s.H p := app_H fun d b hd _ e => hne d hd e
  have hwx' : ∀ t, wOk cx (some gr) x t = true := fun t => wOk_ne (by rw [hx]; simp)
  have hwy' : wOk cx (some gr) y s = true := by rw [<- hwy]; exact (wOk_agree (ds := ds) hlk).symm
  rcases store_one hop hyd h2 hp with ⟨ob', rfl, hF⟩ | ⟨rfl, hF⟩
  ·refine ⟨_, stepX_put hyc hwy' (hF s hlk hHp), stepX_put hxc (hwx' _) ?_⟩
   have g2 := hG { s with H := upd s.H p (some ob') } (fun _ _ => rfl) ⟨(fun h => by rw [hx] at h; cases h), fun _ d hd => by show _ ↔ upd _ _ _ _ = _; rw [upd_ne _ _ (hne d hd).symm]⟩
   rw [show sstep cx (frL (some gr)) [] ds x { s with H := upd s.H p (some ob') } = _ from g2, app_upd hne]
  ·exact ⟨s, stepX_put hyc hwy' (hF s hlk), stepX_put hxc (hwx' _) h1⟩
theorem kset_sub {fr gr : List Nat} (h : ∀ k, fr.contains k = true -> gr.contains k = true) {t : Nat} (ht : (kset fr).contains t = true) : (kset gr).contains t = true := by
 simp only [kset, List.contains_eq_mem, List.mem_filterMap, decide_eq_true_eq] at ht ⊢
 obtain ⟨k, h1, h2⟩ := ht
 exact ⟨k, by simpa using h k (by simpa using h1), h2⟩
theorem okY_sub {fr gr : List Nat} (h : ∀ k, fr.contains k = true -> gr.contains k = true) (ho : okY fr ds y = true) : okY gr ds y = true := by
 simp only [okY, Bool.and_eq_true] at ho ⊢
 obtain ⟨⟨h1, h2⟩, h3⟩ := ho
 refine ⟨⟨h1, ?_⟩, ?_⟩
 ·rw [List.all_eq_true] at h2 ⊢
  exact fun z hz => kset_sub h (h2 z hz)
 ·cases hd : y.dst with
  | none => rfl
  | some e => rw [hd] at h3; exact kset_sub h h3
theorem commB_sub {fr gr : List Nat} (h : ∀ k, fr.contains k = true -> gr.contains k = true) (hc : commB fr ds x y = true) : commB gr ds x y = true := by
 simp only [commB, Bool.and_eq_true, Bool.or_eq_true] at hc ⊢
 obtain ⟨h1, h2⟩ := hc
 refine ⟨h1, ?_⟩
 rcases h2 with (⟨⟨h2, h3⟩, h4⟩ | h2) | h2
 ·refine .inl (.inl ⟨⟨h2, h3⟩, ?_⟩)
  rcases h4 with h4 | h4
  ·exact .inl h4
  ·right
   cases hd : x.dst with
   | none => rfl
   | some d => rw [hd] at h4; exact h d h4
 ·exact .inl (.inr h2)
 ·exact .inr h2
theorem commA_sub {fr gr : List Nat} (h : ∀ k, fr.contains k = true -> gr.contains k = true) (hc : commA fr ds x y = true) : commA gr ds x y = true := by
 simp only [commA, Bool.and_eq_true, Bool.or_eq_true] at hc ⊢
 exact ⟨hc.1, hc.2.imp (fun h' => ⟨h'.1, okY_sub h h'.2⟩) (fun h' => ⟨h'.1, okY_sub h h'.2⟩)⟩
theorem swapX (hcx : CxOk cx) (hS : SigF cx.P cx.G S) {fl wm : Bool} (hsub : ∀ k, fr.contains k = true -> gr.contains k = true) (hwm : wm = true -> gr.contains 999999 = true) (hc : commX A fl wm fr ds x y = true) (hJ : fl = true -> isY x.op = true -> ∀ d, x.dst = some d -> s.ρ d = .junk)
  (h1 : stepX cx S A (some gr) ds x s = some (s1, φ1)) (hφ1 : φ1) (h2 : stepX cx S A (some gr) ds y s1 = some (s2, φ2)) (hφ2 : φ2) :
  ∃ s1', stepX cx S A (some gr) ds y s = some (s1', φ2) /\ stepX cx S A (some gr) ds x s1' = some (s2, φ1) := by
 unfold commX at hc
 split at hc
 ·rename_i hq
  rw [Bool.and_eq_true] at hq
  obtain ⟨a1, a2, a3⟩ := apartA_spec hc
  obtain ⟨v, rfl, hF⟩ := q_loc hq.1 h1
  obtain ⟨u, rfl, hG⟩ := q_loc hq.2 h2
  refine ⟨_, hG s (fun z hz => putv_ρ fun d hd => a1 d hd z hz) (by rw [putv_H]), ?_⟩
  rw [hF _ (fun z hz => (putv_ρ fun e he => a3 e he z hz).symm) (by rw [putv_H]), putv_comm fun d e hd he => (a2 e d he hd).symm]
 split at hc
 ·rename_i hw
  simp only [Bool.and_eq_true, Bool.or_eq_true, beq_iff_eq, Bool.not_eq_true'] at hw
  refine swapW (hwm hw.1) hc ?_ h1 h2
  rcases hw.2 with ⟨⟨⟨h1, h2⟩, h3⟩, h4⟩ | ⟨⟨⟨h1, h2⟩, h3⟩, h4⟩
  ·exact .inl ⟨h1, h2, h3, h4⟩
  ·exact .inr ⟨h1, h2, h3, h4⟩
 split at hc
 ·rename_i hw
  simp only [Bool.and_eq_true, Bool.or_eq_true, beq_iff_eq] at hw
  have hmk : ∀ {o : Oper}, mkD fr o = true -> mkD gr o = true := fun {o} h => by
   unfold mkD at h ⊢
   split at h
   ·exact hsub _ h
   ·cases h
  refine swapN (hwm hw.1) hc ?_ h1 h2
  rcases hw.2 with ⟨⟨⟨h1, h2⟩, h3⟩, h4⟩ | ⟨⟨⟨h1, h2⟩, h3⟩, h4⟩
  ·exact .inl ⟨h1, h2, h3, hmk h4⟩
  ·exact .inr ⟨h1, hmk h2, h3, h4⟩
 cases fl with
 | false =>
  simp only [Bool.false_eq_true, if_false, Bool.and_eq_true, Bool.not_eq_true'] at hc
  obtain ⟨⟨⟨⟨hx, hy⟩, hbx⟩, hby⟩, hc⟩ := hc
  exact swapB hS (commB_sub hsub hc) hx hy hbx hby h1 hφ1 h2 hφ2
 | true =>
  simp only [if_true] at hc
  cases hx : isHV A x with
  | true =>
   simp only [hx, if_true, Bool.and_eq_true] at hc
   obtain ⟨hap, hky0⟩ := hc
   have hky := okY_sub hsub hky0
   obtain ⟨a1, a2, a3⟩ := apartA_spec hap
   have hy := okY_noCV hky
   have hxc := (isHV_spec hx).1
   have hwy : ∀ t : St, wOk cx (some gr) y t = true := fun t => wOk_ne (by
    have := okY_isY hky
    unfold isY at this
    split at this <;> first | (rename_i h; rw [h]; simp [opCls]) | cases this)
   obtain ⟨_, h2⟩ := stepX_get hy h2
   rcases callX_inv hx hS h1 hφ1 with ⟨r, rfl, hF⟩ | ⟨hh, φ', hφ', hD, hF⟩
   ·obtain ⟨u, rfl, _, hG⟩ := okY_loc (D := fun _ => true) hcx hky h2 (fun z hz => refs_all (fun _ => rfl) _)
    have g1 := hG s (fun z hz => putv_ρ fun d hd => a1 d hd z hz) (fun p _ => by rw [putv_H])
    refine ⟨_, stepX_put hy (hwy _) g1, ?_⟩
    rw [hF (putv s y.dst u) (fun z hz => (putv_ρ fun e he => a3 e he z hz).symm) putv_H.symm]
    rw [putv_comm fun d e hd he => (a2 e d he hd).symm]
   ·have hcD : commD ([(x.dst.getD 0, hh)].map (·.1)) gr ds x y = true := by
     unfold commD
     have := isHC_one (x := x) hxc rfl
     simp [this, hap, hky]
    have h2' : stepD cx gr [(x.dst.getD 0, hh)] [] ds y s1 = some (s2, φ2) := by rw [stepD_nCV hy]; exact h2
    obtain ⟨s1', k1, k2⟩ := swapD hcx hcD (hJ rfl) hD hφ' h2' hφ2
    rw [stepD_nCV hy] at k1
    refine ⟨s1', stepX_put hy (hwy _) k1, ?_⟩
    obtain ⟨u, rfl, _, _⟩ := okY_loc (D := fun _ => true) hcx hky k1 (fun z hz => refs_all (fun _ => rfl) _)
    exact hF _ _ (fun z hz => (putv_ρ fun e he => a3 e he z hz).symm) putv_H.symm k2
  | false =>
   simp only [hx, Bool.false_eq_true, if_false] at hc
   cases hy : isHV A y with
   | true =>
    simp only [hy, if_true, Bool.and_eq_true] at hc
    obtain ⟨hap, hkx0⟩ := hc
    have hkx := okY_sub hsub hkx0
    obtain ⟨a1, a2, a3⟩ := apartA_spec hap
    have hxc := okY_noCV hkx
    have hyc := (isHV_spec hy).1
    have hwx : ∀ t : St, wOk cx (some gr) x t = true := fun t => wOk_ne (by
     have := okY_isY hkx
     unfold isY at this
     split at this <;> first | (rename_i h; rw [h]; simp [opCls]) | cases this)
    obtain ⟨_, h1⟩ := stepX_get hxc h1
    obtain ⟨u0, e0, _, hG0⟩ := okY_loc (D := fun _ => true) hcx hkx h1 (fun z hz => refs_all (fun _ => rfl) _)
    have hkeep : ∀ z ∈ looks ds y, s1.ρ z = s.ρ z := fun z hz => by rw [e0]; exact putv_ρ fun e he => a1 e he z hz
    have hH : s1.H = s.H := by rw [e0]; exact putv_H
    rcases callX_inv hy hS h2 hφ2 with ⟨r, rfl, hF⟩ | ⟨hh, φ', hφ', hD, hF⟩
    ·refine ⟨_, hF s hkeep hH, stepX_put hxc (hwx _) ?_⟩
     have := hG0 (putv s y.dst r) (fun z hz => (putv_ρ fun e he => a3 e he z hz).symm) (fun p _ => by rw [putv_H])
     refine Eq.trans this ?_
     rw [e0, putv_comm a2]
    ·have hcD : commD ([(y.dst.getD 0, hh)].map (·.1)) gr ds x y = true := by
      unfold commD
      have h1 := isHC_one (x := y) hyc rfl
      have h2 := isHC_no (hk := [y.dst.getD 0]) hxc
      simp [h1, h2, hap, hkx]
     have h1' : stepD cx gr [(y.dst.getD 0, hh)] [] ds x s = some (s1, φ1) := by rw [stepD_nCV hxc]; exact h1
     obtain ⟨s1', k1, k2⟩ := swapD hcx hcD (hJ rfl) h1' hφ1 hD hφ'
     rw [stepD_nCV hxc] at k2
     exact ⟨s1', hF _ _ hkeep hH k1, stepX_put hxc (hwx _) k2⟩
   | false =>
    simp only [hy, Bool.false_eq_true, if_false, Bool.and_eq_true, Bool.not_eq_true', Bool.or_eq_true] at hc
    obtain ⟨⟨hbx, hby⟩, hc⟩ := hc
    rcases hc with hc | hc
    ·exact swapB hS (commB_sub hsub hc) hx hy hbx hby h1 hφ1 h2 hφ2
    ·have hc2 := commA_sub hsub hc
     have hno : isCV x = false /\ isCV y = false /\ opCls x.op ≠ .store /\ opCls y.op ≠ .store := by
      simp only [commA, Bool.and_eq_true, Bool.or_eq_true, beq_iff_eq] at hc
      have happ : ∀ {o : Oper}, opCls o.op = .append -> isCV o = false := fun {o} h => by
       cases hcv : isCV o with
       | false => rfl
       | true =>
        obtain ⟨cl, f, h1, h2⟩ := isCV_spec hcv
        rw [h1] at h
        simp only [opCls, h2] at h
        cases h
      have hY : ∀ {o : Oper}, okY fr ds o = true -> opCls o.op ≠ .store := fun {o} h => by
       have := okY_isY h
       unfold isY at this
       split at this <;> first | (rename_i h; rw [h]; simp [opCls]) | cases this
      rcases hc.2 with ⟨h1, h2⟩ | ⟨h1, h2⟩
      ·exact ⟨happ h1, okY_noCV h2, by rw [h1]; simp, hY h2⟩
      ·exact ⟨okY_noCV h2, happ h1, hY h2, by rw [h1]; simp⟩
     obtain ⟨_, h1⟩ := stepX_get hno.1 h1
     obtain ⟨_, h2⟩ := stepX_get hno.2.1 h2
     obtain ⟨s1', g1, g2⟩ := swapA hcx hc2 (hJ rfl) h1 h2
     exact ⟨s1', stepX_put hno.2.1 (wOk_ne hno.2.2.2) g1, stepX_put hno.1 (wOk_ne hno.2.2.1) g2⟩
theorem stepX_junk {d : Nat} (h : stepX cx S A (some gr) ds o s = some (s1, φ)) (hd : o.dst ≠ some d) (hj : s.ρ d = .junk) : s1.ρ d = .junk := by
 cases hcv : isCV o with
 | false => exact sstep_junk (stepX_get hcv h).2 hd hj
 | true =>
  cases hpc : qId A o with
  | some k =>
   obtain ⟨c, r, rfl, _⟩ := q_inv hpc h
   rw [putv_ρ fun e he e2 => hd (by rw [he, e2])]; exact hj
  | none =>
  obtain ⟨cl, f, h1, h2⟩ := isCV_spec hcv
  rw [stepX_cv h1 h2 hpc] at h
  split at h
  ·simp only [stCall] at h
   split at h
   case h_2 => cases h
   split at h
   ·simp only [stB] at h
    split at h
    ·cases h
     rw [putv_ρ fun e he e2 => hd (by rw [he, e2])]; exact hj
    ·cases h
   ·simp only [stH] at h
    split at h
    ·split at h
     case isFalse => cases h
     cases h
     rw [putv_ρ fun e he e2 => hd (by rw [he, e2]), dropAll_eq]
     show killL _ (s.ρ d) = _
     rw [hj, killL_junk]
    ·cases h
  ·simp only [stNo] at h; cases h
  ·cases h
end Go.Aw

