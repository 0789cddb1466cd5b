/- A framework of the hand for programs over the model: abstract values, an interpreter, that it is sound. Own work. -/
import Derived.RangeFuncSeq
import Derived.RangeFuncLeaves
import Derived.Scope
import Derived.Test.YtfdipcpmfoidoaaDoorCAw3
/- An append ahead of what only reads. Own work. -/
namespace Go.Aw
open Go
def flatV : AV -> Bool
 | .int .. | .bool _ | .str _ | .nilp | .nilsl | .ro .. | .rop .. | .nilf | .nili | .nilm => true
 | .agg cs => fls cs
 | _ => false
where
 fls : List AV -> Bool
 | [] => true
 | x :: l => flatV x && fls l
theorem flatVs_iff : ∀ {l : List AV}, flatV.fls l = true ↔ ∀ x ∈ l, flatV x = true
 | [] => by simp [flatV.fls]
 | x :: l => by
  rw [flatV.fls, Bool.and_eq_true, flatVs_iff]
  simp
def hardV : AV -> Bool
 | .ptr .. | .sl .. | .asl .. => true
 | x => flatV x
theorem flat_hard {x : AV} (h : flatV x = true) : hardV x = true := by cases x <;> first | exact h | cases h
theorem flat_kill {o : Nat} {a : AV} : flatV a = true -> kill o a = a := by
 induction a using AV.ind with
 | agg cs ih =>
  intro h
  simp only [kill, sub]
  rw [subs_eq]
  conv => rhs; rw [<- List.map_id cs]
  congr 1
  exact List.map_congr_left fun y hy => ih y hy (flatVs_iff.1 h y hy)
 | tup cs _ => intro h; cases h
 | fn f a b _ _ => intro h; cases h
 | gd b v _ => intro h; cases h
 | ifc t v _ => intro h; cases h
 | leaf x hx => intro h; cases x <;> first | rfl | cases h | cases hx
theorem kill_flat {o : Nat} {a : AV} : flatV (kill o a) = true -> kill o a = a := by
 induction a using AV.ind with
 | agg cs ih =>
  intro h
  simp only [kill, sub] at h ⊢
  rw [subs_eq] at h ⊢
  conv => rhs; rw [<- List.map_id cs]
  congr 1
  exact List.map_congr_left fun y hy => ih y hy (flatVs_iff.1 h _ (List.mem_map.2 ⟨y, hy, rfl⟩))
 | tup cs _ => intro h; cases h
 | fn f a b _ _ => intro h; cases h
 | gd b v _ => intro h; cases h
 | ifc t v _ => intro h; cases h
 | leaf x hx => intro h; cases x <;> first | rfl | (simp only [kill, sub] at h ⊢; split at h <;> first | (rename_i h2; rw [if_neg h2]; done) | cases h) | cases hx
theorem hard_kill {o : Nat} {a : AV} (h : hardV (kill o a) = true) : kill o a = a := by
 cases a <;> first | exact kill_flat h | (simp only [kill, sub] at h ⊢; split at h <;> first | (rename_i h2; rw [if_neg h2]; done) | cases h)
theorem hard_killO {q : Option Nat} {a : AV} (h : hardV (killO q a) = true) : killO q a = a := by
 cases q with
 | none => rfl
 | some o => exact hard_kill h
theorem flat_killO {q : Option Nat} {a : AV} (h : flatV a = true) : killO q a = a := by
 cases q with
 | none => rfl
 | some o => exact flat_kill h
theorem stripV_kill {o : Nat} : ∀ {a : AV}, stripV (kill o a) = kill o (stripV a)
 | .gd _ v => stripV_kill (a := v)
 | .ptr .. => by simp only [kill, sub, stripV]; split <;> rfl
 | .sl .. => by simp only [kill, sub, stripV]; split <;> rfl
 | .asl .. => by simp only [kill, sub, stripV]; split <;> rfl
 | .mp .. => by simp only [kill, sub, stripV]; split <;> rfl
 | .agg _ | .tup _ | .fn .. | .ifc .. | .junk | .int .. | .bool _ | .str _ | .nilp | .rop .. | .nilsl | .ro .. | .nilf | .nili | .nilm => rfl
theorem stripB_kill {o : Nat} : ∀ {a : AV}, stripB (kill o a) = stripB a
 | .gd b v => by
  have := stripB_kill (o := o) (a := v)
  simp only [kill] at this
  simp only [kill, sub, stripB, this]
 | .ptr .. => by simp only [kill, sub, stripB]; split <;> rfl
 | .sl .. => by simp only [kill, sub, stripB]; split <;> rfl
 | .asl .. => by simp only [kill, sub, stripB]; split <;> rfl
 | .mp .. => by simp only [kill, sub, stripB]; split <;> rfl
 | .agg _ | .tup _ | .fn .. | .ifc .. | .junk | .int .. | .bool _ | .str _ | .nilp | .rop .. | .nilsl | .ro .. | .nilf | .nili | .nilm => rfl
theorem stripV_killO {q : Option Nat} {a : AV} : stripV (killO q a) = killO q (stripV a) := by
 cases q with
 | none => rfl
 | some o => exact stripV_kill
theorem stripB_killO {q : Option Nat} {a : AV} : stripB (killO q a) = stripB a := by
 cases q with
 | none => rfl
 | some o => exact stripB_kill
def arith : BinOp -> Bool
 | .add | .sub | .mul | .quo | .rem | .and | .or | .xor | .andNot | .shl | .shr | .lss | .leq | .gtr | .geq => true
 | _ => false
theorem bin_hard {P : Program} {op : BinOp} {t : TypeId} {x y : AV} {v : AV} {φ : Prop} (ha : arith op = true) (h : binv P op t x y = some (v, φ)) : flatV x = true /\ flatV y = true /\ flatV v = true := by
 unfold binv at h
 split at h
 ·refine ⟨rfl, rfl, ?_⟩
  split at h
  ·cases h; rfl
  ·cases h; rfl
  ·split at h
   ·split at h <;> first | (cases h; rfl) | cases h
   ·cases h
 ·refine ⟨rfl, rfl, ?_⟩
  split at h <;> first | (cases h; rfl) | cases h
 case h_11 =>
  cases hl : leaves P t with
  | none => rw [hl] at h; cases h
  | some ks =>
   rw [hl] at h
   revert h
   simp only
   generalize eqL ks _ _ = r
   intro h
   cases op <;> first | (cases r <;> cases h; done) | cases ha
 all_goals first
  | (split at h <;> first | cases ha | cases h)
  | cases h
theorem len_nat {P : Program} {t : TypeId} {q : Option Nat} {a : AV} {v : AV} {φ : Prop} (h : vlen P t (killO q a) = some (v, φ)) : vlen P t a = some (v, φ) /\ flatV v = true := by
 have hf : ∀ {x : AV}, vlen P t x = some (v, φ) -> flatV v = true := fun {x} h => by
  unfold vlen at h
  split at h <;> first | (cases h; rfl) | (split at h <;> first | (cases h; rfl) | cases h)
 refine ⟨?_, hf h⟩
 by_cases hk : hardV (killO q a) = true
 ·rwa [hard_killO hk] at h
 ·have hs : ∀ x : AV, hardV x ≠ true -> vlen P t x = (match P.underlying t with | some (.array n _) => some (.int .i64 n, True) | _ => none) := fun x hx => by
   unfold vlen
   split <;> first | exact absurd rfl hx | rfl
  rw [hs _ hk] at h
  split at h
  case h_2 => cases h
  rename_i n e hu
  unfold vlen
  split
  ·exact absurd (tKind_spec.2.2.2.2.2 (by assumption)) (by rw [hu]; simp)
  ·obtain ⟨e', he⟩ := tKind_spec.2.2.1 (by assumption); rw [hu] at he; cases he
  ·obtain ⟨e', he⟩ := tKind_spec.2.2.1 (by assumption); rw [hu] at he; cases he
  ·obtain ⟨e', he⟩ := tKind_spec.2.2.1 (by assumption); rw [hu] at he; cases he
  ·obtain ⟨e', he⟩ := tKind_spec.2.2.1 (by assumption); rw [hu] at he; cases he
  ·simp only [hu]; exact h
def killH : Option Nat -> Hp -> Hp
 | none, H => H
 | some o, H => fun p => if p = o then none else (H p).map (subOb o (fun _ _ => .junk) (fun _ _ => .junk))
def killOb : Option Nat -> Ob -> Ob
 | none, b => b
 | some o, b => subOb o (fun _ _ => .junk) (fun _ _ => .junk) b
theorem killH_ne {q : Option Nat} {H : Hp} {p : Nat} (h : q ≠ some p) : killH q H p = (H p).map (killOb q) := by
 cases q with
 | none => show H p = _; cases H p <;> rfl
 | some o => simp only [killH]; rw [if_neg (fun e => h (by rw [e]))]; rfl
theorem killOb_es {q : Option Nat} {b : Ob} : killOb q b = ⟨b.box, b.sz, b.es.map (killO q)⟩ := by
 cases q with
 | none => simp only [killOb, killO, List.map_id]
 | some o => rfl
theorem cut_killO {q : Option Nat} {e : AV} {c : Nat} {l : Option Nat} : cut (killO q e) c l = killO q (cut e c l) := by
 cases q with
 | none => rfl
 | some o =>
  have hc : (kill o e).cells = e.cells.map (kill o) := cells_sub (fun _ _ => rfl) (fun _ _ => rfl) e
  cases l with
  | none =>
   simp only [cut, killO, hc]
   rw [List.getD_eq_getElem?_getD, List.getElem?_map, List.getD_eq_getElem?_getD]
   cases e.cells[c]? <;> rfl
  | some n =>
   show AV.agg (((kill o e).cells.drop c).take n) = .agg (sub.subs o _ _ ((e.cells.drop c).take n))
   rw [hc, subs_eq, List.map_take, List.map_drop]
   rfl
def appO (cx : Cx) (ρ : Nat -> AV) : Op -> Option Nat
 | .call cl => match cl.args.toList with
  | a :: _ => match stripV (aev cx ρ a) with
   | .sl o _ _ => some o
   | _ => none
  | [] => none
 | _ => none
section
variable {cx : Cx} {fr : List Nat} {orc : List (Tmp × AV)} {ds : List (Option Tmp)} {x y o : Oper} {s s1 s2 : St} {φ φ1 φ2 : Prop}
theorem aev_kill (hcx : CxOk cx) {q : Option Nat} {ρ ρ' : Nat -> AV} {x : Operand} (h : ∀ t, x = .tmp t -> ρ' t = killO q (ρ t)) : aev cx ρ' x = killO q (aev cx ρ x) := by
 cases x with
 | tmp t => exact h t rfl
 | const v => exact (killO_free (D := fun _ => false) (fun _ _ => rfl) (cst_refs v)).symm
 | global g =>
  rcases hcx.pureG g with h | h
  ·exact (killO_free (D := fun _ => false) (fun _ _ => rfl) (pure_refs h)).symm
  ·show cx.G g = killO q (cx.G g)
   rw [h, killO_junk]
 | func f => cases q <;> rfl
theorem append_fine (hx : opCls x.op = .append) (hg : x.guard = none) (h : sstep cx fr orc ds x s = some (s1, φ)) :
  ∃ (d : Nat) (bad : List Nat) (v : AV) (b : Ob), x.dst = some d /\ s1 = ⟨upd (fun t => killO (appO cx s.ρ x.op) (s.ρ t)) d v, upd (killH (appO cx s.ρ x.op) s.H) d (some b)⟩ /\ (∀ o, appO cx s.ρ x.op = some o -> bad.contains o = true) /\ bad.contains d = true /\ (∀ p, bad.contains p = true -> p = d \/ appO cx s.ρ x.op = some p) /\ clearOf fr s.ρ bad = true /\
   ∀ t : St, (∀ z ∈ looks ds x, s.ρ z = t.ρ z) -> (∀ p, s.H p ≠ none \/ p = d -> s.H p = t.H p) -> clearOf fr t.ρ bad = true -> sstep cx fr orc ds x t = some (⟨upd (fun z => killO (appO cx s.ρ x.op) (t.ρ z)) d v, upd (killH (appO cx s.ρ x.op) t.H) d (some b)⟩, φ) := by
 have hae : ∀ t : St, (∀ z ∈ looks ds x, s.ρ z = t.ρ z) -> ∀ z ∈ opnds x.op, aev cx s.ρ z = aev cx t.ρ z := fun t ht z hz => aev_agree fun t' ht' => ht t' (looks_op hz ht')
 have hgc : ∀ ρ, gcond ds ρ x.guard = some true := fun ρ => by rw [hg]; rfl
 unfold sstep at h
 rw [hgc] at h
 simp only at h
 cases hop : x.op with
 | call cl =>
  simp only [hop] at h
  cases hcl : cl.callee with
  | value f => rw [hop] at hx; simp [opCls, hcl] at hx
  | invoke r m => rw [hop] at hx; simp [opCls, hcl] at hx
  | builtin b =>
   have hb : b = .append := by
    rw [hop] at hx
    simp only [opCls, hcl] at hx
    cases b <;> first | rfl | simp at hx
   subst hb
   rw [hcl] at h
   simp only at h
   unfold sappend at h
   split at h
   ·rename_i d a b t t2 _ hdst hargs hts
    split at h
    case isFalse => cases h
    rename_i hty
    simp only [Bool.and_eq_true] at hty
    split at h
    case h_2 => cases h
    rename_i s' v φ' hv
    cases h
    have hmem : ∀ z, z = a \/ z = b -> z ∈ opnds x.op := fun z hz => by
     rw [hop]; simp only [opnds, hcl]; rw [hargs]; simpa using hz
    have hao : appO cx s.ρ (.call cl) = (match stripV (aev cx s.ρ a) with | .sl o _ _ => some o | _ => none) := by
     simp only [appO, hargs]
    rw [hao]
    have hgo : ∀ (t' s'' : St), (∀ z ∈ looks ds x, s.ρ z = t'.ρ z) -> clearOf fr t'.ρ (badOf (stripV (aev cx s.ρ a)) d) = true -> vappend cx.P t' t d (stripV (aev cx s.ρ a)) (stripV (aev cx s.ρ b)) = some (s'', v, φ') ->
       sstep cx fr orc ds x t' = some ({ s'' with ρ := upd s''.ρ d v }, φ' /\ d < 100000 /\ stripB (aev cx s.ρ a) = true /\ stripB (aev cx s.ρ b) = true) := fun t' s'' ht hcl' hva => by
     have e := hae t' ht
     have ea := e a (hmem a (.inl rfl))
     have eb := e b (hmem b (.inr rfl))
     unfold sstep
     rw [hgc]
     simp only [hop, hcl, sappend, hdst, hargs, hts]
     rw [<- ea, <- eb, hty.1, hcl', hva]
     rfl
    unfold vappend at hv
    split at hv
    case h_1 => cases hv
    rename_i e hte
    split at hv
    case h_1 => cases hv
    rename_i zs hzs
    split at hv
    case h_1 => cases hv
    rename_i ys ψ hys
    have hys' : ∀ t' : St, (∀ p, s.H p ≠ none \/ p = d -> s.H p = t'.H p) -> srcE t'.H zs.length (stripV (aev cx s.ρ b)) = some (ys, ψ) := fun t' hH => by
     unfold srcE at hys ⊢
     split at hys <;> first | exact hys | skip
     ·rename_i o _ _ _
      rw [<- hH o (.inl fun e => by rw [e] at hys; cases hys)]
      exact hys
     ·rename_i o _ _ _ _ _
      rw [<- hH o (.inl fun e => by rw [e] at hys; cases hys)]
      exact hys
    split at hv
    ·rename_i hxa
     cases hv
     refine ⟨d, [d], _, _, hdst, by rw [hxa]; rfl, fun o ho => (by rw [hxa] at ho; cases ho), by simp, (fun p hp => .inl (by simpa using hp)), (by simpa [badOf, hxa] using hty.2), fun t' ht hH hcl' => ?_⟩
     rw [hgo t' _ ht (by simpa [badOf, hxa] using hcl') (by simp only [vappend, hte, hzs, hys' t' hH, hxa, hH d (.inr rfl)]; rfl)]
     rw [hxa]
     rfl
    ·rename_i o lo len hxa
     split at hv
     case h_1 => cases hv
     rename_i ob hob
     cases hv
     refine ⟨d, [o, d], _, _, hdst, by rw [hxa]; rfl, fun o' ho => (by rw [hxa] at ho; cases ho; simp), by simp, (fun p hp => by
      rw [hxa]
      simp only [List.contains_cons, List.contains_nil, Bool.or_false, Bool.or_eq_true, beq_iff_eq] at hp
      exact hp.elim (fun h => .inr (by rw [h])) .inl), (by simpa [badOf, hxa] using hty.2), fun t' ht hH hcl' => ?_⟩
     have ho' : t'.H o = some ob := by rw [<- hH o (.inl (by rw [hob]; simp)), hob]
     rw [hgo t' _ ht (by simpa [badOf, hxa] using hcl') (by simp only [vappend, hte, hzs, hys' t' hH, hxa, ho', hH d (.inr rfl)]; rfl)]
     rw [hxa]
     rfl
    ·cases hv
   ·cases ‹true = false›
   ·cases h
 | _ => rw [hop] at hx; simp [opCls] at hx
def okN (fr : List Nat) (y : Oper) : Bool :=
 y.guard.isNone && (match y.op with
  | .load _ (.tmp z) => fr.contains 888888 && (kset fr).contains z
  | .convert .. => true
  | .binOp op .. => arith op
  | .call c => match c.callee with
   | .builtin .len => true
   | _ => false
  | .buildSlice .. => match y.dst with
   | some e => fr.contains (e + 600000)
   | none => false
  | _ => false)
def flatO : Option (AV × Prop) -> Bool
 | some (v, _) => flatV v
 | none => true
theorem flat_refs {D : Nat -> Bool} {v : AV} : flatV v = true -> v.refs D = true := by
 induction v using AV.ind with
 | agg cs ih => intro h; exact refsl_iff.2 fun x hx => ih x hx (flatVs_iff.1 h x hx)
 | tup cs _ => intro h; cases h
 | fn f a b _ _ => intro h; cases h
 | gd b v _ => intro h; cases h
 | ifc t v _ => intro h; cases h
 | leaf x hx => intro h; cases x <;> first | rfl | cases h | cases hx
theorem swapL_fin {d : Nat} {bad : List Nat} {v u : AV} {b : Ob} {q : Option Nat} (hap : apartA ds x y = true) (hd : x.dst = some d) (hcl : clearOf fr s.ρ bad = true) (hu : flatV u = true)
  (hF : ∀ t : St, (∀ z ∈ looks ds x, s.ρ z = t.ρ z) -> (∀ p, s.H p ≠ none \/ p = d -> s.H p = t.H p) -> clearOf fr t.ρ bad = true -> sstep cx fr orc ds x t = some (⟨upd (fun z => killO q (t.ρ z)) d v, upd (killH q t.H) d (some b)⟩, φ)) :
  sstep cx fr orc ds x (putv s y.dst u) = some (putv ⟨upd (fun z => killO q (s.ρ z)) d v, upd (killH q s.H) d (some b)⟩ y.dst u, φ) := by
 obtain ⟨a1, a2, a3⟩ := apartA_spec hap
 rw [hF (putv s y.dst u) (fun z hz => (putv_ρ fun e he => a3 e he z hz).symm) (fun p _ => by rw [putv_H]) (clear_iff.2 fun t ht => by
  by_cases hte : y.dst = some t
  ·rw [hte]
   show (upd s.ρ t u t).refs _ = true
   rw [upd_same]
   exact flat_refs hu
  ·rw [putv_ρ fun e he e2 => hte (by rw [he, e2])]
   exact clear_iff.1 hcl t ht)]
 rw [putv_H]
 cases hyd : y.dst with
 | none => rfl
 | some e =>
  have hne := a2 d e hd hyd
  simp only [putv]
  congr 3
  rw [upd_comm _ _ _ hne]
  congr 1
  funext t
  by_cases ht : t = e
  ·subst ht; simp only [upd_same, flat_killO hu]
  ·simp only [upd_ne _ _ ht]
theorem stor_kill {q : Option Nat} {v : AV} (h : (killO q v).storable = true) : v.storable = true := by
 cases q with
 | none => exact h
 | some o => cases v <;> first | rfl | exact h
theorem cells_killO {q : Option Nat} {v : AV} : (killO q v).cells.length = v.cells.length := by
 cases q with
 | none => rfl
 | some o =>
  have hc : (kill o v).cells = v.cells.map (kill o) := cells_sub (fun _ _ => rfl) (fun _ _ => rfl) v
  show (kill o v).cells.length = _
  rw [hc, List.length_map]
theorem fillE_nat {q : Option Nat} {sz : Nat} : ∀ (ps : List (Nat × AV)) (es es' : List AV) (φ : Prop), fillE sz (es.map (killO q)) (ps.map fun p => (p.1, killO q p.2)) = some (es', φ) -> ∃ es0, fillE sz es ps = some (es0, φ) /\ es' = es0.map (killO q)
 | [], es, es', φ, h => by
  simp only [List.map_nil, fillE] at h ⊢
  cases h
  exact ⟨_, rfl, rfl⟩
 | (i, v) :: r, es, es', φ, h => by
  simp only [List.map_cons, fillE] at h ⊢
  split at h
  case isFalse => cases h
  rename_i hst
  rw [if_pos (stor_kill hst)]
  split at h
  case h_2 => cases h
  rename_i es2 ψ hf
  cases h
  rw [<- List.map_set] at hf
  obtain ⟨es0, g1, g2⟩ := fillE_nat r _ _ _ hf
  rw [g1]
  refine ⟨es0, ?_, g2⟩
  simp only [List.length_map, cells_killO]
theorem mkE_kill {q : Option Nat} {P : Program} {t e : TypeId} {zs : List AV} (h : tZero P t = some zs) : killO q (mkE P e zs) = mkE P e zs := by
 have h1 : ∀ x ∈ zs, x.refs (fun _ => false) = true := fun x hx => by
  obtain ⟨i, z, _, _, rfl, _⟩ := tZero_spec h
  obtain ⟨v, _, rfl⟩ := List.mem_map.1 hx
  unfold cst1
  split <;> rfl
 refine killO_free (D := fun _ => false) (fun _ _ => rfl) ?_
 unfold mkE
 split
 ·exact refsl_iff.2 h1
 ·cases zs with
  | nil => rfl
  | cons x r => exact h1 x (by simp)
theorem swapL (hcx : CxOk cx) (hap : apartA ds x y = true) (hx : opCls x.op = .append) (hg : x.guard = none) (hy : okN fr y = true) (hq : ∀ p, appO cx s.ρ x.op = some p -> fr.contains (p + 600000) = false)
  (hfl : ∀ t a, y.op = .load t a -> flatO (vload cx.P s1.H [] t (stripV (aev cx s1.ρ a))) = true) (h1 : sstep cx fr orc ds x s = some (s1, φ1)) (h2 : sstep cx fr orc ds y s1 = some (s2, φ2)) (hφ2 : φ2) :
  ∃ s1', sstep cx fr orc ds y s = some (s1', φ2) /\ sstep cx fr orc ds x s1' = some (s2, φ1) /\ (∀ t a, y.op = .load t a -> flatO (vload cx.P s.H [] t (stripV (aev cx s.ρ a))) = true) /\ appO cx s1'.ρ x.op = appO cx s.ρ x.op := by
 obtain ⟨a1, a2, a3⟩ := apartA_spec hap
 obtain ⟨d, bad, v, b, hd, rfl, hbq, hbd, hbo, hcl, hF⟩ := append_fine hx hg h1
 clear h1
 revert hbq hF h2 hfl hbo
 generalize hqq : appO cx s.ρ x.op = q at hq
 intro hfl h2 hbq hbo hF
 have hs1 : ∀ z ∈ looks ds y, (⟨upd (fun t => killO q (s.ρ t)) d v, upd (killH q s.H) d (some b)⟩ : St).ρ z = killO q (s.ρ z) := fun z hz => by
  show upd (fun t => killO q (s.ρ t)) d v z = _
  rw [upd_ne _ _ (a1 d hd z hz)]
 have hae : ∀ a ∈ opnds y.op, aev cx (upd (fun t => killO q (s.ρ t)) d v) a = killO q (aev cx s.ρ a) := fun a ha => aev_kill hcx fun t ht => hs1 t (looks_op ha ht)
 have happO : ∀ s1' : St, (∀ z ∈ looks ds x, s1'.ρ z = s.ρ z) -> appO cx s1'.ρ x.op = q := fun s1' h => by
  rw [<- hqq]
  cases hop : x.op with
  | call cl =>
   simp only [appO]
   cases hargs : cl.args.toList with
   | nil => rfl
   | cons a r =>
    have hcal : cl.callee = .builtin .append := by
     rw [hop] at hx
     simp only [opCls] at hx
     split at hx <;> first | assumption | cases hx
    simp only
    rw [aev_agree (ρ := s1'.ρ) (ρ' := s.ρ) fun t ht => h t (looks_op (x := a) (by rw [hop]; simp [opnds, hcal, hargs]) ht)]
  | _ => rfl
 have hgn : y.guard = none := by
  simp only [okN, Bool.and_eq_true, Option.isNone_iff_eq_none] at hy
  exact hy.1
 have hgc : ∀ ρ, gcond ds ρ y.guard = some true := fun ρ => by rw [hgn]; rfl
 have hlx : ∀ u z, z ∈ looks ds x -> (putv s y.dst u).ρ z = s.ρ z := fun u z hz => putv_ρ fun e he => a3 e he z hz
 have hall : ∀ l : List Operand, (∀ a ∈ l, a ∈ opnds y.op) -> allB cx (upd (fun t => killO q (s.ρ t)) d v) l = allB cx s.ρ l := fun l hl => by
  rw [Bool.eq_iff_iff, allB_iff, allB_iff]
  refine forall_congr' fun a => forall_congr' fun ha => ?_
  rw [hae a (hl a ha), stripB_killO]
 -- what is worked out from its operands alone
 have pure : ∀ (hsv : ∀ t : St, sstep cx fr orc ds y t = svop cx true y t) (hvo : ∀ u φ, vop cx.P (upd (killH q s.H) d (some b)) [] (fun a => stripV (aev cx (upd (fun t => killO q (s.ρ t)) d v) a)) y.op = some (u, φ) ->
   vop cx.P s.H [] (fun a => stripV (aev cx s.ρ a)) y.op = some (u, φ) /\ flatV u = true),
   ∃ s1', sstep cx fr orc ds y s = some (s1', φ2) /\ sstep cx fr orc ds x s1' = some (s2, φ1) /\ appO cx s1'.ρ x.op = q := fun hsv hvo => by
  rw [hsv] at h2
  unfold svop at h2
  split at h2
  case h_2 => cases h2
  rename_i u ψ hv
  cases h2
  obtain ⟨hv', hfu⟩ := hvo _ _ hv
  refine ⟨putv s y.dst u, ?_, ?_, happO _ (hlx u)⟩
  ·rw [hsv]
   unfold svop
   rw [hv']
   simp only [hgn, wrapg]
   rw [hall _ fun a ha => ha]
  ·simp only [hgn, wrapg]
   exact swapL_fin hap hd hcl hfu hF
 have hst : ∀ a ∈ opnds y.op, stripV (aev cx (upd (fun t => killO q (s.ρ t)) d v) a) = killO q (stripV (aev cx s.ρ a)) := fun a ha => by rw [hae a ha, stripV_killO]
 cases hop : y.op with
 | load t a =>
  obtain ⟨z, rfl⟩ : ∃ z, a = .tmp z := by
   cases a with
   | tmp z => exact ⟨z, rfl⟩
   | _ => simp only [okN, hop, Bool.and_false, Bool.false_eq_true] at hy
  have hk : fr.contains 888888 = true /\ (kset fr).contains z = true := by
   rw [okN, hop] at hy
   simp only [Bool.and_eq_true] at hy
   exact hy.2
  have hz : z ∈ kset fr := by simpa using hk.2
  have hfree : killO q (s.ρ z) = s.ρ z := killO_free (D := fun p => !bad.contains p) (fun o ho => by simp only [hbq o ho, Bool.not_true]) (clear_iff.1 hcl z hz)
  have hsa : aev cx (upd (fun t => killO q (s.ρ t)) d v) (.tmp z) = s.ρ z := by
   rw [hae (.tmp z) (by rw [hop]; simp [opnds])]
   exact hfree
  have hfl := hfl t (.tmp z) hop
  have hL : ∀ t' : St, sstep cx fr orc ds y t' = if headOut cx t'.ρ fr y.op = true then svop cx true y t' else none := fun t' => by
   unfold sstep; rw [hgc]; simp only [hop, opCls]
  have hho : headOut cx s.ρ fr y.op = headOut cx (upd (fun t => killO q (s.ρ t)) d v) fr y.op := by
   simp only [hop, headOut, opnds, hsa]
   rfl
  have hv : ∀ u φ, vload cx.P (upd (killH q s.H) d (some b)) [] t (stripV (s.ρ z)) = some (u, φ) -> flatV u = true -> vload cx.P s.H [] t (stripV (s.ρ z)) = some (u, φ) := fun u φ h hf => by
   have hr : (stripV (s.ρ z)).refs (fun p => !bad.contains p) = true := refs_strip (clear_iff.1 hcl z hz)
   unfold vload at h ⊢
   split at h
   ·rename_i l hl
    split at h
    ·rename_i p i c hp
     have hpb : bad.contains p = false := by
      rw [hp] at hr
      simpa [AV.refs] using hr
     have hpd : p ≠ d := fun e => by rw [e, hbd] at hpb; cases hpb
     have hpq : q ≠ some p := fun e => by rw [hbq p e] at hpb; cases hpb
     rw [upd_ne _ _ hpd, killH_ne hpq] at h
     simp only [List.contains_nil, Bool.false_eq_true, if_false] at h ⊢
     cases hH : s.H p with
     | none => rw [hH] at h; cases h
     | some ob =>
      rw [hH, Option.map_some] at h
      simp only [killOb_es] at h
      have hg : (ob.es.map (killO q)).getD i .junk = killO q (ob.es.getD i .junk) := by
       rw [List.getD_eq_getElem?_getD, List.getElem?_map, List.getD_eq_getElem?_getD]
       cases ob.es[i]? with
       | none => exact (killO_junk q).symm
       | some _ => rfl
      rw [hg, cut_killO] at h
      cases h
      rw [hard_killO (flat_hard hf)]
    ·exact h
    ·exact h
   ·cases h
  rw [hL] at h2
  split at h2
  case isFalse => cases h2
  rename_i hout
  unfold svop at h2
  split at h2
  case h_2 => cases h2
  rename_i u ψ hvl
  cases h2
  rw [hop] at hvl
  simp only [vop] at hvl
  rw [show aev cx (⟨upd (fun t => killO q (s.ρ t)) d v, upd (killH q s.H) d (some b)⟩ : St).ρ (.tmp z) = s.ρ z from hsa] at hvl hfl
  rw [hvl] at hfl
  have hv' := hv u ψ hvl hfl
  refine ⟨putv s y.dst u, ?_, ?_, ?_, happO _ (hlx u)⟩
  ·rw [hL, if_pos (by rw [hho]; exact hout)]
   unfold svop
   rw [hop]
   simp only [vop]
   rw [show aev cx s.ρ (.tmp z) = s.ρ z from rfl, hv']
   simp only [hgn, wrapg]
   rw [<- hop, hall _ fun a ha => ha]
  ·simp only [hgn, wrapg]
   exact swapL_fin hap hd hcl hfl hF
  ·intro t' a' h
   cases h
   rw [show aev cx s.ρ (.tmp z) = s.ρ z from rfl, hv']
   exact hfl
 | convert src dst a =>
  obtain ⟨s1', g1, g2, g3⟩ := pure (fun t => by unfold sstep; rw [hgc]; simp only [hop, opCls]) (fun u φ h => by
   rw [hop] at h ⊢
   simp only [vop] at h ⊢
   rw [hst a (by rw [hop]; simp [opnds])] at h
   split at h
   ·rename_i k n heq
    have e := hard_killO (q := q) (a := stripV (aev cx s.ρ a)) (by rw [heq]; rfl)
    rw [heq] at e
    rw [<- e]
    split at h
    ·cases h; rename_i h1 h2; first | (simp only; exact ⟨trivial, rfl⟩) | (simp only [h1, h2]; exact ⟨rfl, rfl⟩)
    ·cases h
   ·rename_i st heq
    have e := hard_killO (q := q) (a := stripV (aev cx s.ρ a)) (by rw [heq]; rfl)
    rw [heq] at e
    rw [<- e]
    split at h
    ·cases h; rename_i h1 h2; first | (simp only; exact ⟨trivial, rfl⟩) | (simp only [h1, h2]; exact ⟨rfl, rfl⟩)
    ·cases h
   ·cases h)
  exact ⟨s1', g1, g2, (fun t a h => by cases h), g3⟩
 | binOp op t a a' t2 =>
  have har : arith op = true := by rw [okN, hop] at hy; simp only [Bool.and_eq_true] at hy; exact hy.2
  obtain ⟨s1', g1, g2, g3⟩ := pure (fun t => by unfold sstep; rw [hgc]; simp only [hop, opCls]) (fun u φ h => by
   rw [hop] at h ⊢
   simp only [vop] at h ⊢
   rw [hst a (by rw [hop]; simp [opnds]), hst a' (by rw [hop]; simp [opnds])] at h
   obtain ⟨f1, f2, f3⟩ := bin_hard har h
   rw [hard_killO (flat_hard f1), hard_killO (flat_hard f2)] at h
   exact ⟨h, f3⟩)
  exact ⟨s1', g1, g2, (fun t a h => by cases h), g3⟩
 | call c =>
  have hcal : c.callee = .builtin .len := by
   rw [okN, hop] at hy
   simp only [Bool.and_eq_true] at hy
   have := hy.2
   split at this
   ·assumption
   ·cases this
  obtain ⟨s1', g1, g2, g3⟩ := pure (fun t => by unfold sstep; rw [hgc]; simp only [hop, hcal]) (fun u φ h => by
   rw [hop] at h ⊢
   simp only [vop, hcal, vbuiltin] at h ⊢
   split at h
   ·rename_i a t hargs hts
    rw [hst a (by rw [hop]; simp [opnds, hcal, hargs])] at h
    exact len_nat h
   ·cases h)
  exact ⟨s1', g1, g2, (fun t a h => by cases h), g3⟩
 | buildSlice t n parts =>
  have hS : ∀ t' : St, sstep cx fr orc ds y t' = salloc cx true y t' := fun t' => by
   unfold sstep; rw [hgc]; simp only [hop, opCls]
  cases hyd : y.dst with
  | none => rw [okN, hop, hyd] at hy; simp at hy
  | some e =>
  have hq' : q ≠ some e := fun h => by
   rw [okN, hop, hyd] at hy
   simp only [Bool.and_eq_true] at hy
   rw [hq e h] at hy
   cases hy.2
  have hne := a2 d e hd hyd
  rw [hS] at h2
  unfold salloc at h2
  simp only [hyd] at h2
  split at h2
  case h_2 => cases h2
  rename_i ob val φ hao
  cases h2
  rw [hop] at hao
  simp only [aop] at hao
  split at hao
  case h_2 => cases hao
  rename_i el hel
  split at hao
  case h_2 => cases hao
  rename_i zs hzs
  split at hao
  case isFalse => cases hao
  rename_i heok
  split at hao
  case h_2 => cases hao
  rename_i es ψ hfe
  cases hao
  have hmem : ∀ p ∈ parts.toList, p.2 ∈ opnds y.op := fun p hp => by
   rw [hop]
   simp only [opnds]
   exact List.mem_map.2 ⟨p, hp, rfl⟩
  have hps : (parts.toList.map fun p => (p.1, stripV (aev cx (upd (fun t => killO q (s.ρ t)) d v) p.2))) = (parts.toList.map fun p => (p.1, stripV (aev cx s.ρ p.2))).map fun p => (p.1, killO q p.2) := by
   rw [List.map_map]
   exact List.map_congr_left fun p hp => by
    show (p.1, _) = (p.1, _)
    rw [hst p.2 (hmem p hp)]
  have hrz : List.replicate n (mkE cx.P el zs) = (List.replicate n (mkE cx.P el zs)).map (killO q) := by
   rw [List.map_replicate, mkE_kill hzs]
  rw [hps, hrz] at hfe
  obtain ⟨es0, g1, rfl⟩ := fillE_nat _ _ _ _ hfe
  have hHe : (upd (killH q s.H) d (some b) e = none) = (s.H e = none) := by
   rw [upd_ne _ _ (fun h => hne h.symm), killH_ne hq']
   cases s.H e <;> simp
  have hnone : s.H e = none := by
   have := hφ2.2.1
   rw [<- hHe]
   exact this
  refine ⟨⟨upd s.ρ e (.sl e 0 n), upd s.H e (some ⟨false, zs.length, es0⟩)⟩, ?_, ?_, (fun t a h => by cases h), happO _ fun z hz => upd_ne _ _ fun h => a3 e hyd z hz h⟩
  ·rw [hS]
   unfold salloc
   simp only [hyd]
   rw [hop]
   simp only [aop, hel, hzs, heok, if_true, g1]
   rw [hHe, <- hop, hall _ fun a ha => ha]
  ·rw [hF ⟨upd s.ρ e (.sl e 0 n), upd s.H e (some ⟨false, zs.length, es0⟩)⟩ (fun z hz => (upd_ne _ _ fun h => a3 e hyd z hz h).symm) (fun p hp => by
    refine (upd_ne _ _ fun h => ?_).symm
    subst h
    rcases hp with hp | hp
    ·exact hp hnone
    ·exact hne hp.symm) (clear_iff.2 fun t ht => by
     by_cases hte : t = e
     ·subst hte
      show (upd s.ρ t (.sl t 0 n) t).refs _ = true
      rw [upd_same]
      simp only [AV.refs, Bool.not_eq_true']
      cases hb : bad.contains t with
      | false => rfl
      | true => exact absurd (hbo t hb) (fun h => h.elim (fun h => hne h.symm) hq')
     ·show (upd s.ρ e (.sl e 0 n) t).refs _ = true
      rw [upd_ne _ _ hte]
      exact clear_iff.1 hcl t ht)]
   have k1 : (fun z => killO q (upd s.ρ e (.sl e 0 n) z)) = upd (fun z => killO q (s.ρ z)) e (.sl e 0 n) := by
    funext z
    by_cases hz : z = e
    ·subst hz
     simp only [upd_same]
     cases q with
     | none => rfl
     | some o => exact kill_free (o := o) (D := fun p => p != o) (by simp) (by simpa [AV.refs] using fun h => hq' (by rw [h]))
    ·simp only [upd_ne _ _ hz]
   have k2 : killH q (upd s.H e (some ⟨false, zs.length, es0⟩)) = upd (killH q s.H) e (some ⟨false, zs.length, es0.map (killO q)⟩) := by
    funext p
    by_cases hp : p = e
    ·subst hp
     rw [killH_ne hq']
     simp only [upd_same, Option.map_some, killOb_es]
    ·rw [upd_ne _ _ hp]
     cases q with
     | none => exact upd_ne _ _ hp
     | some o =>
      simp only [killH]
      rw [upd_ne _ _ hp]
   simp only [k1, k2]
   rw [upd_comm _ _ _ (fun h => hne h.symm), upd_comm (killH q s.H) _ _ (fun h => hne h.symm)]
 | _ => rw [okN, hop] at hy; simp at hy
theorem append_all (hx : opCls x.op = .append) (h : sstep cx fr orc ds x s = some (s1, φ)) :
  ∃ (d : Nat) (q : Option Nat) (bad : List Nat) (v : AV) (H1 : Hp), x.dst = some d /\ s1 = ⟨upd (fun t => killO q (s.ρ t)) d v, H1⟩ /\ (∀ o, q = some o -> bad.contains o = true) /\ ((bad = [] /\ q = none) \/ clearOf fr s.ρ bad = true) /\
   (∀ p, bad.contains p = false -> H1 p = (s.H p).map (killOb q)) /\
   ∀ t : St, (∀ z ∈ looks ds x, s.ρ z = t.ρ z) -> s.H = t.H -> (bad = [] \/ clearOf fr t.ρ bad = true) -> sstep cx fr orc ds x t = some (⟨upd (fun z => killO q (t.ρ z)) d v, H1⟩, φ) := by
 obtain ⟨c0, hop, hcl⟩ : ∃ c, x.op = .call c /\ c.callee = .builtin .append := by
  cases hop : x.op <;> simp [hop, opCls] at hx
  rename_i c
  refine ⟨c, rfl, ?_⟩
  split at hx <;> first | assumption | cases hx
 cases hgc : gcond ds s.ρ x.guard with
 | none => unfold sstep at h; rw [hgc] at h; cases h
 | some c =>
  have hst : ∀ t : St, (∀ z ∈ looks ds x, s.ρ z = t.ρ z) -> gcond ds t.ρ x.guard = some c := fun t ht => (gcond_agree ht).symm.trans hgc
  have hA : ∀ t : St, gcond ds t.ρ x.guard = some c -> sstep cx fr orc ds x t = sappend cx fr c x c0.args.toList c0.argTypes.toList t := fun t ht => by
   unfold sstep
   rw [ht]
   simp only [hop, hcl]
  rw [hA s hgc] at h
  cases c with
  | false =>
   cases hd : x.dst with
   | none => simp [sappend, hd] at h
   | some d =>
    have e : ∀ t : St, sappend cx fr false x c0.args.toList c0.argTypes.toList t = some ({ t with ρ := upd t.ρ d (.gd false .junk) }, True) := fun t => by
     simp only [sappend, hd]
    rw [e s] at h
    cases h
    refine ⟨d, none, [], _, _, rfl, rfl, fun o ho => (by cases ho), .inl ⟨rfl, rfl⟩, fun p _ => ?_, fun t ht hH _ => ?_⟩
    ·show s.H p = (s.H p).map (killOb none)
     cases s.H p <;> rfl
    ·rw [hA t (hst t ht), e t, <- hH]
     rfl
  | true =>
   have hB : ∀ t : St, sstep cx fr orc ds { x with guard := none } t = sappend cx fr true x c0.args.toList c0.argTypes.toList t := fun t => by
    unfold sstep
    simp only [gcond, hop, hcl, sappend]
   have hlk : ∀ z ∈ looks ds { x with guard := none }, z ∈ looks ds x := fun z hz => by
    simp only [looks, List.append_nil, List.mem_append] at hz ⊢
    exact .inl hz
   rw [<- hB s] at h
   obtain ⟨d, bad, v, b, hd, rfl, hbq, hbd, _, hcl2, hF⟩ := append_fine (x := { x with guard := none }) hx rfl h
   refine ⟨d, appO cx s.ρ x.op, bad, v, _, hd, rfl, hbq, .inr hcl2, fun p hp => ?_, fun t ht hH hct => ?_⟩
   ·have hpd : p ≠ d := fun e => by rw [e, hbd] at hp; cases hp
    have hpq : appO cx s.ρ x.op ≠ some p := fun e => by rw [hbq p e] at hp; cases hp
    show upd (killH (appO cx s.ρ x.op) s.H) d (some b) p = _
    rw [upd_ne _ _ hpd, killH_ne hpq]
   ·rw [hA t (hst t ht), <- hB t]
    rw [hF t (fun z hz => ht z (hlk z hz)) (fun p _ => by rw [hH]) (hct.elim (fun e => by rw [e] at hbd; simp at hbd) id), <- hH]
theorem killO_wrapg {q : Option Nat} {g : Option (Nat × Bool)} {c : Bool} {v : AV} : killO q (wrapg g c v) = wrapg g c (killO q v) := by
 cases q with
 | none => rfl
 | some o => cases g <;> rfl
theorem gcond_kill {q : Option Nat} {ρ ρ' : Nat -> AV} {g : Option (Nat × Bool)} {c : Bool} (h : ∀ j b d, g = some (j, b) -> ds[j]? = some (some d) -> ρ' d = killO q (ρ d)) : (gcond ds ρ g = some c -> gcond ds ρ' g = some c) /\ (gcond ds ρ' g = some c -> gcond ds ρ g = some c) := by
 cases g with
 | none => exact ⟨id, id⟩
 | some x =>
  obtain ⟨j, b⟩ := x
  unfold gcond
  simp only
  split
  ·rename_i d hd
   have e := h j b d rfl hd
   have e1 : stripB (ρ' d) = stripB (ρ d) := by rw [e, stripB_killO]
   have e2 : stripV (ρ' d) = killO q (stripV (ρ d)) := by rw [e, stripV_killO]
   rw [e1, e2]
   constructor
   ·intro hc
    split at hc
    ·rename_i t ht
     rw [ht, flat_killO (q := q) (a := .bool t) rfl]
     exact hc
    ·cases hc
   ·intro hc
    split at hc
    ·rename_i t ht
     have := hard_killO (q := q) (a := stripV (ρ d)) (by rw [ht]; rfl)
     rw [ht] at this
     rw [<- this]
     exact hc
    ·cases hc
  ·exact ⟨id, id⟩
theorem looks_g {j : Nat} {b : Bool} {d : Tmp} (hg : o.guard = some (j, b)) (hd : ds[j]? = some (some d)) : d ∈ looks ds o := by
 simp only [looks, hg, hd, List.mem_append]
 exact .inr (by simp)
def okK (y : Oper) : Bool := match y.op with
 | .binOp op .. => arith op
 | _ => false
theorem wrapg_refs {D : Nat -> Bool} {g : Option (Nat × Bool)} {c : Bool} {u : AV} (h : flatV u = true) : (wrapg g c u).refs D = true := by
 cases g with
 | none => exact flat_refs h
 | some _ => show u.refs D = true; exact flat_refs h
theorem swapK (hcx : CxOk cx) (hap : apartA ds x y = true) (hx : opCls x.op = .append) (hy : okK y = true) (h1 : sstep cx fr orc ds x s = some (s1, φ1)) (h2 : sstep cx fr orc ds y s1 = some (s2, φ2)) :
  ∃ s1', sstep cx fr orc ds y s = some (s1', φ2) /\ sstep cx fr orc ds x s1' = some (s2, φ1) := by
 obtain ⟨a1, a2, a3⟩ := apartA_spec hap
 obtain ⟨d, q, bad, v, H1, hd, rfl, hbq, hcl, _, hF⟩ := append_all hx h1
 clear h1
 have hs1 : ∀ z ∈ looks ds y, (⟨upd (fun t => killO q (s.ρ t)) d v, H1⟩ : St).ρ z = killO q (s.ρ z) := fun z hz => by
  show upd (fun t => killO q (s.ρ t)) d v z = _
  rw [upd_ne _ _ (a1 d hd z hz)]
 cases hop : y.op with
 | binOp op t a a' t2 =>
  have har : arith op = true := by simpa only [okK, hop] using hy
  have hae : ∀ a ∈ opnds y.op, aev cx (upd (fun t => killO q (s.ρ t)) d v) a = killO q (aev cx s.ρ a) := fun a ha => aev_kill hcx fun t ht => hs1 t (looks_op ha ht)
  have hsv : ∀ t' : St, sstep cx fr orc ds y t' = match gcond ds t'.ρ y.guard with | none => none | some c => svop cx c y t' := fun t' => by
   unfold sstep
   cases gcond ds t'.ρ y.guard with
   | none => rfl
   | some c => simp only [hop, opCls]
  rw [hsv] at h2
  cases hgc : gcond ds (⟨upd (fun t => killO q (s.ρ t)) d v, H1⟩ : St).ρ y.guard with
  | none => rw [hgc] at h2; cases h2
  | some c =>
   rw [hgc] at h2
   simp only at h2
   have hgs : gcond ds s.ρ y.guard = some c := (gcond_kill (q := q) (fun j b e hg he => hs1 e (looks_g hg he))).2 hgc
   unfold svop at h2
   split at h2
   case h_2 => cases h2
   rename_i u ψ hv
   cases h2
   rw [hop] at hv
   simp only [vop] at hv
   have ha1 := hae a (by rw [hop]; simp [opnds])
   have ha2 := hae a' (by rw [hop]; simp [opnds])
   have hv' : binv cx.P op t (killO q (stripV (aev cx s.ρ a))) (killO q (stripV (aev cx s.ρ a'))) = some (u, ψ) := by
    rw [<- stripV_killO, <- stripV_killO, <- ha1, <- ha2]
    exact hv
   obtain ⟨f1, f2, f3⟩ := bin_hard har hv'
   rw [hard_killO (flat_hard f1), hard_killO (flat_hard f2)] at hv'
   have hB : allB cx (upd (fun t => killO q (s.ρ t)) d v) (opnds y.op) = allB cx s.ρ (opnds y.op) := by
    rw [Bool.eq_iff_iff, allB_iff, allB_iff]
    refine forall_congr' fun z => forall_congr' fun hz => ?_
    rw [hae z hz, stripB_killO]
   have g1 : sstep cx fr orc ds y s = some (putv s y.dst (wrapg y.guard c u), c = true -> allB cx (upd (fun t => killO q (s.ρ t)) d v) (opnds y.op) = true /\ ψ) := by
    rw [hsv, hgs]
    simp only
    unfold svop
    rw [hop]
    simp only [vop]
    rw [hv', <- hop, hB]
   refine ⟨_, g1, ?_⟩
   rw [hF (putv s y.dst (wrapg y.guard c u)) (fun z hz => (putv_ρ fun e he => a3 e he z hz).symm) putv_H.symm (hcl.elim (fun h => .inl h.1) fun h => .inr (clear_iff.2 fun z hz => by
    by_cases hze : y.dst = some z
    ·rw [hze]
     show (upd s.ρ z _ z).refs _ = true
     rw [upd_same]
     exact wrapg_refs f3
    ·rw [putv_ρ fun e he e2 => hze (by rw [he, e2])]
     exact clear_iff.1 h z hz))]
   congr 2
   cases hyd : y.dst with
   | none => rfl
   | some e =>
    have hne := a2 d e hd hyd
    simp only [putv]
    congr 1
    rw [upd_comm _ _ _ hne]
    congr 1
    funext z
    by_cases hz : z = e
    ·subst hz; simp only [upd_same, killO_wrapg, flat_killO f3]
    ·simp only [upd_ne _ _ hz]
 | _ => rw [okK, hop] at hy; cases hy
def okM (fr : List Nat) (x : Oper) : Bool := match x.op, x.dst with
 | .load _ (.tmp z), some e => fr.contains 888888 && ((kset fr).contains z && !(kset fr).contains e)
 | _, _ => false
theorem swapM (hap : apartA ds x y = true) {t : TypeId} {z e : Tmp} (hop : x.op = .load t (.tmp z)) (hz : z ∈ kset fr) (hxd : x.dst = some e) (hek : e ∉ kset fr) (hy : opCls y.op = .append)
  (hfl : flatO (vload cx.P s.H [] t (stripV (s.ρ z))) = true) (h1 : sstep cx fr orc ds x s = some (s1, φ1)) (h2 : sstep cx fr orc ds y s1 = some (s2, φ2)) :
  ∃ s1', sstep cx fr orc ds y s = some (s1', φ2) /\ sstep cx fr orc ds x s1' = some (s2, φ1) := by
 obtain ⟨a1, a2, a3⟩ := apartA_spec hap
 have hL : ∀ t' : St, sstep cx fr orc ds x t' = match gcond ds t'.ρ x.guard with | none => none | some c => if outside fr (stripV (t'.ρ z)) = true then svop cx c x t' else none := fun t' => by
  unfold sstep
  cases gcond ds t'.ρ x.guard with
  | none => rfl
  | some c =>
   simp only [hop, opCls]
   rfl
 rw [hL] at h1
 cases hgc : gcond ds s.ρ x.guard with
 | none => rw [hgc] at h1; cases h1
 | some c =>
 rw [hgc] at h1
 simp only at h1
 split at h1
 case isFalse => cases h1
 rename_i hout
 unfold svop at h1
 rw [hop] at h1
 simp only [vop] at h1
 rw [show aev cx s.ρ (.tmp z) = s.ρ z from rfl] at h1
 cases hv : vload cx.P s.H [] t (stripV (s.ρ z)) with
 | none => rw [hv] at h1; cases h1
 | some r =>
 obtain ⟨u, ψ⟩ := r
 rw [hv] at h1 hfl
 have hfl : flatV u = true := hfl
 simp only at h1
 obtain ⟨rfl, rfl⟩ := Prod.mk.inj (Option.some.inj h1)
 obtain ⟨d, q, bad, v, H1, hd, e2, hbq, hcl, hHp, hF⟩ := append_all hy h2
 have hkeep : ∀ w, w ≠ e -> (putv s x.dst (wrapg x.guard c u)).ρ w = s.ρ w := fun w hw => putv_ρ fun e' he => by rw [hxd] at he; cases he; exact hw
 have hcs : bad = [] \/ clearOf fr s.ρ bad = true := hcl.elim (fun h => .inl h.1) fun h => .inr (clear_iff.2 fun w hw => by
  rw [<- hkeep w fun h2 => hek (h2 ▸ hw)]
  exact clear_iff.1 h w hw)
 have g1 := hF s (fun w hw => hkeep w fun h2 => a1 e hxd w hw h2) (by rw [putv_H]) hcs
 refine ⟨_, g1, ?_⟩
 have hde : e ≠ d := a2 e d hxd hd
 have hfree : killO q (s.ρ z) = s.ρ z := by
  rcases hcl with h | h
  ·rw [h.2]; rfl
  ·rcases hcs with h3 | h3
   ·refine killO_free (D := fun _ => true) (fun o ho => ?_) (refs_all (fun _ => rfl) _)
    have := hbq o ho
    rw [h3] at this
    simp at this
   ·exact killO_free (D := fun p => !bad.contains p) (fun o ho => by simp only [hbq o ho, Bool.not_true]) (clear_iff.1 h3 z hz)
 have hs1 : ∀ w ∈ looks ds x, (⟨upd (fun t => killO q (s.ρ t)) d v, H1⟩ : St).ρ w = killO q (s.ρ w) := fun w hw => by
  show upd (fun t => killO q (s.ρ t)) d v w = _
  rw [upd_ne _ _ (a3 d hd w hw)]
 have hzl : z ∈ looks ds x := looks_op (x := .tmp z) (by rw [hop]; simp [opnds]) rfl
 have hz1 : (⟨upd (fun t => killO q (s.ρ t)) d v, H1⟩ : St).ρ z = s.ρ z := by rw [hs1 z hzl, hfree]
 have hgc1 : gcond ds (⟨upd (fun t => killO q (s.ρ t)) d v, H1⟩ : St).ρ x.guard = some c := (gcond_kill (q := q) (fun j b e' hg he => hs1 e' (looks_g hg he))).1 hgc
 have hv1 : vload cx.P H1 [] t (stripV (s.ρ z)) = some (u, ψ) := by
  unfold vload at hv ⊢
  split at hv
  ·rename_i l hl
   split at hv
   ·rename_i p i c2 hp
    have hpb : bad.contains p = false := by
     rcases hcs with h3 | h3
     ·rw [h3]; simp
     ·have hr : (stripV (s.ρ z)).refs (fun p => !bad.contains p) = true := refs_strip (clear_iff.1 h3 z hz)
      rw [hp] at hr
      simpa [AV.refs] using hr
    have := hHp p hpb
    rw [putv_H] at this
    simp only [List.contains_nil, Bool.false_eq_true, if_false] at hv ⊢
    cases hH : s.H p with
    | none => rw [hH] at hv; cases hv
    | some ob =>
     rw [hH] at hv this
     simp only [Option.map_some, killOb_es] at this
     rw [this]
     have hg : (ob.es.map (killO q)).getD i .junk = killO q (ob.es.getD i .junk) := by
      rw [List.getD_eq_getElem?_getD, List.getElem?_map, List.getD_eq_getElem?_getD]
      cases ob.es[i]? with
      | none => exact (killO_junk q).symm
      | some _ => rfl
     simp only
     rw [hg, cut_killO]
     obtain ⟨rfl, rfl⟩ := Prod.mk.inj (Option.some.inj hv)
     rw [flat_killO hfl]
   ·exact hv
   ·exact hv
  ·cases hv
 rw [hL, hgc1]
 simp only
 rw [if_pos (show outside fr (stripV (upd (fun t => killO q (s.ρ t)) d v z)) = true by rw [show upd (fun t => killO q (s.ρ t)) d v z = s.ρ z from hz1]; exact hout)]
 unfold svop
 rw [hop]
 simp only [vop]
 rw [show aev cx (upd (fun t => killO q (s.ρ t)) d v) (.tmp z) = s.ρ z from hz1, hv1, e2]
 simp only
 have hB : allB cx (upd (fun t => killO q (s.ρ t)) d v) (opnds (.load t (.tmp z))) = allB cx s.ρ (opnds (.load t (.tmp z))) := allB_agree fun w hw => by
  simp only [opnds, List.mem_singleton] at hw
  rw [hw]
  exact hz1
 rw [hB]
 congr 2
 rw [hxd]
 simp only [putv]
 congr 1
 rw [upd_comm _ _ _ hde.symm]
 congr 1
 funext w
 by_cases hw : w = e
 ·subst hw; simp only [upd_same, killO_wrapg, flat_killO hfl]
 ·simp only [upd_ne _ _ hw]
end
end Go.Aw

/- Steps that are told what an append takes. Own work. -/
namespace Go.Aw
open Go
def ldOk (fr : Option (List Nat)) (r : Option (AV × Prop)) : Bool := match fr with
 | none => true
 | some gr => !gr.contains 888888 || flatO r
def apOk (fr : Option (List Nat)) (g : Option (Nat × Bool)) (r : Option Nat) : Bool := match fr with
 | none => true
 | some gr => g.isSome || (match r with
  | some p => !gr.contains (p + 600000)
  | none => true)
def nOk (cx : Cx) (fr : Option (List Nat)) (o : Oper) (s : St) : Bool := match o.op with
 | .load t x => o.dst.isNone || ldOk fr (vload cx.P s.H [] t (stripV (aev cx s.ρ x)))
 | .call c => match c.callee with
  | .builtin .append => apOk fr o.guard (appO cx s.ρ (.call c))
  | _ => true
 | _ => true
def stepN (cx : Cx) (S : Sig) (A : An) (fr : Option (List Nat)) (ds : List (Option Tmp)) (o : Oper) (s : St) : Option (St × Prop) :=
 if nOk cx fr o s = true then stepX cx S A fr ds o s else none
theorem stepN_get {cx : Cx} {S : Sig} {A : An} {fr : Option (List Nat)} {ds : List (Option Tmp)} {o : Oper} {s : St} {r : St × Prop} (e : stepN cx S A fr ds o s = some r) : nOk cx fr o s = true /\ stepX cx S A fr ds o s = some r := by
 unfold stepN at e
 split at e
 ·rename_i h; exact ⟨h, e⟩
 ·cases e
theorem stepN_put {cx : Cx} {S : Sig} {A : An} {fr : Option (List Nat)} {ds : List (Option Tmp)} {o : Oper} {s : St} {r : St × Prop} (h : nOk cx fr o s = true) (e : stepX cx S A fr ds o s = some r) : stepN cx S A fr ds o s = some r := by
 unfold stepN
 rw [if_pos h, e]
theorem nOk_none {cx : Cx} {o : Oper} {s : St} : nOk cx none o s = true := by
 unfold nOk
 split
 ·simp [ldOk]
 ·split <;> rfl
 ·rfl
theorem stepN_none {cx : Cx} {S : Sig} {A : An} {ds : List (Option Tmp)} {o : Oper} {s : St} : stepN cx S A none ds o s = stepX cx S A none ds o s := by
 unfold stepN
 rw [if_pos nOk_none]
theorem hard_killL : ∀ {l : List Nat} {a : AV}, hardV (killL l a) = true -> killL l a = a
 | [], _, _ => rfl
 | o :: l, a, h => by
  have h1 := hard_killL (l := l) (a := kill o a) h
  simp only [killL] at h ⊢
  rw [h1] at h ⊢
  exact hard_kill h
theorem flat_killL {l : List Nat} {a : AV} (h : flatV a = true) : killL l a = a := by
 induction l with
 | nil => rfl
 | cons o l ih => rw [killL, flat_kill h, ih]
theorem stripV_killL : ∀ {l : List Nat} {a : AV}, stripV (killL l a) = killL l (stripV a)
 | [], _ => rfl
 | o :: l, a => by simp only [killL]; rw [stripV_killL, stripV_kill]
theorem killO_L {q : Option Nat} : ∃ l, killO q = killL l := by
 cases q with
 | none => exact ⟨[], rfl⟩
 | some o => exact ⟨[o], rfl⟩
section
variable {cx : Cx} {S : Sig} {A : An} {fr gr : List Nat} {ds : List (Option Tmp)} {x y o : Oper} {s s1 s2 : St} {φ φ1 φ2 : Prop} {orc : List (Tmp × AV)}
theorem aev_killL (hcx : CxOk cx) {l : List Nat} {ρ ρ' : Nat -> AV} {x : Operand} (h : ∀ t, x = .tmp t -> ρ' t = killL l (ρ t)) : aev cx ρ' x = killL l (aev cx ρ x) := by
 have fre : ∀ y : AV, y.refs (fun _ => false) = true -> y = killL l y := fun y hy => (killL_free (D := fun _ => false) (fun _ _ => rfl) hy).symm
 cases x with
 | tmp t => exact h t rfl
 | const v => exact fre _ (cst_refs v)
 | global g =>
  rcases hcx.pureG g with h | h
  ·exact fre _ (pure_refs h)
  ·show cx.G g = killL l (cx.G g)
   rw [h, killL_junk]
 | func f => exact fre _ rfl
theorem sstep_keep (h : sstep cx fr orc ds o s = some (s1, φ)) : ∃ l, ∀ e, o.dst ≠ some e -> s1.ρ e = killL l (s.ρ e) := by
 have hne : ∀ {d}, o.dst ≠ some d -> ∀ e, o.dst = some e -> d ≠ e := fun hd e he e2 => hd (by rw [he, e2])
 by_cases hV : isV (opCls o.op) = true
 ·obtain ⟨v, ob, rfl, _⟩ := step_loc hV h
  exact ⟨[], fun e he => app_ρ (hne he)⟩
 ·by_cases hA : opCls o.op = .append
  ·obtain ⟨e, q, bad, v, H1, he, rfl, _⟩ := append_loc hA h
   obtain ⟨l, hl⟩ := killO_L (q := q)
   refine ⟨l, fun d hd => ?_⟩
   show upd (fun t => killO q (s.ρ t)) e v d = _
   rw [upd_ne _ _ (hne hd e he), hl]
  by_cases hM : opCls o.op = .mput
  ·obtain ⟨H', rfl⟩ := mput_loc hM h
   refine ⟨[], fun e he => ?_⟩
   rw [putv_ρ (hne he)]; rfl
  ·have hS : opCls o.op = .store := by
    unfold sstep at h
    split at h
    case h_1 => cases h
    cases hop : opCls o.op with
    | store => rfl
    | append => exact absurd hop hA
    | mput => exact absurd hop hM
    | P => rw [hop] at hV; simp [isV] at hV
    | L => rw [hop] at hV; simp [isV] at hV
    | A => rw [hop] at hV; simp [isV] at hV
    | no =>
     exfalso
     cases hop2 : o.op <;> simp [hop2, opCls] at hop h
     rename_i cl
     cases hcl : cl.callee with
     | value f => simp [hcl] at hop
     | invoke r m => simp [hcl, svop, vop, hop2] at h
     | builtin b => cases b <;> simp [hcl, svop, vop, vbuiltin, hop2] at hop h
   obtain ⟨t, a, b, hop⟩ := store_op hS
   unfold sstep at h
   split at h
   case h_1 => cases h
   simp only [hop] at h
   unfold sstore at h
   refine ⟨[], fun e he => ?_⟩
   split at h
   ·split at h
    ·cases h
     rw [putv_ρ (hne he)]; rfl
    ·cases h
   ·cases h
    rw [putv_ρ (hne he)]; rfl
theorem stepX_keep (h : stepX cx S A (some gr) ds o s = some (s1, φ)) : ∃ l, ∀ e, o.dst ≠ some e -> s1.ρ e = killL l (s.ρ e) := by
 have hne : ∀ {d}, o.dst ≠ some d -> ∀ e, o.dst = some e -> d ≠ e := fun hd e he e2 => hd (by rw [he, e2])
 cases hcv : isCV o with
 | false => exact sstep_keep (stepX_get hcv h).2
 | true =>
  cases hpc : qId A o with
  | some k =>
   obtain ⟨c, r, rfl, _⟩ := q_inv hpc h
   exact ⟨[], fun e he => putv_ρ (hne he)⟩
  | none =>
  obtain ⟨cl, f, h1, h2⟩ := isCV_spec hcv
  rw [stepX_cv h1 h2 hpc] at h
  split at h
  ·simp only [stCall] at h
   split at h
   case h_2 => cases h
   split at h
   ·simp only [stB] at h
    split at h
    ·cases h
     exact ⟨[], fun e he => putv_ρ (hne he)⟩
    ·cases h
   ·simp only [stH] at h
    split at h
    ·split at h
     case isFalse => cases h
     rename_i ho _ _ _
     cases h
     refine ⟨ho.lost, fun e he => ?_⟩
     rw [putv_ρ (hne he), dropAll_eq]
    ·cases h
  ·simp only [stNo] at h; cases h
  ·cases h
theorem load_val {t : TypeId} {a : Operand} {e : Tmp} (hop : o.op = .load t a) (hd : o.dst = some e) (h : stepX cx S A (some gr) ds o s = some (s1, φ)) : ∃ c v ψ, vload cx.P s.H [] t (stripV (aev cx s.ρ a)) = some (v, ψ) /\ s1.ρ e = wrapg o.guard c v := by
 have hcv : isCV o = false := by simp [isCV, hop]
 have h := (stepX_get hcv h).2
 unfold sstep at h
 split at h
 case h_1 => cases h
 rename_i c _
 simp only [hop, opCls] at h
 split at h
 case isFalse => cases h
 unfold svop at h
 split at h
 case h_2 => cases h
 rename_i v ψ hv
 cases h
 rw [hop] at hv
 simp only [vop] at hv
 refine ⟨c, v, ψ, hv, ?_⟩
 rw [hd]
 simp only [putv, upd_same]
theorem killL_wrapg {g : Option (Nat × Bool)} {c : Bool} : ∀ {l : List Nat} {v : AV}, killL l (wrapg g c v) = wrapg g c (killL l v)
 | [], _ => rfl
 | o :: l, v => by
  show killL l (kill o (wrapg g c v)) = wrapg g c (killL l (kill o v))
  rw [show kill o (wrapg g c v) = wrapg g c (kill o v) by cases g <;> rfl, killL_wrapg]
theorem wrapg_inj {g : Option (Nat × Bool)} {c c' : Bool} {v v' : AV} (h : wrapg g c v = wrapg g c' v') : v = v' := by
 cases g with
 | none => exact h
 | some _ => exact (AV.gd.inj h).2
theorem app_hard {c : Call} (hop : o.op = .call c) (hcl : c.callee = .builtin .append) (hg : o.guard = none) (h : stepX cx S A (some gr) ds o s = some (s1, φ)) : ∃ a r, c.args.toList = a :: r /\ hardV (stripV (aev cx s.ρ a)) = true := by
 have hcv : isCV o = false := by simp [isCV, hop, hcl]
 have h := (stepX_get hcv h).2
 unfold sstep at h
 rw [hg] at h
 simp only [gcond, hop, hcl] at h
 unfold sappend at h
 split at h
 ·rename_i d a b t t2 _ hdst hargs hts
  refine ⟨a, [b], hargs, ?_⟩
  split at h
  case isFalse => cases h
  split at h
  case h_2 => cases h
  rename_i hv
  unfold vappend at hv
  split at hv
  case h_1 => cases hv
  split at hv
  case h_1 => cases hv
  split at hv
  case h_1 => cases hv
  split at hv
  ·rename_i hx; rw [hx]; rfl
  ·rename_i hx; rw [hx]; rfl
  ·cases hv
 ·cases ‹true = false›
 ·cases h
theorem nOk_ld {t : TypeId} {a : Operand} {v : AV} {ψ : Prop} (hop : o.op = .load t a) (hv : vload cx.P s.H [] t (stripV (aev cx s.ρ a)) = some (v, ψ)) : nOk cx (some gr) o s = (o.dst.isNone || (!gr.contains 888888 || flatV v)) := by
 unfold nOk
 simp only [hop, hv, ldOk, flatO]
theorem nOk_app (hcx : CxOk cx) {l : List Nat} {t : St} (hl : ∀ z ∈ looks ds o, t.ρ z = killL l (s.ρ z)) (hop : ∀ t a, o.op ≠ .load t a) (hh : ∀ c, o.op = .call c -> c.callee = .builtin .append -> o.guard = none -> ∃ a r, c.args.toList = a :: r /\ hardV (stripV (aev cx t.ρ a)) = true) :
  nOk cx (some gr) o s = nOk cx (some gr) o t := by
 unfold nOk
 split
 ·rename_i h; exact absurd h (hop _ _)
 ·rename_i c hc
  split
  ·rename_i hcl
   unfold apOk
   simp only
   cases hg : o.guard with
   | some g => rfl
   | none =>
    obtain ⟨a, r, ha, hv⟩ := hh c hc hcl hg
    have e : stripV (aev cx t.ρ a) = stripV (aev cx s.ρ a) := by
     have := aev_killL (cx := cx) (ρ := s.ρ) (ρ' := t.ρ) hcx (l := l) (x := a) fun z hz => hl z (looks_op (x := a) (by rw [hc]; simp [opnds, hcl, ha]) hz)
     rw [this, stripV_killL] at hv ⊢
     exact hard_killL hv
    simp only [appO, ha, e]
  ·rfl
 ·rfl
theorem nOk_swap (hcx : CxOk cx) (hap : apartA ds x y = true) (n1 : nOk cx (some gr) x s = true) (n2 : nOk cx (some gr) y s1 = true) {s1' : St} (h1 : stepX cx S A (some gr) ds x s = some (s1, φ1)) (h2 : stepX cx S A (some gr) ds y s1 = some (s2, φ2))
  (g1 : stepX cx S A (some gr) ds y s = some (s1', φ2)) (g2 : stepX cx S A (some gr) ds x s1' = some (s2, φ1)) : nOk cx (some gr) y s = true /\ nOk cx (some gr) x s1' = true := by
 obtain ⟨a1, a2, a3⟩ := apartA_spec hap
 constructor
 ·by_cases hld : ∃ t a, y.op = .load t a
  ·obtain ⟨t, a, hop⟩ := hld
   cases hd : y.dst with
   | none => unfold nOk; simp [hop, hd]
   | some e =>
   obtain ⟨c1, w1, ψ, v1, k1⟩ := load_val hop hd h2
   obtain ⟨c2, w2, ψ', v2, k2⟩ := load_val hop hd g1
   rw [nOk_ld hop v1] at n2
   rw [nOk_ld hop v2]
   obtain ⟨l, hl⟩ := stepX_keep g2
   have e2 := hl e fun he => a2 e e he hd rfl
   rw [k1, k2, killL_wrapg] at e2
   have e3 := wrapg_inj e2
   rw [hd] at n2 ⊢
   simp only [Option.isNone_some, Bool.false_or, Bool.or_eq_true] at n2 ⊢
   refine n2.imp id fun hf => ?_
   rw [e3] at hf
   rw [<- hard_killL (flat_hard hf)]
   exact hf
  ·obtain ⟨l, hl⟩ := stepX_keep h1
   rw [nOk_app (t := s1) hcx (fun z hz => hl z fun he => a1 z he z hz rfl) (fun t a h => hld ⟨t, a, h⟩) (fun c h1 h3 h4 => app_hard h1 h3 h4 h2)]
   exact n2
 ·by_cases hld : ∃ t a, x.op = .load t a
  ·obtain ⟨t, a, hop⟩ := hld
   cases hd : x.dst with
   | none => unfold nOk; simp [hop, hd]
   | some e =>
   obtain ⟨c1, w1, ψ, v1, k1⟩ := load_val hop hd h1
   obtain ⟨c2, w2, ψ', v2, k2⟩ := load_val hop hd g2
   rw [nOk_ld hop v1] at n1
   rw [nOk_ld hop v2]
   obtain ⟨l, hl⟩ := stepX_keep h2
   have e2 := hl e fun he => a2 e e hd he rfl
   rw [k1, k2, killL_wrapg] at e2
   have e3 := wrapg_inj e2
   rw [hd] at n1 ⊢
   simp only [Option.isNone_some, Bool.false_or, Bool.or_eq_true] at n1 ⊢
   refine n1.imp id fun hf => ?_
   rw [e3, flat_killL hf]
   exact hf
  ·obtain ⟨l, hl⟩ := stepX_keep g1
   rw [<- nOk_app (t := s1') (s := s) hcx (fun z hz => hl z fun he => a3 z he z hz rfl) (fun t a h => hld ⟨t, a, h⟩) (fun c h1 h3 h4 => app_hard h1 h3 h4 g2)]
   exact n1
def killObL : List Nat -> Ob -> Ob
 | [], b => b
 | o :: l, b => killObL l (subOb o (fun _ _ => .junk) (fun _ _ => .junk) b)
theorem killObL_es : ∀ {l : List Nat} {b : Ob}, killObL l b = ⟨b.box, b.sz, b.es.map (killL l)⟩
 | [], b => by simp only [killObL, killL, List.map_id']
 | o :: l, b => by
  rw [killObL, killObL_es]
  simp only [subOb, List.map_map]
  rfl
theorem dropH_ob : ∀ {l : List Nat} {H : Hp} {p : Nat}, p ∉ l -> dropH H l p = (H p).map (killObL l)
 | [], H, p, _ => by
  show H p = _
  cases H p <;> rfl
 | o :: l, H, p, h => by
  simp only [List.mem_cons, not_or] at h
  simp only [dropH]
  rw [dropH_ob h.2]
  simp only [if_neg h.1]
  cases H p <;> rfl
theorem cut_killL : ∀ {k : List Nat} {e : AV} {c : Nat} {l : Option Nat}, cut (killL k e) c l = killL k (cut e c l)
 | [], _, _, _ => rfl
 | o :: k, e, c, l => by
  rw [killL, cut_killL, show kill o e = killO (some o) e from rfl, cut_killO]
  rfl
def okL (fr : List Nat) (y : Oper) : Bool := match y.op, y.guard, y.dst with
 | .load _ (.tmp z), none, some _ => fr.contains 888888 && (fr.contains 888887 && (kset fr).contains z)
 | _, _, _ => false
theorem swapHl (hS : SigF cx.P cx.G S) (hap : apartA ds x y = true) (hx : isHV A x = true) {t : TypeId} {z e : Tmp} (hop : y.op = .load t (.tmp z)) (hz : z ∈ kset gr) (hm7 : gr.contains 888887 = true) (hg : y.guard = none) (hyd : y.dst = some e)
  (hfl : flatO (vload cx.P s1.H [] t (stripV (s1.ρ z))) = true) (h1 : stepX cx S A (some gr) ds x s = some (s1, φ1)) (hφ1 : φ1) (h2 : sstep cx gr [] ds y s1 = some (s2, φ2)) :
  ∃ s1', sstep cx gr [] ds y s = some (s1', φ2) /\ stepX cx S A (some gr) ds x s1' = some (s2, φ1) := by
 obtain ⟨a1, a2, a3⟩ := apartA_spec hap
 have hxc := (isHV_spec hx).1
 have hL : ∀ t' : St, sstep cx gr [] ds y t' = if outside gr (stripV (t'.ρ z)) = true then svop cx true y t' else none := fun t' => by
  unfold sstep
  rw [hg]
  simp only [gcond, hop, opCls]
  rfl
 have hzl : z ∈ looks ds y := looks_op (x := .tmp z) (by rw [hop]; simp [opnds]) rfl
 have hnx : ∀ d, x.dst = some d -> z ≠ d := fun d hd => a1 d hd z hzl
 rw [hL] at h2
 split at h2
 case isFalse => cases h2
 rename_i hout
 unfold svop at h2
 rw [hop] at h2
 have h2 : (match vload cx.P s1.H [] t (stripV (s1.ρ z)) with | some (v, φ) => some (putv s1 y.dst (wrapg y.guard true v), true = true -> allB cx s1.ρ (opnds (.load t (.tmp z))) = true /\ φ) | none => none) = some (s2, φ2) := h2
 cases hv : vload cx.P s1.H [] t (stripV (s1.ρ z)) with
 | none => rw [hv] at h2; cases h2
 | some r =>
 obtain ⟨u, ψ⟩ := r
 rw [hv] at h2 hfl
 have hfl : flatV u = true := hfl
 have h2 : some (putv s1 y.dst (wrapg y.guard true u), (true = true -> allB cx s1.ρ (opnds (.load t (.tmp z))) = true /\ ψ)) = some (s2, φ2) := h2
 obtain ⟨rfl, rfl⟩ := Prod.mk.inj (Option.some.inj h2)
 have fin : ∀ (hz1 : s1.ρ z = s.ρ z) (hv0 : vload cx.P s.H [] t (stripV (s.ρ z)) = some (u, ψ)), sstep cx gr [] ds y s = some (putv s y.dst (wrapg y.guard true u), true = true -> allB cx s1.ρ (opnds (.load t (.tmp z))) = true /\ ψ) := fun hz1 hv0 => by
  rw [hL, if_pos (by rw [<- hz1]; exact hout)]
  unfold svop
  rw [hop]
  simp only [vop]
  rw [show aev cx s.ρ (.tmp z) = s.ρ z from rfl, hv0]
  simp only
  have hB : allB cx s.ρ (opnds (.load t (.tmp z))) = allB cx s1.ρ (opnds (.load t (.tmp z))) := allB_agree fun w hw => by
   simp only [opnds, List.mem_singleton] at hw
   rw [hw]
   exact hz1.symm
  rw [hB]
 rcases callX_inv hx hS h1 hφ1 with ⟨r, rfl, hF⟩ | ⟨hh, φ', hφ', hD, hF⟩
 ·have hz1 : (putv s x.dst r).ρ z = s.ρ z := putv_ρ hnx
  rw [hz1, putv_H] at hv
  refine ⟨_, fin hz1 hv, ?_⟩
  rw [hF (putv s y.dst (wrapg y.guard true u)) (fun w hw => (putv_ρ fun e' he => a3 e' he w hw).symm) putv_H.symm]
  rw [putv_comm fun d e' hd he => (a2 e' d he hd).symm]
 ·obtain ⟨K, bad, v, H1, rfl, hq, _, hcl, hH1, hG⟩ := call_all (show isHC ([(x.dst.getD 0, hh)].map (·.1)) x = true from isHC_one (x := x) hxc rfl) hD hφ'
  have hH1 := hH1 hm7
  have hKD : ∀ o ∈ K, (fun p => !bad.contains p) o = false := fun o ho => by simp only [hq o ho, Bool.not_true]
  have hr := clear_iff.1 hcl z hz
  have hfree : killL K (s.ρ z) = s.ρ z := killL_free hKD hr
  have hz1 : (putv ⟨fun t => killL K (s.ρ t), H1⟩ x.dst v).ρ z = s.ρ z := by
   rw [putv_ρ hnx]
   exact hfree
  have hv0 : vload cx.P s.H [] t (stripV (s.ρ z)) = some (u, ψ) := by
   rw [hz1, putv_H] at hv
   unfold vload at hv ⊢
   split at hv
   ·rename_i l hl
    split at hv
    ·rename_i p i c2 hp
     have hpb : bad.contains p = false := by
      have hr' : (stripV (s.ρ z)).refs (fun p => !bad.contains p) = true := refs_strip hr
      rw [hp] at hr'
      simpa [AV.refs] using hr'
     have hpK : p ∉ K := fun hm => by rw [hq p hm] at hpb; cases hpb
     simp only [List.contains_nil, Bool.false_eq_true, if_false] at hv ⊢
     have := hH1 p hpb
     rw [dropH_ob hpK] at this
     rw [this] at hv
     cases hH : s.H p with
     | none => rw [hH] at hv; cases hv
     | some ob =>
      rw [hH] at hv
      simp only [Option.map_some, killObL_es] at hv
      have hgd : (ob.es.map (killL K)).getD i .junk = killL K (ob.es.getD i .junk) := by
       rw [List.getD_eq_getElem?_getD, List.getElem?_map, List.getD_eq_getElem?_getD]
       cases ob.es[i]? with
       | none => exact (killL_junk K).symm
       | some _ => rfl
      rw [hgd, cut_killL] at hv
      obtain ⟨e1, e2⟩ := Prod.mk.inj (Option.some.inj hv)
      rw [<- e2]
      simp only
      have := hard_killL (l := K) (a := cut (ob.es.getD i .junk) c2 l) (by rw [e1]; exact flat_hard hfl)
      rw [this] at e1
      rw [e1]
    ·exact hv
    ·exact hv
   ·cases hv
  have g1 := fin hz1 hv0
  refine ⟨_, g1, ?_⟩
  have hwf : (wrapg y.guard true u).refs (fun p => !bad.contains p) = true := wrapg_refs hfl
  have hwk : killL K (wrapg y.guard true u) = wrapg y.guard true u := by rw [killL_wrapg, flat_killL hfl]
  have g2 := hG (putv s y.dst (wrapg y.guard true u)) (fun w hw => (putv_ρ fun e' he => a3 e' he w hw).symm) putv_H.symm (clear_iff.2 fun w hw => by
    by_cases hte : y.dst = some w
    ·rw [hte]
     show (upd s.ρ w _ w).refs _ = true
     rw [upd_same]
     exact hwf
    ·rw [putv_ρ fun e' he e2 => hte (by rw [he, e2])]
     exact clear_iff.1 hcl w hw)
  have g3 := hF _ _ (fun w hw => (putv_ρ fun e' he => a3 e' he w hw).symm) putv_H.symm g2
  rw [g3]
  congr 2
  rw [hyd]
  cases hxd : x.dst with
  | none =>
   simp only [putv]
   congr 1
   funext w
   by_cases hw : w = e
   ·subst hw; simp only [upd_same, hwk]
   ·simp only [upd_ne _ _ hw]
  | some d =>
   have hne := a2 d e hxd hyd
   simp only [putv]
   congr 1
   rw [upd_comm _ _ _ hne]
   congr 1
   funext w
   by_cases hw : w = e
   ·subst hw; simp only [upd_same, hwk]
   ·simp only [upd_ne _ _ hw]
def okV (fr : List Nat) (y : Oper) : Bool := match y.op, y.guard, y.dst with
 | .move _, none, some e => !(kset fr).contains e
 | _, _, _ => false
theorem swapV (hcx : CxOk cx) (hS : SigF cx.P cx.G S) (hap : apartA ds x y = true) (hx : isHV A x = true) {a : Operand} {e : Tmp} (hop : y.op = .move a) (hg : y.guard = none) (hyd : y.dst = some e) (hek : e ∉ kset gr)
  (h1 : stepX cx S A (some gr) ds x s = some (s1, φ1)) (hφ1 : φ1) (h2 : sstep cx gr [] ds y s1 = some (s2, φ2)) :
  ∃ s1', sstep cx gr [] ds y s = some (s1', φ2) /\ stepX cx S A (some gr) ds x s1' = some (s2, φ1) := by
 obtain ⟨a1, a2, a3⟩ := apartA_spec hap
 have hxc := (isHV_spec hx).1
 have hL : ∀ t' : St, sstep cx gr [] ds y t' = some (putv t' y.dst (aev cx t'.ρ a), True) := fun t' => by
  unfold sstep
  rw [hg]
  simp only [gcond, hop, wrapg]
 rw [hL] at h2
 obtain ⟨rfl, rfl⟩ := Prod.mk.inj (Option.some.inj h2)
 have hal : ∀ t, a = .tmp t -> t ∈ looks ds y := fun t ht => looks_op (x := a) (by rw [hop]; simp [opnds]) ht
 refine ⟨_, hL s, ?_⟩
 rcases callX_inv hx hS h1 hφ1 with ⟨r, rfl, hF⟩ | ⟨hh, φ', hφ', hD, hF⟩
 ·rw [hF (putv s y.dst (aev cx s.ρ a)) (fun w hw => (putv_ρ fun e' he => a3 e' he w hw).symm) putv_H.symm]
  have e1 : aev cx (putv s x.dst r).ρ a = aev cx s.ρ a := aev_agree fun t ht => putv_ρ fun d hd => a1 d hd t (hal t ht)
  rw [e1, putv_comm fun d e' hd he => (a2 e' d he hd).symm]
 ·obtain ⟨K, bad, v, H1, rfl, hq, _, hcl, _, hG⟩ := call_all (show isHC ([(x.dst.getD 0, hh)].map (·.1)) x = true from isHC_one (x := x) hxc rfl) hD hφ'
  have e1 : aev cx (putv ⟨fun t => killL K (s.ρ t), H1⟩ x.dst v).ρ a = killL K (aev cx s.ρ a) := aev_killL hcx fun t ht => putv_ρ fun d hd => a1 d hd t (hal t ht)
  have g2 := hG (putv s y.dst (aev cx s.ρ a)) (fun w hw => (putv_ρ fun e' he => a3 e' he w hw).symm) putv_H.symm (clear_iff.2 fun w hw => by
    rw [putv_ρ fun e' he e2 => hek (by rw [hyd] at he; cases he; rw [<- e2]; exact hw)]
    exact clear_iff.1 hcl w hw)
  rw [hF _ _ (fun w hw => (putv_ρ fun e' he => a3 e' he w hw).symm) putv_H.symm g2, e1]
  congr 2
  rw [hyd]
  cases hxd : x.dst with
  | none =>
   simp only [putv]
   congr 1
   funext w
   by_cases hw : w = e
   ·subst hw; simp only [upd_same]
   ·simp only [upd_ne _ _ hw]
  | some d =>
   have hne := a2 d e hxd hyd
   simp only [putv]
   congr 1
   rw [upd_comm _ _ _ hne]
   congr 1
   funext w
   by_cases hw : w = e
   ·subst hw; simp only [upd_same]
   ·simp only [upd_ne _ _ hw]
def commN (A : An) (fl wm : Bool) (fr : List Nat) (ds : List (Option Tmp)) (x y : Oper) : Bool :=
 commX A fl wm fr ds x y || (!wm && (apartA ds x y && ((opCls x.op == .append && (x.guard.isNone && (y.dst.isSome && okN fr y))) || ((opCls x.op == .append && okK y) || ((opCls y.op == .append && okM fr x) || (isHV A x && (okL fr y || okV fr y)))))))
theorem commX_apart {fl wm : Bool} (h : commX A fl wm fr ds x y = true) : apartA ds x y = true := by
 unfold commX at h
 split at h
 ·exact h
 split at h
 ·exact h
 split at h
 ·exact h
 split at h
 ·split at h
  ·simp only [Bool.and_eq_true] at h; exact h.1
  split at h
  ·simp only [Bool.and_eq_true] at h; exact h.1
  simp only [Bool.and_eq_true, Bool.or_eq_true, commB, commA] at h
  exact h.2.elim (·.1) (·.1)
 ·simp only [Bool.and_eq_true, commB] at h; exact h.2.1
theorem app_ncv (h : opCls o.op = .append) : isCV o = false := by
 cases hcv : isCV o with
 | false => rfl
 | true =>
  obtain ⟨cl, f, h1, h2⟩ := isCV_spec hcv
  rw [h1] at h
  simp only [opCls, h2] at h
  cases h
theorem okN_ncv (h : okN fr y = true) : isCV y = false /\ opCls y.op ≠ .store := by
 simp only [okN, Bool.and_eq_true] at h
 have h := h.2
 unfold isCV
 split at h
 ·rename_i hop; rw [hop]; simp [opCls]
 ·rename_i hop; rw [hop]; simp [opCls]
 ·rename_i hop; rw [hop]; simp [opCls]
 ·rename_i c hop
  rw [hop]
  split at h
  ·rename_i hc; simp [opCls, hc]
  ·cases h
 ·rename_i hop; rw [hop]; simp [opCls]
 ·cases h
theorem swapY (hcx : CxOk cx) (hS : SigF cx.P cx.G S) {fl wm : Bool} (hsub : ∀ k, fr.contains k = true -> gr.contains k = true) (hwm : wm = true -> gr.contains 999999 = true) (hgr : wm = false -> gr = fr) (hc : commN A fl wm fr ds x y = true) (hJ : fl = true -> isY x.op = true -> ∀ d, x.dst = some d -> s.ρ d = .junk)
  (h1 : stepN cx S A (some gr) ds x s = some (s1, φ1)) (hφ1 : φ1) (h2 : stepN cx S A (some gr) ds y s1 = some (s2, φ2)) (hφ2 : φ2) :
  ∃ s1', stepN cx S A (some gr) ds y s = some (s1', φ2) /\ stepN cx S A (some gr) ds x s1' = some (s2, φ1) := by
 obtain ⟨n1, h1⟩ := stepN_get h1
 obtain ⟨n2, h2⟩ := stepN_get h2
 rw [commN, Bool.or_eq_true] at hc
 rcases hc with hc | hc
 ·obtain ⟨s1', g1, g2⟩ := swapX hcx hS hsub hwm hc hJ h1 hφ1 h2 hφ2
  obtain ⟨m1, m2⟩ := nOk_swap hcx (commX_apart hc) n1 n2 h1 h2 g1 g2
  exact ⟨s1', stepN_put m1 g1, stepN_put m2 g2⟩
 ·simp only [Bool.and_eq_true, Bool.not_eq_true', beq_iff_eq, Option.isNone_iff_eq_none, Bool.or_eq_true] at hc
  obtain ⟨hwf, hap, hc⟩ := hc
  rcases hc with ⟨hx, hg, hyd, hy⟩ | ⟨hx, hy⟩ | ⟨hy, hx⟩ | ⟨hx, hy | hy⟩
  rotate_left
  ·have hxc := app_ncv hx
   have hyp : isCV y = false /\ opCls y.op ≠ .store := by
    unfold okK at hy
    split at hy
    ·rename_i h; exact ⟨by simp [isCV, h], by rw [h]; simp [opCls]⟩
    ·cases hy
   obtain ⟨_, g1⟩ := stepX_get hxc h1
   obtain ⟨_, g2⟩ := stepX_get hyp.1 h2
   obtain ⟨s1', k1, k2⟩ := swapK hcx hap hx hy g1 g2
   have j1 : stepX cx S A (some gr) ds y s = some (s1', φ2) := stepX_put hyp.1 (wOk_ne hyp.2) k1
   have j2 : stepX cx S A (some gr) ds x s1' = some (s2, φ1) := stepX_put hxc (wOk_ne (by rw [hx]; simp)) k2
   obtain ⟨m1, m2⟩ := nOk_swap hcx hap n1 n2 h1 h2 j1 j2
   exact ⟨s1', stepN_put m1 j1, stepN_put m2 j2⟩
  ·have hyc := app_ncv hy
   have := hgr hwf
   subst this
   obtain ⟨t, z, e, hop, hxd, hm, hz, he⟩ : ∃ t z e, x.op = .load t (.tmp z) /\ x.dst = some e /\ gr.contains 888888 = true /\ z ∈ kset gr /\ e ∉ kset gr := by
    unfold okM at hx
    split at hx
    ·rename_i t z e h1 h2
     simp only [Bool.and_eq_true, Bool.not_eq_true'] at hx
     exact ⟨t, z, e, h1, h2, hx.1, by simpa using hx.2.1, by simpa using hx.2.2⟩
    ·cases hx
   have hxc : isCV x = false := by simp [isCV, hop]
   have hxs : opCls x.op ≠ .store := by rw [hop]; simp [opCls]
   obtain ⟨_, g1⟩ := stepX_get hxc h1
   obtain ⟨_, g2⟩ := stepX_get hyc h2
   obtain ⟨s1', k1, k2⟩ := swapM hap hop hz hxd he hy (by
    unfold nOk at n1
    simp only [hop, hxd, Option.isNone_some, Bool.false_or, ldOk, hm, Bool.not_true] at n1
    exact n1) g1 g2
   have j1 : stepX cx S A (some gr) ds y s = some (s1', φ2) := stepX_put hyc (wOk_ne (by rw [hy]; simp)) k1
   have j2 : stepX cx S A (some gr) ds x s1' = some (s2, φ1) := stepX_put hxc (wOk_ne hxs) k2
   obtain ⟨m1, m2⟩ := nOk_swap hcx hap n1 n2 h1 h2 j1 j2
   exact ⟨s1', stepN_put m1 j1, stepN_put m2 j2⟩
  ·have := hgr hwf
   subst this
   obtain ⟨t, z, e, hop, hg, hyd, hm, hm7, hz⟩ : ∃ t z e, y.op = .load t (.tmp z) /\ y.guard = none /\ y.dst = some e /\ gr.contains 888888 = true /\ gr.contains 888887 = true /\ z ∈ kset gr := by
    unfold okL at hy
    split at hy
    ·rename_i t z e h1 h2 h3
     simp only [Bool.and_eq_true] at hy
     exact ⟨t, z, e, h1, h2, h3, hy.1, hy.2.1, by simpa using hy.2.2⟩
    ·cases hy
   have hyc : isCV y = false := by simp [isCV, hop]
   have hys : opCls y.op ≠ .store := by rw [hop]; simp [opCls]
   obtain ⟨_, g2⟩ := stepX_get hyc h2
   obtain ⟨s1', k1, k2⟩ := swapHl hS hap hx hop hz hm7 hg hyd (by
    unfold nOk at n2
    simp only [hop, hyd, Option.isNone_some, Bool.false_or, ldOk, hm, Bool.not_true] at n2
    exact n2) h1 hφ1 g2
   have j1 : stepX cx S A (some gr) ds y s = some (s1', φ2) := stepX_put hyc (wOk_ne hys) k1
   obtain ⟨m1, m2⟩ := nOk_swap hcx hap n1 n2 h1 h2 j1 k2
   exact ⟨s1', stepN_put m1 j1, stepN_put m2 k2⟩
  ·have := hgr hwf
   subst this
   obtain ⟨a, e, hop, hg, hyd, he⟩ : ∃ a e, y.op = .move a /\ y.guard = none /\ y.dst = some e /\ e ∉ kset gr := by
    unfold okV at hy
    split at hy
    ·rename_i a e h1 h2 h3
     exact ⟨a, e, h1, h2, h3, by simpa using hy⟩
    ·cases hy
   have hyc : isCV y = false := by simp [isCV, hop]
   have hys : opCls y.op ≠ .store := by rw [hop]; simp [opCls]
   obtain ⟨_, g2⟩ := stepX_get hyc h2
   obtain ⟨s1', k1, k2⟩ := swapV hcx hS hap hx hop hg hyd he h1 hφ1 g2
   have j1 : stepX cx S A (some gr) ds y s = some (s1', φ2) := stepX_put hyc (wOk_ne hys) k1
   obtain ⟨m1, m2⟩ := nOk_swap hcx hap n1 n2 h1 h2 j1 k2
   exact ⟨s1', stepN_put m1 j1, stepN_put m2 k2⟩
  have := hgr hwf
  subst this
  have hxc := app_ncv hx
  obtain ⟨hyc, hys⟩ := okN_ncv hy
  obtain ⟨_, h1⟩ := stepX_get hxc h1
  obtain ⟨_, h2⟩ := stepX_get hyc h2
  obtain ⟨c, hop, hcl⟩ : ∃ c, x.op = .call c /\ c.callee = .builtin .append := by
   cases hop : x.op <;> simp [hop, opCls] at hx
   rename_i c
   refine ⟨c, rfl, ?_⟩
   split at hx <;> first | assumption | cases hx
  obtain ⟨s1', g1, g2, g3, g4⟩ := swapL hcx hap hx hg hy (fun p hp => by
   unfold nOk at n1
   simp only [hop, hcl, apOk, hg, Option.isSome_none, Bool.false_or] at n1
   rw [hop] at hp
   simp only [hp, Bool.not_eq_true'] at n1
   exact n1) (fun t a hya => by
   unfold nOk at n2
   simp only [okN, hya, Bool.and_eq_true] at hy
   have hm : gr.contains 888888 = true := by
    have := hy.2
    split at this
    ·simp only [Bool.and_eq_true] at this; exact this.1
    all_goals first | (rename_i h; cases h) | cases this
   have hgy : y.guard = none := by simpa using hy.1
   cases hd : y.dst with
   | none => rw [hd] at hyd; cases hyd
   | some e =>
   simpa only [hya, hd, Option.isNone_some, Bool.false_or, ldOk, hm, Bool.not_true] using n2) h1 h2 hφ2
  refine ⟨s1', stepN_put ?_ (stepX_put hyc (wOk_ne hys) g1), stepN_put ?_ (stepX_put hxc (wOk_ne (by rw [hx]; simp)) g2)⟩
  ·by_cases hld : ∃ t a, y.op = .load t a
   ·obtain ⟨t, a, hya⟩ := hld
    unfold nOk
    simp only [hya, ldOk, g3 t a hya, Bool.or_true]
   ·unfold nOk
    split
    ·rename_i h; exact absurd ⟨_, _, h⟩ hld
    ·rename_i c hc
     simp only [okN, hc, Bool.and_eq_true] at hy
     have := hy.2
     split at this
     ·rename_i h; simp only [h]
     ·cases this
    ·rfl
  ·unfold nOk at n1 ⊢
   simp only [hop, hcl] at n1 ⊢
   rw [hop] at g4
   rw [g4]
   exact n1
theorem stepN_ok (hcx : CxOk cx) (hS : SigF cx.P cx.G S) {fl wm : Bool} (hsub : ∀ k, fr.contains k = true -> gr.contains k = true) (hwm : wm = true -> gr.contains 999999 = true) (hgr : wm = false -> gr = fr) {ops : Array Oper} (hn : ∀ o ∈ ops, ∀ d, o.dst = some d -> cx.ok d) :
  StepOk cx ops (stepN cx S A (some gr) (ops.toList.map (·.dst))) (commN A fl wm fr (ops.toList.map (·.dst))) (fun o => fl && isY o.op) where
 sound κ s a w o s' φ R ho h hφ := stepX_sound hcx R hS hn ho (stepN_get h).2 hφ
 swap x y s s1 s2 φ1 φ2 hc hJ h1 hφ1 h2 hφ2 := swapY hcx hS hsub hwm hgr hc (fun hfl hy => hJ (by rw [hfl]; exact hy)) h1 hφ1 h2 hφ2
 junk o s s' φ d h hd hj := stepX_junk (stepN_get h).2 hd hj
end
variable {cx : Cx} {κ : Kz} {s : St} {a : Act} {w : World} {S : Sig} {A : An} {fr : List Nat} {ds : List (Option Tmp)} {x y o : Oper} {s1 s2 : St} {φ φ1 φ2 : Prop}
variable {gr : List Nat}
def cvD (A : An) : List Oper -> List Tmp
 | [] => []
 | o :: l => if isHV A o then o.dst.getD 0 :: cvD A l else cvD A l
def needW (_ : An) (l : List Oper) : Bool :=
 let m := clo (l.map depsOf) []
 l.zipIdx.any fun p => (opCls p.1.op == .store) && l.zipIdx.any fun q => opCls q.1.op == .L && !((m.getD p.2 0).testBit q.2) && !((m.getD q.2 0).testBit p.2)
def aftN (m : List Nat) (l : List Oper) (j : Nat) : Bool := l.zipIdx.any fun p => isApp p.1.op && decide (p.2 < j) && !((m.getD j 0).testBit p.2)
def aftH (A : An) (m : List Nat) (l : List Oper) (j : Nat) : Bool := l.zipIdx.any fun p => isHV A p.1 && decide (p.2 < j) && !((m.getD j 0).testBit p.2)
def befN (m : List Nat) (l : List Oper) (j : Nat) : Bool := l.zipIdx.any fun p => isApp p.1.op && decide (j < p.2) && !((m.getD p.2 0).testBit j)
def mrkN (A : An) (l : List Oper) : List Nat :=
 let m := clo (l.map depsOf) []
 (if l.zipIdx.any fun q => (match q.1.op with | .load .. => true | _ => false) && (aftN m l q.2 || befN m l q.2 || aftH A m l q.2) then [888888] else []) ++
 (if l.zipIdx.any fun q => (match q.1.op with | .load .. => true | _ => false) && aftH A m l q.2 then [888887] else []) ++
 l.zipIdx.flatMap fun q => match q.1.op with
  | .buildSlice .. => if aftN m l q.2 then q.1.dst.toList.map (· + 600000) else []
  | .load _ (.tmp z) => if befN m l q.2 then [1000000 + z] else []
  | _ => []
def frX (A : An) (l : List Oper) : List Nat := frA l ++ (if anyX A l then frK (argsU (cvD A l) l) (l.map (·.dst)) l else []) ++ (if needW A l then (frA l).map (· + 700000) else []) ++ mrkN A l
def baseA (l : List Oper) : Nat -> Nat -> Nat
 | 0, t => t
 | n + 1, t => match l.find? (fun o => o.dst == some t) with
  | some o => match o.op with
   | .fieldAddr _ (.tmp u) _ => baseA l n u
   | .indexAddr _ (.tmp u) _ => baseA l n u
   | .move (.tmp u) => baseA l n u
   | .nilCheck (.tmp u) => baseA l n u
   | _ => t
  | none => t
def storeB (l : List Oper) : List Oper -> List Tmp
 | [] => []
 | o :: r => match o.op with
  | .store _ (.tmp t) _ => baseA l 20 t :: storeB l r
  | _ => storeB l r
def refsT (s : St) : List Tmp -> List Nat
 | [] => []
 | t :: r => refT (refOf (stripV (s.ρ t))) ++ refsT s r
where
 refT : Option Nat -> List Nat
  | some p => [p]
  | none => []
def wX (wm : Bool) (ts : List Tmp) (s : St) : List Nat := if wm = true then 999999 :: refsT s ts else []
def regX (A : An) (f : FuncId) (id : Nat) (n : Nb) (l : List Oper) (draw : Bool) : Bool :=
 dstsOk n (l.map (·.dst)) && (!draw || (A.dr f id == some (frX A l, needW A l, storeB l l, blD (anyX A l) l) && ndB (l.map (·.dst)) && smaller l && ordT (commN A (anyX A l) (needW A l) (frX A l) (l.map (·.dst))) l [] (A.ord f id)))
def regC (n : Nb) (l : List Oper) (draw : Bool) : Bool := dstsOk n (l.map (·.dst)) && (!draw || (ndB (l.map (·.dst)) && smaller l && ordB (commC (l.map (·.dst))) l (List.range' 0 l.length)))
def orN (a b : Nat) : Nat := if a = 0 then b else a
def keyOf : Code -> Nat
 | .region id _ _ => id + 1
 | .seq a b => orN (keyOf a) (keyOf b)
 | .cond _ a b => orN (keyOf a) (keyOf b)
 | .block _ c => keyOf c
 | .loop c => keyOf c + 100000
 | .rangeFunc _ _ a b => orN (keyOf a) (keyOf b) + 200000
 | _ => 0
def psOk (n : Nat) (z : List Tmp) : List Tmp -> Bool
 | [] => true
 | p :: l => decide (p < n) && !z.contains p && !l.contains p && psOk n z l
theorem psOk_spec {n : Nat} {z : List Tmp} : ∀ {l : List Tmp}, psOk n z l = true -> (∀ p ∈ l, p < n /\ z.contains p = false) /\ l.Nodup
 | [], _ => ⟨by simp, by simp⟩
 | p :: l, h => by
  simp only [psOk, Bool.and_eq_true, decide_eq_true_eq, Bool.not_eq_true'] at h
  obtain ⟨⟨⟨h1, h2⟩, h3⟩, h4⟩ := h
  obtain ⟨k1, k2⟩ := psOk_spec h4
  refine ⟨fun q hq => ?_, List.nodup_cons.2 ⟨fun hp => (by rw [List.contains_iff_mem.2 hp] at h3; cases h3), k2⟩⟩
  rcases List.mem_cons.1 hq with rfl | hq
  ·exact ⟨h1, h2⟩
  ·exact k1 q hq
def codeX (A : An) (f : FuncId) (n : Nb) : Code -> Bool
 | .seq x y => codeX A f n x && codeX A f n y
 | .block _ c => codeX A f n c
 | .scope c => codeX A f n c
 | .cond _ x y => codeX A f n x && codeX A f n y
 | .loop c => codeX A f n c
 | .rangeFunc g ps a b => !n.r && psOk n.n ((A.keep f (keyOf (.rangeFunc g ps a b))).getD []) ps.toList && codeX A f ⟨n.n, (A.keep f (keyOf (.rangeFunc g ps a b))).getD [], true⟩ a && codeX A f ⟨n.n, (A.keep f (keyOf (.rangeFunc g ps a b))).getD [], true⟩ b
 | .region id ops draw => if A.cp f id = true then regC n ops.toList draw else regX A f id n ops.toList draw
 | _ => true
def runX (cx : Cx) (S : Sig) (A : An) (fr : List Nat) (ds : List (Option Tmp)) : List Oper -> St -> Option (St × Prop) := srunG (stepN cx S A (some fr) ds)
theorem StepOk.of_list (hcx : CxOk cx) (hS : SigF cx.P cx.G S) {wm : Bool} (hsub : ∀ k, fr.contains k = true -> gr.contains k = true) (hwm : wm = true -> gr.contains 999999 = true) (hgr : wm = false -> gr = fr) {l : List Oper} (hn : dstsOk cx.nb (l.map (·.dst)) = true) (ops : Array Oper) (e : ops.toList = l) :
  StepOk cx ops (stepN cx S A (some gr) (l.map (·.dst))) (commN A (anyX A l) wm fr (l.map (·.dst))) (fun o => anyX A l && isY o.op) := by
 subst e
 exact stepN_ok hcx hS hsub hwm hgr (dstsOk_spec hn)
theorem AW.drawX (hcx : CxOk cx) (hS : SigF cx.P cx.G S) (hm : cx.P.follows .mixedOrders = true) {id : Nat} {l : List Oper} {Q : Exit -> St -> Prop} {f : FuncId} (hr : regX A f id cx.nb l true = true) {fr : List Nat} {wm : Bool} {ts : List Tmp} {bl : List (Option Tmp)} (hd : A.dr f id = some (fr, wm, ts, bl)) {s1 : St}
  (h : (A.ord f id).Leaves l (fun τ => ∃ s' φ, runX cx S A (wX wm ts s1 ++ fr) (l.map (·.dst)) τ (blank bl s) = some (s', φ) /\ φ /\ Q .normal s')) : AW cx (.region id l.toArray true) Q s := by
 unfold regX at hr
 rw [Bool.and_eq_true, Bool.not_true, Bool.false_or, Bool.and_eq_true, Bool.and_eq_true, Bool.and_eq_true, hd, beq_iff_eq, Option.some.injEq, Prod.mk.injEq, Prod.mk.injEq, Prod.mk.injEq] at hr
 obtain ⟨hr1, ⟨⟨⟨rfl, rfl, rfl, rfl⟩, hr2⟩, hr3⟩, hr4⟩ := hr
 refine AW.regT (StepOk.of_list (wm := needW A l) (fr := frX A l) (gr := wX (needW A l) (storeB l l) s1 ++ frX A l) hcx hS (fun k hk => ?_) (fun hw => ?_) (fun hw => ?_) hr1 _ (by simp)) hm hr2 hr3 hr4 (by rw [blD_eq]) h
 ·simp only [List.contains_eq_mem, List.mem_append, decide_eq_true_eq] at hk ⊢
  exact .inr hk
 ·simp [wX, hw]
 ·simp [wX, hw]
theorem blank_nil {s : St} : blank [] s = s := rfl
theorem wpOps_C {cx : Cx} (hcx : CxOk cx) {l : List Oper} (hn : ∀ o ∈ l.toArray, ∀ d, o.dst = some d -> cx.ok d) {s' : St} {Q : Exit -> Act -> World -> Prop} (hQ : ∀ a w, Rel cx s' a w -> Q .normal a w) :
  ∀ (l2 : List Oper) (k0 : Nat) (s : St) (φ : Prop) (a : Act) (w : World), (∀ j, l2[j]? = l[k0 + j]?) -> srunG (stepC cx (l.map (·.dst))) l2 s = some (s', φ) -> φ -> Rel cx s a w -> wpOpsIn (FR cx.rd) 0 cx.P l.toArray Q (List.range' k0 l2.length) a w
 | [], k0, s, φ, a, w, _, h, _, R => by
  simp only [srunG] at h
  cases h
  simp only [List.length_nil, List.range'_zero, wpOpsIn]
  exact hQ a w R
 | o :: l2, k0, s, φ, a, w, hl, h, hφ, R => by
  simp only [srunG] at h
  cases hs : stepC cx (l.map (·.dst)) o s with
  | none => rw [hs] at h; cases h
  | some x =>
   obtain ⟨s1, φ1⟩ := x
   rw [hs] at h
   simp only at h
   cases hr : srunG (stepC cx (l.map (·.dst))) l2 s1 with
   | none => rw [hr] at h; cases h
   | some y =>
    obtain ⟨s2, φ2⟩ := y
    rw [hr] at h
    cases h
    have h0 : l.toArray[k0]? = some o := by simpa using (hl 0).symm
    have IH := fun a' w' => wpOps_C hcx hn hQ l2 (k0 + 1) s1 φ2 a' w' (fun j => by have := hl (j + 1); simpa [Nat.add_assoc, Nat.add_comm 1 j] using this) hr hφ.2
    obtain ⟨κ, R⟩ := R
    simp only [List.length_cons, List.range'_succ, wpOpsIn, h0]
    rcases stepC_sound hcx R hn (Array.mem_of_getElem? h0) (by simpa using hs) hφ.1 with ⟨hw, hD⟩ | ⟨hw, hR⟩
    ·rw [if_pos hw]
     exact hD _ _ (fun a' w' R' => IH a' w' R')
    ·rw [if_neg (by simp [hw])]
     exact ⟨fun _ _ => trivial, IH _ _ hR⟩
theorem AW.regC {cx : Cx} (hcx : CxOk cx) (hm : cx.P.follows .mixedOrders = true) {id : Nat} {l : List Oper} {draw : Bool} {Q : Exit -> St -> Prop} (hr : Aw.regC cx.nb l draw = true) {s s' : St} {φ : Prop} (h : srunG (stepC cx (l.map (·.dst))) l s = some (s', φ)) (hφ : φ) (hQ : Q .normal s') : AW cx (.region id l.toArray draw) Q s := by
 unfold Aw.regC at hr
 rw [Bool.and_eq_true] at hr
 obtain ⟨hd, hr⟩ := hr
 cases draw with
 | false =>
  intro a w R
  refine wpIn_region ?_
  have := wpOps_C (l := l) hcx (dstsOk_spec (by simpa using hd)) (s' := s') (Q := fun e a' w' => ∃ s', Q e s' /\ Rel cx s' a' w') (fun a w R => ⟨s', hQ, R⟩) l 0 s φ a w (by simp) h hφ R
  simpa [List.range_eq_range'] using this
 | true =>
  simp only [Bool.not_true, Bool.false_or, Bool.and_eq_true] at hr
  have hb : blank ((l.filter fun _ => false).map (·.dst)) s = s := by
   have : (l.filter fun _ : Oper => false) = [] := by rw [List.filter_eq_nil_iff]; simp
   rw [this]
   exact blank_nil
  have hK : ∀ ops : Array Oper, ops.toList = l -> StepOk cx ops (stepC cx (l.map (·.dst))) (commC (l.map (·.dst))) (fun _ => false) := fun ops e => by
   subst e
   exact stepC_ok hcx (dstsOk_spec hd)
  obtain ⟨⟨r1, r2⟩, r3⟩ := hr
  refine AW.regG (hK _ (by simp)) hm r1 r2 r3 ?_
  rw [hb, h]
  exact ⟨hφ, hQ⟩
end Go.Aw

/- Values and objects in a form that depends on what they say alone. Own work. -/
namespace Go.Aw
open Go
def frzM : List Nat -> List AV -> Hp -> Option ((List AV × Hp) × Prop)
 | [], av, H => some ((av, H), True)
 | o :: l, av, H => frzO l av H o (H o)
where
 frzO (l : List Nat) (av : List AV) (H : Hp) (o : Nat) : Option Ob -> Option ((List AV × Hp) × Prop)
  | some ob => frzP (immB ob = true) (frzM l (av.map (frzA o ob)) (frzH o ob H))
  | none => none
 frzP (φ : Prop) : Option ((List AV × Hp) × Prop) -> Option ((List AV × Hp) × Prop)
  | some (r, ψ) => some (r, φ /\ ψ)
  | none => none
variable {cx : Cx} {κ : Kz} {s : St} {a : Act} {w w' : World}
theorem frzM_sound (hcx : CxOk cx) : ∀ {l : List Nat} {κ : Kz} {av av' : List AV} {H H' : Hp} {φ : Prop}, frzM l av H = some ((av', H'), φ) -> φ -> RelK cx κ ⟨fun t => av.getD t .junk, H⟩ a w ->
  ∃ κ', RelK cx κ' ⟨fun t => av'.getD t .junk, H'⟩ a w /\ av'.length = av.length
 | [], κ, av, av', H, H', φ, h, _, R => by simp only [frzM] at h; cases h; exact ⟨κ, R, rfl⟩
 | o :: l, κ, av, av', H, H', φ, h, hφ, R => by
  simp only [frzM] at h
  cases ho : H o with
  | none => rw [ho] at h; simp only [frzM.frzO] at h; cases h
  | some ob =>
   rw [ho] at h
   simp only [frzM.frzO] at h
   cases hr : frzM l (av.map (frzA o ob)) (frzH o ob H) with
   | none => rw [hr] at h; simp only [frzM.frzP] at h; cases h
   | some r =>
    obtain ⟨⟨av2, H2⟩, ψ⟩ := r
    rw [hr] at h
    simp only [frzM.frzP] at h
    cases h
    have R1 := RelK.freeze R (o := o) (ob := ob) ho (immB_spec hφ.1) (fun g => globSub hcx g)
    rw [freeze_eq] at R1
    have e : (fun t => frzA o ob (av.getD t .junk)) = fun t => (av.map (frzA o ob)).getD t .junk := by
     funext t
     simp only [List.getD_eq_getElem?_getD, List.getElem?_map]
     cases av[t]? <;> rfl
    simp only [e] at R1
    obtain ⟨κ', k1, k3⟩ := frzM_sound hcx hr hφ.2 R1
    exact ⟨κ', k1, by rw [k3, List.length_map]⟩
def fixV (fz : Bool) (nm sz : Nat) : List Nat -> AV -> Hp -> AV × Hp
 | [], v, H => match v with
  | .nilsl => if fz = true then (.ro sz [], H) else (.sl nm 0 0, upd H nm (some ⟨false, sz, []⟩))
  | v => (v, H)
 | c :: p, v, H => match v with
  | .agg cs => fixG cs c (fixV fz nm sz p (cs.getD c .junk) H)
  | .ptr o i c0 => fixQ fz nm sz p o i c0 c (H o) H
  | .sl o lo len => fixU fz nm sz p o lo len c (H o) H
  | v => (v, H)
where
 fixU (fz : Bool) (nm sz : Nat) (p : List Nat) (o lo len c : Nat) (x : Option Ob) (H : Hp) : AV × Hp := match x with
  | some ob => fixT o lo len c ob (fixV fz nm sz p (ob.es.getD (lo + c) .junk) H)
  | none => (.sl o lo len, H)
 fixT (o lo len c : Nat) (ob : Ob) (r : AV × Hp) : AV × Hp := (.sl o lo len, upd r.2 o (some ⟨ob.box, ob.sz, ob.es.set (lo + c) r.1⟩))
 fixG (cs : List AV) (c : Nat) (r : AV × Hp) : AV × Hp := (.agg (cs.set c r.1), r.2)
 fixQ (fz : Bool) (nm sz : Nat) (p : List Nat) (o i c0 c : Nat) (x : Option Ob) (H : Hp) : AV × Hp := match x with
  | some ob => fixR o i c0 c ob (fixV fz nm sz p ((ob.es.getD i .junk).cells.getD (c0 + c) .junk) H)
  | none => (.ptr o i c0, H)
 fixR (o i c0 c : Nat) (ob : Ob) (r : AV × Hp) : AV × Hp := (.ptr o i c0, upd r.2 o (some ⟨ob.box, ob.sz, ob.es.set i (put1 (ob.es.getD i .junk) (c0 + c) r.1)⟩))
def fixA (fz : Bool) : Nat -> List (Nat × List Nat × Nat) -> List AV × Hp -> List AV × Hp
 | _, [], x => x
 | j, (i, p, sz) :: r, x => fixA fz (j + 1) r (fixS i x.1 (fixV fz (70000 + j) sz p (fixI i x.1) x.2))
where
 fixI (i : Nat) (vals : List AV) : AV := if i < 1000 then vals.getD i .junk else .ptr (99000 + i) 0 0
 fixS (i : Nat) (vals : List AV) (r : AV × Hp) : List AV × Hp := (vals.set i r.1, r.2)
def nmS : Nat -> List Nat -> List Nat -> List (Nat × Nat)
 | _, _, [] => []
 | b, ps, o :: l => if ps.contains o then (o, o) :: nmS b ps l else (o, b) :: nmS (b + 1) ps l
theorem nmS_spec {ps l : List Nat} : ∀ {b o : Nat}, o ∈ l -> (ps.contains o = true /\ tau (nmS b ps l) o = o) \/ (ps.contains o = false /\ b ≤ tau (nmS b ps l) o /\ tau (nmS b ps l) o < b + l.length) := by
 induction l with
 | nil => intro b o h; cases h
 | cons x l ih =>
  intro b o h
  simp only [nmS]
  by_cases hx : ps.contains x = true
  ·rw [if_pos hx]
   simp only [tau]
   by_cases e : o = x
   ·subst e; exact .inl ⟨hx, by simp⟩
   ·rcases List.mem_cons.1 h with rfl | h
    ·exact absurd rfl e
    rw [if_neg e]
    rcases ih (b := b) h with h1 | ⟨h1, h2, h3⟩
    ·exact .inl h1
    ·exact .inr ⟨h1, h2, by simp only [List.length_cons]; omega⟩
  ·rw [if_neg hx]
   simp only [tau]
   by_cases e : o = x
   ·subst e; exact .inr ⟨by simpa using hx, by simp, by simp⟩
   ·rcases List.mem_cons.1 h with rfl | h
    ·exact absurd rfl e
    rw [if_neg e]
    rcases ih (b := b + 1) h with h1 | ⟨h1, h2, h3⟩
    ·exact .inl h1
    ·exact .inr ⟨h1, by omega, by simp only [List.length_cons]; omega⟩
theorem nmS_inj {ps l : List Nat} : ∀ {b o o' : Nat}, (∀ p ∈ ps, p < b \/ b + l.length ≤ p) -> o ∈ l -> o' ∈ l -> tau (nmS b ps l) o = tau (nmS b ps l) o' -> o = o' := by
 induction l with
 | nil => intro b o o' _ h; cases h
 | cons x l ih =>
  intro b o o' hb h h' he
  simp only [nmS] at he
  by_cases hx : ps.contains x = true
  ·rw [if_pos hx] at he
   simp only [tau] at he
   have hb' : ∀ p ∈ ps, p < b \/ b + l.length ≤ p := fun p hp => by have := hb p hp; simp only [List.length_cons] at this; omega
   have key : ∀ q, q ∈ l -> q ≠ x -> tau (nmS b ps l) q ≠ x := fun q hq hqx e => by
    rcases nmS_spec (ps := ps) (b := b) hq with ⟨_, h2⟩ | ⟨_, h2, h3⟩
    ·exact hqx (h2.symm.trans e)
    ·have := hb x (by simpa using hx); simp only [List.length_cons] at this; omega
   by_cases e : o = x <;> by_cases e' : o' = x
   ·rw [e, e']
   ·rcases List.mem_cons.1 h' with h' | h'
    ·exact absurd h' e'
    rw [if_pos e, if_neg e'] at he
    exact absurd he.symm (key o' h' e')
   ·rcases List.mem_cons.1 h with h | h
    ·exact absurd h e
    rw [if_neg e, if_pos e'] at he
    exact absurd he (key o h e)
   ·rcases List.mem_cons.1 h with h | h
    ·exact absurd h e
    rcases List.mem_cons.1 h' with h' | h'
    ·exact absurd h' e'
    rw [if_neg e, if_neg e'] at he
    exact ih hb' h h' he
  ·rw [if_neg hx] at he
   simp only [tau] at he
   have hb' : ∀ p ∈ ps, p < b + 1 \/ b + 1 + l.length ≤ p := fun p hp => by have := hb p hp; simp only [List.length_cons] at this; omega
   have key : ∀ q, q ∈ l -> tau (nmS (b + 1) ps l) q ≠ b := fun q hq e => by
    rcases nmS_spec (ps := ps) (b := b + 1) hq with ⟨h1, h2⟩ | ⟨_, h2, h3⟩
    ·have := hb q (by simpa using h1); simp only [List.length_cons] at this; omega
    ·omega
   by_cases e : o = x <;> by_cases e' : o' = x
   ·rw [e, e']
   ·rcases List.mem_cons.1 h' with h' | h'
    ·exact absurd h' e'
    rw [if_pos e, if_neg e'] at he
    exact absurd he.symm (key o' h')
   ·rcases List.mem_cons.1 h with h | h
    ·exact absurd h e
    rw [if_neg e, if_pos e'] at he
    exact absurd he (key o h)
   ·rcases List.mem_cons.1 h with h | h
    ·exact absurd h e
    rcases List.mem_cons.1 h' with h' | h'
    ·exact absurd h' e'
    rw [if_neg e, if_neg e'] at he
    exact ih hb' h h' he
def obs0 (H : Hp) : List Nat -> HL
 | [] => []
 | o :: l => match H o with
  | some ob => (o, ob) :: obs0 H l
  | none => obs0 H l
theorem obs0_mem {H : Hp} {l : List Nat} {p : Nat × Ob} : p ∈ obs0 H l ↔ p.1 ∈ l /\ H p.1 = some p.2 := by
 induction l with
 | nil => simp [obs0]
 | cons o l ih =>
  obtain ⟨q, ob⟩ := p
  simp only [obs0]
  split
  ·rename_i ob' hob
   simp only [List.mem_cons, Prod.mk.injEq, ih]
   constructor
   ·rintro (⟨rfl, rfl⟩ | ⟨h1, h2⟩)
    ·exact ⟨.inl rfl, hob⟩
    ·exact ⟨.inr h1, h2⟩
   ·rintro ⟨rfl | h1, h2⟩
    ·rw [hob] at h2; cases h2; exact .inl ⟨rfl, rfl⟩
    ·exact .inr ⟨h1, h2⟩
  ·rename_i hob
   simp only [ih, List.mem_cons]
   constructor
   ·rintro ⟨h1, h2⟩; exact ⟨.inr h1, h2⟩
   ·rintro ⟨rfl | h1, h2⟩
    ·rw [hob] at h2; cases h2
    ·exact ⟨h1, h2⟩
theorem dom_obs0 {H : Hp} {l : List Nat} (h : ∀ o ∈ l, ∃ ob, H o = some ob) : dom (obs0 H l) = l := by
 induction l with
 | nil => rfl
 | cons o l ih =>
  obtain ⟨ob, hob⟩ := h o (by simp)
  simp only [obs0, hob, dom, List.map_cons]
  have := ih fun p hp => h p (by simp [hp])
  simp only [dom] at this
  rw [this]
theorem obsOf_obs0 {H : Hp} {τ : List (Nat × Nat)} {l : List Nat} : obsOf H τ l = (obs0 H l).map fun q => (tau τ q.1, renOb (tau τ) q.2) := by
 induction l with
 | nil => rfl
 | cons o l ih =>
  simp only [obsOf, obs0]
  cases H o with
  | some ob => simp only [ih, List.map_cons]
  | none => exact ih
def heapX (H : Hp) (l' : HL) : HL -> Prop
 | [] => True
 | (o, ob) :: l => obX l' o (H o) ob /\ heapX H l' l
where
 obX (l' : HL) (o : Nat) (x : Option Ob) (ob : Ob) : Prop := match x with
  | some ob0 => ob0.box = ob.box /\ ob0.sz = ob.sz /\ le.les l' ob0.es ob.es
  | none => ob.box = false /\ ob.es = [] /\ o < 100000
theorem heapX_W {H : Hp} {l' : HL} (hp : ∀ o x, cx.pin o = some x -> 100000 ≤ o) : ∀ {l : HL}, heapX H l' l -> heapW cx H l' l
 | [], _ => trivial
 | (o, ob) :: l, h => by
  refine ⟨?_, heapX_W hp h.2⟩
  have := h.1
  unfold heapX.obX at this
  cases hH : H o with
  | some ob0 => rw [hH] at this; exact this
  | none =>
   rw [hH] at this
   refine ⟨this.1, this.2.1, ?_⟩
   cases hx : cx.pin o with
   | none => rfl
   | some x => have := hp o x hx; omega
def en : Nat -> List AV -> List (Tmp × AV)
 | _, [] => []
 | i, x :: l => (i, x) :: en (i + 1) l
theorem en_env : ∀ {l : List AV} {i t : Nat}, env (en i l) (i + t) = l.getD t .junk
 | [], i, t => by simp [en, env]
 | x :: l, i, 0 => by simp [en, env]
 | x :: l, i, t + 1 => by
  have := en_env (l := l) (i := i + 1) (t := t)
  simp only [en, env]
  have hne : ¬ ((i + (t + 1) : Nat) = i) := by omega
  have he : (i + (t + 1) : Nat) = i + 1 + t := by omega
  rw [if_neg hne, he, this]
  simp
theorem en_env0 {l : List AV} {t : Nat} : env (en 0 l) t = l.getD t .junk := by
 have := en_env (l := l) (i := 0) (t := t)
 rwa [Nat.zero_add] at this
theorem en_mem : ∀ {l : List AV} {i : Nat} {p : Tmp × AV}, p ∈ en i l -> ∃ t, p.1 = i + t /\ l[t]? = some p.2
 | [], _, _, h => by cases h
 | x :: l, i, p, h => by
  rcases List.mem_cons.1 h with rfl | h
  ·exact ⟨0, rfl, rfl⟩
  ·obtain ⟨t, h1, h2⟩ := en_mem h
   exact ⟨t + 1, by rw [h1, Nat.add_assoc, Nat.add_comm 1 t], by simpa using h2⟩
theorem en_map {f : AV -> AV} : ∀ {l : List AV} {i : Nat}, (en i l).map (fun p => (p.1, f p.2)) = en i (l.map f)
 | [], _ => rfl
 | x :: l, i => by simp only [en, List.map_cons, en_map]
theorem les_envC {l : HL} {ρ : Nat -> AV} : ∀ {a b : List AV} {i : Nat}, (∀ t x, a[t]? = some x -> ρ (i + t) = x) -> le.les l a b -> envC l ρ (en i b)
 | [], [], _, _, _ => trivial
 | x :: a, y :: b, i, hρ, h => by
  refine ⟨?_, les_envC (a := a) (fun t z hz => ?_) h.2⟩
  ·have := hρ 0 x rfl
   rw [Nat.add_zero] at this
   rw [this]
   exact h.1
  ·have := hρ (t + 1) z (by simpa using hz)
   rw [<- this, Nat.add_assoc, Nat.add_comm 1 t]
 | [], _ :: _, _, _, h => h.elim
 | _ :: _, [], _, _, h => h.elim
def ltPs (H : Hp) : List Nat -> List Nat
 | [] => []
 | p :: l => match H p with
  | some _ => p :: ltPs H l
  | none => ltPs H l
def canR (base : Nat) (fx : Bool) (ps : List Nat) (v1 : List AV) (H1 : Hp) (φ : Prop) (v2 : List AV) (H2 : Hp) (x : Option (List Nat)) : Option ((List AV × HL) × Prop) :=
 match x with
 | some seen => some ((v2.map (ren (tau (nmS base ps seen))), obsOf H2 (nmS base ps seen) seen), φ /\ seen.length < 1000 /\ (if fx = true then le.les (obs0 H2 seen) v1 v2 /\ heapX H1 (obs0 H2 seen) (obs0 H2 seen) else True))
 | none => none
def canF (base : Nat) (fx : Bool) (ps : List Nat) (v1 : List AV) (H1 : Hp) (φ : Prop) (y : List AV × Hp) : Option ((List AV × HL) × Prop) :=
 canR base fx ps v1 H1 φ y.1 y.2 (reach 500 y.2 (AV.rl.rls y.1 ++ ltPs y.2 ps) [])
def canM (fz : Bool) (base : Nat) (fixes : List (Nat × List Nat × Nat)) (ps : List Nat) (x : Option ((List AV × Hp) × Prop)) : Option ((List AV × HL) × Prop) :=
 match x with
 | some ((v1, H1), φ) => canF base (!fixes.isEmpty) ps v1 H1 φ (fixA fz 0 fixes (v1, H1))
 | none => none
def rowsN (H : Hp) (ps : List Nat) : List Nat -> List Nat
 | [] => []
 | o :: l => match H o with
  | some ob => if ob.box || ps.contains o then rowsN H ps l else o :: rowsN H ps l
  | none => rowsN H ps l
def kidsN (H : Hp) : List Nat -> List Nat
 | [] => []
 | o :: l => match H o with
  | some ob => if ob.box then kidsN H l else ob.rl ++ kidsN H l
  | none => kidsN H l
def frzW (mode : Nat) (ps : List Nat) (vals : List AV) (H : Hp) : List Nat :=
 match mode with
 | 0 => []
 | 1 => rowsN H ps ((reach 500 H (AV.rl.rls vals) []).getD []).reverse
 | _ => rowsN H ps ((reach 500 H (kidsN H ((reach 500 H (AV.rl.rls vals) []).getD [])) []).getD []).reverse
def canV0 (base mode : Nat) (fixes : List (Nat × List Nat × Nat)) (ps : List Nat) (vals : List AV) (H : Hp) : Option ((List AV × HL) × Prop) :=
 canM (decide (mode = 1)) base fixes ps (frzM (frzW mode ps vals H) vals H)
theorem canV0_sound (hcx : CxOk cx) {base mode : Nat} {fixes : List (Nat × List Nat × Nat)} {ps : List Nat} {vals vals' : List AV} {H : Hp} {l' : HL} {φ : Prop} (h : canV0 base mode fixes ps vals H = some ((vals', l'), φ)) (hφ : φ)
  (hps : ∀ p ∈ ps, p < base \/ base + 1000 ≤ p) (hpin : ∀ o, base ≤ o -> o < base + 1000 -> cx.pin o = none) (R : RelK cx κ ⟨fun t => vals.getD t .junk, H⟩ a w) :
  (∃ κ', RelK cx κ' ⟨fun t => vals'.getD t .junk, hp l'⟩ a w) /\ (dom l').Nodup /\ closedL l' = true /\ vals'.all (·.refs (dom l').contains) = true /\ vals'.length = vals.length /\ ∀ o ∈ dom l', o ∈ ps \/ (base ≤ o /\ o < base + 1000) := by
 unfold canV0 at h
 cases hm : frzM (frzW mode ps vals H) vals H with
 | none => rw [hm] at h; cases h
 | some x =>
  obtain ⟨⟨v1, H1⟩, φ1⟩ := x
  rw [hm] at h
  simp only [canM, canF] at h
  cases hr : reach 500 (fixA (decide (mode = 1)) 0 fixes (v1, H1)).2 (AV.rl.rls (fixA (decide (mode = 1)) 0 fixes (v1, H1)).1 ++ ltPs (fixA (decide (mode = 1)) 0 fixes (v1, H1)).2 ps) [] with
  | none => rw [hr] at h; cases h
  | some seen =>
   rw [hr] at h
   simp only [canR] at h
   cases h
   obtain ⟨hφ1, hlen, hfx⟩ := hφ
   obtain ⟨κ1, R1, hl1⟩ := frzM_sound hcx hm hφ1 R
   obtain ⟨hn, hroot, _, hcl⟩ := reach_spec hr (by simp) (by simp)
   have hex : ∀ o ∈ seen, ∃ ob, (fixA (decide (mode = 1)) 0 fixes (v1, H1)).2 o = some ob := fun o ho => by obtain ⟨ob, h, _⟩ := hcl o ho; exact ⟨ob, h⟩
   have hfix0 : fixes = [] -> fixA (decide (mode = 1)) 0 fixes (v1, H1) = (v1, H1) := fun e => by subst e; rfl
   generalize hy : fixA (decide (mode = 1)) 0 fixes (v1, H1) = y at *
   obtain ⟨v2, H2⟩ := y
   simp only at hroot hcl hex hfx ⊢
   have hd0 : dom (obs0 H2 seen) = seen := dom_obs0 hex
   have hrefs : ∀ x ∈ v2, x.refs (dom (obs0 H2 seen)).contains = true := fun x hx => (refs_rl x).2 fun o ho => by
    rw [hd0]; exact List.contains_iff_mem.2 (hroot o (List.mem_append.2 (.inl (rls_mem.2 ⟨x, hx, ho⟩))))
   have hclo : closedL (obs0 H2 seen) = true := by
    unfold closedL
    rw [List.all_eq_true]
    intro p hp
    obtain ⟨h1, h2⟩ := obs0_mem.1 hp
    rw [Ob.refs_rl]
    intro q hq
    obtain ⟨ob', h3, h4⟩ := hcl _ h1
    rw [h2] at h3
    cases h3
    rw [hd0]
    exact List.contains_iff_mem.2 (h4 q hq)
   have hinj : ∀ o ∈ seen, ∀ o' ∈ seen, tau (nmS base ps seen) o = tau (nmS base ps seen) o' -> o = o' := fun o ho o' ho' he =>
    nmS_inj (fun p hp => by have := hps p hp; omega) ho ho' he
   have hnd : ((dom (obs0 H2 seen)).map (tau (nmS base ps seen))).Nodup := by
    rw [hd0]; exact nodup_map_of hn hinj
   have hdl : dom (obsOf H2 (nmS base ps seen) seen) = seen.map (tau (nmS base ps seen)) := dom_obsOf hex
   have hlv : v2.length = v1.length := by
    cases hfe : fixes with
    | nil =>
     have := hfix0 hfe
     cases this
     rfl
    | cons q r =>
     rw [hfe] at hfx
     simp only [List.isEmpty_cons, Bool.not_false, if_true] at hfx
     exact (les_iff hfx.1).1.symm
   -- the looser state
   have R2 : ∃ κ2, RelK cx κ2 (St.mk' (en 0 v2) (obs0 H2 seen)) a w \/ (fixes = [] /\ RelK cx κ2 ⟨fun t => v2.getD t .junk, H2⟩ a w) := by
    cases hfe : fixes with
    | nil =>
     have := hfix0 hfe
     cases this
     exact ⟨κ1, .inr ⟨rfl, R1⟩⟩
    | cons q r =>
     rw [hfe] at hfx
     simp only [List.isEmpty_cons, Bool.not_false, if_true] at hfx
     obtain ⟨κ2, R2⟩ := Weak.le (cx := cx) (s := ⟨fun t => v1.getD t .junk, H1⟩) hcx.pureG (en 0 v2) (obs0 H2 seen) ⟨les_envC (a := v1) (fun t x hx => by
      show v1.getD (0 + t) .junk = x
      rw [Nat.zero_add, List.getD_eq_getElem?_getD, hx]; rfl) hfx.1, heapX_W R1.pinlo hfx.2, List.all_eq_true.2 fun p hp => by
       obtain ⟨t, _, h2⟩ := en_mem hp
       exact hrefs _ (List.mem_of_getElem? h2), hclo⟩ a w ⟨κ1, R1⟩
     exact ⟨κ2, .inl R2⟩
   have hmove : ∀ s0 : St, (∀ p ∈ en 0 v2, s0.ρ p.1 = p.2) -> (∀ p ∈ obs0 H2 seen, s0.H p.1 = some p.2) -> ∀ κ2, RelK cx κ2 s0 a w -> ∃ κ', RelK cx κ' ⟨fun t => (v2.map (ren (tau (nmS base ps seen)))).getD t .junk, hp (obsOf H2 (nmS base ps seen) seen)⟩ a w := fun s0 he hl κ2 R2 => by
    obtain ⟨κ', R'⟩ := Weak.move (cx := cx) (s := s0) hcx.pureG (nmS base ps seen) (en 0 v2) (obs0 H2 seen) he hl hnd (fun o ho => by
     rw [hd0] at ho
     rcases nmS_spec (ps := ps) (b := base) ho with ⟨_, h2⟩ | ⟨_, h2, h3⟩
     ·exact .inl h2
     ·exact .inr (hpin _ h2 (by omega))) (List.all_eq_true.2 fun p hp => by
       obtain ⟨t, _, h2⟩ := en_mem hp
       exact hrefs _ (List.mem_of_getElem? h2)) hclo a w ⟨κ2, R2⟩
    refine ⟨κ', ?_⟩
    rw [en_map, <- obsOf_obs0] at R'
    have e : St.mk' (en 0 (v2.map (ren (tau (nmS base ps seen))))) (obsOf H2 (nmS base ps seen) seen) = ⟨fun t => (v2.map (ren (tau (nmS base ps seen)))).getD t .junk, hp (obsOf H2 (nmS base ps seen) seen)⟩ := by
     unfold St.mk'
     congr 1
     funext t
     exact en_env0
    rwa [e] at R'
   refine ⟨?_, ?_, ?_, ?_, ?_, ?_⟩
   ·obtain ⟨κ2, R2 | ⟨hfe, R2⟩⟩ := R2
    ·refine hmove _ (fun p hp => ?_) (fun p hp => ?_) κ2 R2
     ·obtain ⟨t, h1, h2⟩ := en_mem hp
      show env (en 0 v2) p.1 = p.2
      rw [en_env0, h1, Nat.zero_add, List.getD_eq_getElem?_getD, h2]; rfl
     ·exact hp_of_mem (by rw [hd0]; exact hn) hp
    ·refine hmove _ (fun p hp => ?_) (fun p hp => (obs0_mem.1 hp).2) κ2 R2
     obtain ⟨t, h1, h2⟩ := en_mem hp
     show v2.getD p.1 .junk = p.2
     rw [h1, Nat.zero_add, List.getD_eq_getElem?_getD, h2]; rfl
   ·rw [hdl]; exact nodup_map_of hn hinj
   ·unfold closedL
    rw [List.all_eq_true]
    intro p hp
    obtain ⟨o, ho, ob, h1, rfl⟩ := obsOf_mem.1 hp
    rw [Ob.refs_rl, rl_renOb]
    intro q0 hq0
    obtain ⟨q, hq, rfl⟩ := List.mem_map.1 hq0
    obtain ⟨ob', h2, h3⟩ := hcl o ho
    rw [h1] at h2
    cases h2
    rw [hdl]
    exact List.contains_iff_mem.2 (List.mem_map.2 ⟨q, h3 q hq, rfl⟩)
   ·rw [List.all_eq_true]
    intro x hx
    obtain ⟨y, hy, rfl⟩ := List.mem_map.1 hx
    rw [refs_rl, rl_ren]
    intro q0 hq0
    obtain ⟨q, hq, rfl⟩ := List.mem_map.1 hq0
    rw [hdl]
    exact List.contains_iff_mem.2 (List.mem_map.2 ⟨q, hroot q (List.mem_append.2 (.inl (rls_mem.2 ⟨y, hy, hq⟩))), rfl⟩)
   ·rw [List.length_map, hlv, hl1]
   ·intro o ho
    rw [hdl] at ho
    obtain ⟨q, hq, rfl⟩ := List.mem_map.1 ho
    rcases nmS_spec (ps := ps) (b := base) hq with ⟨h1, h2⟩ | ⟨_, h2, h3⟩
    ·rw [h2]; exact .inl (by simpa using h1)
    ·exact .inr ⟨h2, by omega⟩
theorem canV0_form {base mode : Nat} {fixes : List (Nat × List Nat × Nat)} {ps : List Nat} {vals vals' : List AV} {H : Hp} {l' : HL} {φ : Prop} (h : canV0 base mode fixes ps vals H = some ((vals', l'), φ)) (hφ : φ)
  (hps : ∀ p ∈ ps, p < base \/ base + 1000 ≤ p) : (dom l').Nodup /\ closedL l' = true /\ vals'.all (·.refs (dom l').contains) = true /\ ∀ o ∈ dom l', o ∈ ps \/ (base ≤ o /\ o < base + 1000) := by
 unfold canV0 at h
 cases hm : frzM (frzW mode ps vals H) vals H with
 | none => rw [hm] at h; cases h
 | some x =>
  obtain ⟨⟨v1, H1⟩, φ1⟩ := x
  rw [hm] at h
  simp only [canM, canF] at h
  generalize fixA (decide (mode = 1)) 0 fixes (v1, H1) = y at h
  obtain ⟨v2, H2⟩ := y
  simp only at h
  cases hr : reach 500 H2 (AV.rl.rls v2 ++ ltPs H2 ps) [] with
  | none => rw [hr] at h; cases h
  | some seen =>
   rw [hr] at h
   simp only [canR] at h
   cases h
   obtain ⟨_, hlen, _⟩ := hφ
   obtain ⟨hn, hroot, _, hcl⟩ := reach_spec hr (by simp) (by simp)
   have hex : ∀ o ∈ seen, ∃ ob, H2 o = some ob := fun o ho => by obtain ⟨ob, h, _⟩ := hcl o ho; exact ⟨ob, h⟩
   have hinj : ∀ o ∈ seen, ∀ o' ∈ seen, tau (nmS base ps seen) o = tau (nmS base ps seen) o' -> o = o' := fun o ho o' ho' he =>
    nmS_inj (fun p hp => by have := hps p hp; omega) ho ho' he
   have hdl : dom (obsOf H2 (nmS base ps seen) seen) = seen.map (tau (nmS base ps seen)) := dom_obsOf hex
   refine ⟨by rw [hdl]; exact nodup_map_of hn hinj, ?_, ?_, ?_⟩
   ·unfold closedL
    rw [List.all_eq_true]
    intro p hp
    obtain ⟨o, ho, ob, h1, rfl⟩ := obsOf_mem.1 hp
    rw [Ob.refs_rl, rl_renOb]
    intro q0 hq0
    obtain ⟨q, hq, rfl⟩ := List.mem_map.1 hq0
    obtain ⟨ob', h2, h3⟩ := hcl o ho
    rw [h1] at h2
    cases h2
    rw [hdl]
    exact List.contains_iff_mem.2 (List.mem_map.2 ⟨q, h3 q hq, rfl⟩)
   ·rw [List.all_eq_true]
    intro x hx
    obtain ⟨y, hy, rfl⟩ := List.mem_map.1 hx
    rw [refs_rl, rl_ren]
    intro q0 hq0
    obtain ⟨q, hq, rfl⟩ := List.mem_map.1 hq0
    rw [hdl]
    exact List.contains_iff_mem.2 (List.mem_map.2 ⟨q, hroot q (List.mem_append.2 (.inl (rls_mem.2 ⟨y, hy, hq⟩))), rfl⟩)
   ·intro o ho
    rw [hdl] at ho
    obtain ⟨q, hq, rfl⟩ := List.mem_map.1 ho
    rcases nmS_spec (ps := ps) (b := base) hq with ⟨h1, h2⟩ | ⟨_, h2, h3⟩
    ·rw [h2]; exact .inl (by simpa using h1)
    ·exact .inr ⟨h2, by omega⟩
def canY (φ : Prop) : Option ((List AV × HL) × Prop) -> Option ((List AV × HL) × Prop)
 | some (r, ψ) => some (r, φ /\ ψ)
 | none => none
def canZ (base mode : Nat) (ps : List Nat) (vals : List AV) (H : Hp) (v2 : List AV) (H2 : Hp) (x : Option (List Nat)) : Option ((List AV × HL) × Prop) := match x with
 | some seen => canY (le.les (obs0 H2 seen) vals v2 /\ heapX H (obs0 H2 seen) (obs0 H2 seen)) (canV0 base mode [] ps v2 (hp (obs0 H2 seen)))
 | none => none
def canU (base mode : Nat) (ps : List Nat) (vals : List AV) (H : Hp) (y : List AV × Hp) : Option ((List AV × HL) × Prop) :=
 canZ base mode ps vals H y.1 y.2 (reach 500 y.2 (AV.rl.rls y.1 ++ ltPs y.2 ps) [])
def canS (base mode : Nat) (fixes : List (Nat × List Nat × Nat)) (ps : List Nat) (vals : List AV) (H : Hp) : Bool -> Option ((List AV × HL) × Prop)
 | true => canV0 base mode [] ps vals H
 | false => canU base mode ps vals H (fixA (decide (mode = 1)) 0 fixes (vals, H))
def canV (base mode : Nat) (fixes : List (Nat × List Nat × Nat)) (ps : List Nat) (vals : List AV) (H : Hp) : Option ((List AV × HL) × Prop) :=
 canS base mode fixes ps vals H fixes.isEmpty
theorem canV_sound (hcx : CxOk cx) {base mode : Nat} {fixes : List (Nat × List Nat × Nat)} {ps : List Nat} {vals vals' : List AV} {H : Hp} {l' : HL} {φ : Prop} (h : canV base mode fixes ps vals H = some ((vals', l'), φ)) (hφ : φ)
  (hps : ∀ p ∈ ps, p < base \/ base + 1000 ≤ p) (hpin : ∀ o, base ≤ o -> o < base + 1000 -> cx.pin o = none) (R : RelK cx κ ⟨fun t => vals.getD t .junk, H⟩ a w) :
  (∃ κ', RelK cx κ' ⟨fun t => vals'.getD t .junk, hp l'⟩ a w) /\ (dom l').Nodup /\ closedL l' = true /\ vals'.all (·.refs (dom l').contains) = true /\ vals'.length = vals.length /\ ∀ o ∈ dom l', o ∈ ps \/ (base ≤ o /\ o < base + 1000) := by
 unfold canV at h
 cases hfe : fixes.isEmpty with
 | true => rw [hfe] at h; exact canV0_sound hcx h hφ hps hpin R
 | false =>
  rw [hfe] at h
  simp only [canS, canU] at h
  generalize fixA (decide (mode = 1)) 0 fixes (vals, H) = y at h
  obtain ⟨v2, H2⟩ := y
  simp only at h
  cases hr : reach 500 H2 (AV.rl.rls v2 ++ ltPs H2 ps) [] with
  | none => rw [hr] at h; cases h
  | some seen =>
   rw [hr] at h
   simp only [canZ] at h
   cases hc : canV0 base mode [] ps v2 (hp (obs0 H2 seen)) with
   | none => rw [hc] at h; cases h
   | some r =>
    obtain ⟨⟨v3, l3⟩, ψ⟩ := r
    rw [hc] at h
    simp only [canY] at h
    cases h
    obtain ⟨⟨hle, hhx⟩, hψ⟩ := hφ
    obtain ⟨hn, hroot, _, hcl⟩ := reach_spec hr (by simp) (by simp)
    have hex : ∀ o ∈ seen, ∃ ob, H2 o = some ob := fun o ho => by obtain ⟨ob, h, _⟩ := hcl o ho; exact ⟨ob, h⟩
    have hd0 : dom (obs0 H2 seen) = seen := dom_obs0 hex
    have hrefs : ∀ x ∈ v2, x.refs (dom (obs0 H2 seen)).contains = true := fun x hx => (refs_rl x).2 fun o ho => by
     rw [hd0]; exact List.contains_iff_mem.2 (hroot o (List.mem_append.2 (.inl (rls_mem.2 ⟨x, hx, ho⟩))))
    have hclo : closedL (obs0 H2 seen) = true := by
     unfold closedL
     rw [List.all_eq_true]
     intro p hp
     obtain ⟨h1, h2⟩ := obs0_mem.1 hp
     rw [Ob.refs_rl]
     intro q hq
     obtain ⟨ob', h3, h4⟩ := hcl _ h1
     rw [h2] at h3
     cases h3
     rw [hd0]
     exact List.contains_iff_mem.2 (h4 q hq)
    obtain ⟨κ2, R2⟩ := Weak.le (cx := cx) (s := ⟨fun t => vals.getD t .junk, H⟩) hcx.pureG (en 0 v2) (obs0 H2 seen) ⟨les_envC (a := vals) (fun t x hx => by
     show vals.getD (0 + t) .junk = x
     rw [Nat.zero_add, List.getD_eq_getElem?_getD, hx]; rfl) hle, heapX_W R.pinlo hhx, List.all_eq_true.2 fun p hp => by
      obtain ⟨t, _, h2⟩ := en_mem hp
      exact hrefs _ (List.mem_of_getElem? h2), hclo⟩ a w ⟨κ, R⟩
    have e : St.mk' (en 0 v2) (obs0 H2 seen) = ⟨fun t => v2.getD t .junk, hp (obs0 H2 seen)⟩ := by
     unfold St.mk'
     congr 1
     funext t
     exact en_env0
    rw [e] at R2
    obtain ⟨k1, k2, k3, k4, k5, k6⟩ := canV0_sound hcx hc hψ hps hpin R2
    exact ⟨k1, k2, k3, k4, by rw [k5]; exact (les_iff hle).1.symm, k6⟩
theorem canV_form {base mode : Nat} {fixes : List (Nat × List Nat × Nat)} {ps : List Nat} {vals vals' : List AV} {H : Hp} {l' : HL} {φ : Prop} (h : canV base mode fixes ps vals H = some ((vals', l'), φ)) (hφ : φ)
  (hps : ∀ p ∈ ps, p < base \/ base + 1000 ≤ p) : (dom l').Nodup /\ closedL l' = true /\ vals'.all (·.refs (dom l').contains) = true /\ ∀ o ∈ dom l', o ∈ ps \/ (base ≤ o /\ o < base + 1000) := by
 unfold canV at h
 cases hfe : fixes.isEmpty with
 | true => rw [hfe] at h; exact canV0_form h hφ hps
 | false =>
  rw [hfe] at h
  simp only [canS, canU] at h
  generalize fixA (decide (mode = 1)) 0 fixes (vals, H) = y at h
  obtain ⟨v2, H2⟩ := y
  simp only at h
  cases hr : reach 500 H2 (AV.rl.rls v2 ++ ltPs H2 ps) [] with
  | none => rw [hr] at h; cases h
  | some seen =>
   rw [hr] at h
   simp only [canZ] at h
   cases hc : canV0 base mode [] ps v2 (hp (obs0 H2 seen)) with
   | none => rw [hc] at h; cases h
   | some r =>
    obtain ⟨⟨v3, l3⟩, ψ⟩ := r
    rw [hc] at h
    simp only [canY] at h
    cases h
    exact canV0_form hc hφ.2 hps
end Go.Aw

/- Ranges over functions: what an iterator promises, what the rounds do. Own work. -/
namespace Go.Aw
open Go
theorem zip_env {keep : List Tmp} : ∀ {vals : List AV} {t : Tmp}, env (keep.zip vals) t = .junk \/ ∃ i : Nat, keep[i]? = some t /\ vals[i]? = some (env (keep.zip vals) t) := by
 induction keep with
 | nil => intro vals t; exact .inl rfl
 | cons u keep ih =>
  intro vals t
  cases vals with
  | nil => exact .inl rfl
  | cons x vals =>
   simp only [List.zip_cons_cons, env]
   by_cases h : t = u
   ·rw [if_pos h]; exact .inr ⟨0, by simp [h], by simp⟩
   ·rw [if_neg h]
    rcases ih (vals := vals) (t := t) with h | ⟨i, h1, h2⟩
    ·exact .inl h
    ·exact .inr ⟨i + 1, by simpa using h1, by simpa using h2⟩
theorem RI.cellsW {im : Nat -> Prop} {w w' : World} (hw : ∀ a v, w.cell? a = some v -> w'.cell? a = some v) {x : AV} {v : Value} (h : RI im w x v) : RI im w' x v := by
 induction h with
 | int k n => exact .int k n
 | bool b => exact .bool b
 | str s => exact .str s
 | nilp => exact .nilp
 | nilf => exact .nilf
 | nili => exact .nili
 | nilm => exact .nilm
 | ro sz es A cap b off vs hA hcap hz hc hr ih => exact .ro sz es A cap b off vs hA hcap hz (fun i e j x hi hj => hw _ _ (hc i e j x hi hj)) ih
theorem RV.cellsW {κ : Kz} {H : Hp} {w w' : World} (hw : ∀ a v, w.cell? a = some v -> w'.cell? a = some v) {x : AV} {v : Value} (h : RV κ H w x v) : RV κ H w' x v := by
 induction h with
 | junk v => exact .junk v
 | imm h => exact .imm (h.cellsW hw)
 | ptr o i c ob b base n hH hμ hlt => exact .ptr o i c ob b base n hH hμ hlt
 | rop e c b off vs hb hc hr => exact .rop e c b off vs hb (fun j x hj => hw _ _ (hc j x hj)) (fun j x hj => (hr j x hj).cellsW hw)
 | nilsl => exact .nilsl
 | sl o lo len ob A cap hH hbox hlen hcap hA => exact .sl o lo len ob A cap hH hbox hlen hcap hA
 | asl o i c len esz ob A cap b base n hH hμ hlt hlen hcap hA => exact .asl o i c len esz ob A cap b base n hH hμ hlt hlen hcap hA
 | agg cs vs hl h h1 ih => exact .agg cs vs hl ih h1
 | tup cs vs hl h ih => exact .tup cs vs hl ih
 | fn f first cap as bs hl hl' h h' ih ih' => exact .fn f first cap as bs hl hl' ih ih'
 | gd b x v h hf ih => exact .gd b x v ih hf
 | ifc t x v h ih => exact .ifc t x v ih
 | mp o c ob b hH hμ => exact .mp o c ob b hH hμ
theorem cell_putObj {w : World} {D : Nat} {o o' : Obj} (h : w.heap[D]? = some o) (hn : noCells o = true) (a : Addr) (v : Value) (hv : w.cell? a = some v) : (w.putObj D o').cell? a = some v := by
 by_cases e : a.block = D
 ·exfalso
  unfold World.cell? at hv
  rw [e, h] at hv
  cases o <;> first | (cases hn; done) | (simp at hv; done)
 ·rw [<- hv]
  exact heap_cell (World.putObj_heap_other e)
theorem RelK.turn {cx : Cx} {κ : Kz} {s : St} {a : Act} {w : World} (R : RelK cx κ s a w) {D : Nat} {o o' : Obj} (h : w.heap[D]? = some o) (hn : noCells o = true) (hm : cx.w0.heap.size ≤ D) {ds : List Deferred} (hds : Dfr cx.w0.heap.size (w.putObj D o') ds) :
  RelK cx κ s { a with defers := ds } (w.putObj D o') := by
 have hm2 : ∀ {x : AV} {v : Value}, RV κ s.H w x v -> RV κ s.H (w.putObj D o') x v := fun h2 => h2.cellsW (cell_putObj h hn)
 refine ⟨fun p ob hp => ?_, R.inj, fun t => hm2 (R.env t), R.size, ⟨hds, R.defers.2⟩, R.os, R.tape, R.output, by rw [World.putObj_size]; exact R.le, fun b hb hM => ?_, R.own, R.im0, fun b hb => by rw [World.putObj_size]; exact R.imlt b hb, R.imnew, R.pin, R.pinlo, fun g => hm2 (R.glob g)⟩
 ·obtain ⟨h0, hr⟩ := R.rep p ob hp
  refine ⟨h0, ?_⟩
  rcases hr with hr | ⟨b, base, cs, el, e1, e2, e3, e4, e5⟩ | hr
  ·exact .inl hr
  case inr.inr =>
   refine .inr (.inr (hr.same rfl (fun _ _ h => h) (fun x hx => World.putObj_heap_other fun e => ?_) hm2))
   have := (R.noD hp hx).2 o (by rw [e]; exact h)
   rw [hn] at this
   cases this
  ·refine .inr (.inl ⟨b, base, cs, el, e1, e2, ?_, e4, fun i e j x hi hj => ?_⟩)
   ·rw [World.putObj_heap_other]
    ·exact e3
    ·rintro rfl
     rw [h] at e3
     cases e3
     cases hn
   ·obtain ⟨v, g1, g2, g3⟩ := e5 i e j x hi hj
    exact ⟨v, g1, hm2 g2, g3⟩
 ·rw [World.putObj_heap_other (by omega)]
  exact R.block b hb hM
theorem leavesD {cx : Cx} {κ : Kz} {s : St} {P : Program} {fn : Func} {R : Ending -> World -> Prop} : ∀ (ds : List Deferred) (a : Act) (w : World), a.defers = ds -> RelK cx κ s a w ->
  (∀ a' w', RelK cx κ s a' w' -> a'.tmps = a.tmps -> ∃ v, (results fn a'.tmps).run P w' = .ok v w' /\ R (.returned v) w') -> LeavesInM Fence.wide 0 P fn a.tmps R ds .returning w
 | [], a, w, _, hR, h => h a w hR rfl
 | d :: ds, a, w, hd, hR, h => by
  have hdf := hR.defers.1
  rw [hd] at hdf
  obtain ⟨⟨D, rfl, h2, h3, h4⟩, h5⟩ := hdf
  have hds : Dfr cx.w0.heap.size (w.putObj D (.deferred none)) ds := by
   clear hd
   induction ds with
   | nil => trivial
   | cons d2 ds ih =>
    obtain ⟨⟨D2, rfl, k2, k3, k4⟩, k5⟩ := h5
    refine ⟨⟨D2, rfl, k2, ?_, k4⟩, ih k5 (fun d hd => h4 d (by simp [hd]))⟩
    rw [World.putObj_heap_other]
    ·exact k3
    ·rintro rfl
     exact h4 _ (by simp) rfl
  refine ⟨by simp, .inl ⟨D, w.putObj D (.deferred none), rfl, run_takeDeferred h3, ?_⟩⟩
  exact leavesD ds { a with defers := ds } _ rfl (hR.turn h3 rfl h2 hds) fun a' w' hR' ht => h a' w' hR' ht
def SeqOk (P : Program) (k : FuncId) (cap xs : List AV) : Prop :=
 (∀ as w, (callFunc k as).run P w = .ok (.enter k as) w) /\
 ∀ (w0 : World) (im : Nat -> Prop) (lb : Array Value), (∀ b, im b -> b < w0.heap.size) -> lb.size = cap.length -> (∀ (i : Nat) (x : AV) (v : Value), cap[i]? = some x -> lb[i]? = some v -> RV ⟨noμ, im⟩ noH w0 x v) ->
  ∃ vss : List (Array Value), vss.length = xs.length /\ (∀ (i : Nat) (x : AV) (vs : Array Value), xs[i]? = some x -> vss[i]? = some vs -> RV ⟨noμ, im⟩ noH w0 x (.tuple vs)) /\
   ∀ (l : Nat) (J : Nat -> World -> Prop) (Jx : World -> Prop) (W : World),
    (∀ i W, J i W -> ∀ b, im b -> W.heap[b]? = w0.heap[b]?) ->
    (∀ i W W', J i W -> W.heap.size ≤ W'.heap.size -> (∀ b, b < W.heap.size -> W'.heap[b]? = W.heap[b]?) -> W'.os = W.os -> W'.tape = W.tape -> W'.output = W.output -> J i W') ->
    (∀ W W', Jx W -> W.heap.size ≤ W'.heap.size -> (∀ b, b < W.heap.size -> W'.heap[b]? = W.heap[b]?) -> W'.os = W.os -> W'.tape = W.tape -> W'.output = W.output -> Jx W') ->
    (∀ (i : Nat) (vs : Array Value) (W : World), vss[i]? = some vs -> J i W -> YieldAt Fence.wide 0 P l vs W fun e W' => (e = .returned (.bool true) /\ J (i + 1) W') \/ (e = .returned (.bool false) /\ Jx W')) ->
    J 0 W -> Calls P k (#[.func (.yield l) #[] #[]] ++ lb) W fun e W' => (∃ v, e = .returned v) /\ (J vss.length W' \/ Jx W')
def InRd (P : Program) (G : Nat -> AV) (n : Nat) (keep : List Tmp) (cx : Cx) : Prop := cx.P = P /\ cx.G = G /\ cx.n = n /\ cx.rd.isSome = true /\ cx.fzl = keep /\ CxOk cx
def RW (P : Program) (G : Nat -> AV) (n : Nat) (keep ps : List Tmp) (a b : Code) (fin : Exit × List AV × HL) : List AV -> List AV -> HL -> Prop
 | [], vals, l => fin = (.normal, vals, l)
 | x :: rest, vals, l => ∃ xs, x = .tup xs /\ xs.length = ps.length /\ ∀ cx, InRd P G n keep cx -> AW cx a (fun e s => e = .normal /\
   ∀ cx', InRd P G n keep cx' -> AW cx' b (fun e s => (e = .normal /\ ∃ vals1 l1, Weak cx' s (St.mk' (keep.zip vals1) l1) /\ RW P G n keep ps a b fin rest vals1 l1) \/
    (e = fin.1 /\ (e = .ret \/ ∃ id, e = .exit id) /\ Weak cx' s (St.mk' (keep.zip fin.2.1) fin.2.2))) s) (St.mk' (ps.zip xs ++ keep.zip vals) l)
def Reb (cx : Cx) (κ : Kz) (H : Hp) (w : World) (rd : Option Nat) (keep : List Tmp) (a0 : Array Value) : Cx :=
 {cx with w0 := w, M := fun b => ∃ o ob x, H o = some ob /\ κ.μ o = some x /\ x.1 = b, im0 := κ.im, rd, fzl := keep, a0 }
section
variable {cx : Cx} {κ : Kz} {s : St} {a : Act} {w : World}
theorem Reb.inn (R : RelK cx κ s a w) (rd : Option Nat) (keep : List Tmp) : RelK (Reb cx κ s.H w rd keep a.tmps) κ s { a with defers := [] } w where
 rep := R.rep
 inj := R.inj
 env := R.env
 size := R.size
 defers := ⟨trivial, fun _ _ => rfl⟩
 os := rfl
 tape := rfl
 output := rfl
 le := Nat.le_refl _
 block := fun _ _ _ => rfl
 own := fun o ob x h hx => .inl ⟨o, ob, x, h, hx, rfl⟩
 im0 := fun _ h => h
 imlt := R.imlt
 imnew := fun _ h => .inl h
 pin := R.pin
 pinlo := R.pinlo
 glob := R.glob
theorem RelK.back {a1 : Act} {vals : List AV} {keep : List Tmp} {H : Hp} (R : RelK cx κ ⟨Aw.env (keep.zip vals), H⟩ a w) (hk : cx.fzl = keep) (h0 : a1.tmps = cx.a0) (hsz : a1.tmps.size = cx.n) (hd : Dfr cx.w0.heap.size w a1.defers) : RelK cx κ ⟨Aw.env (keep.zip vals), H⟩ a1 w where
 rep := R.rep
 inj := R.inj
 env := fun t => by
  rcases zip_env (keep := keep) (vals := vals) (t := t) with h | ⟨i, h1, h2⟩
  ·show RV κ H w (Aw.env (keep.zip vals) t) _
   rw [h]; exact .junk _
  ·have := R.env t
   rw [R.defers.2 t (by rw [hk]; exact List.contains_iff_mem.2 (List.mem_of_getElem? h1)), <- h0] at this
   exact this
 size := hsz
 defers := ⟨hd, fun t _ => by rw [h0]⟩
 os := R.os
 tape := R.tape
 output := R.output
 le := R.le
 block := R.block
 own := R.own
 im0 := R.im0
 imlt := R.imlt
 imnew := R.imnew
 pin := R.pin
 pinlo := R.pinlo
 glob := R.glob
theorem RelK.turn0 (R : RelK cx κ s a w) {D : Nat} {o o' : Obj} (h : w.heap[D]? = some o) (hn : noCells o = true) (hnd : ∀ ds, o ≠ .deferred ds) (hlt : D < cx.w0.heap.size) :
  RelK { cx with w0 := cx.w0.putObj D o' } κ s a (w.putObj D o') := by
 have hm2 : ∀ {x : AV} {v : Value}, RV κ s.H w x v -> RV κ s.H (w.putObj D o') x v := fun h2 => h2.cellsW (cell_putObj h hn)
 have hlt2 : D < w.heap.size := (Array.getElem?_eq_some_iff.1 h).1
 refine ⟨fun p ob hp => ?_, R.inj, fun t => hm2 (R.env t), R.size, ⟨?_, R.defers.2⟩, R.os, R.tape, R.output, by simp only [World.putObj_size]; exact R.le, fun b hb hM => ?_, fun o ob x h1 h2 => ?_, R.im0, fun b hb => by rw [World.putObj_size]; exact R.imlt b hb, fun b hb => ?_, R.pin, R.pinlo, fun g => hm2 (R.glob g)⟩
 ·obtain ⟨h0, hr⟩ := R.rep p ob hp
  refine ⟨h0, ?_⟩
  rcases hr with hr | ⟨b, base, cs, el, e1, e2, e3, e4, e5⟩ | hr
  ·exact .inl hr
  case inr.inr =>
   refine .inr (.inr (hr.same rfl (fun _ _ h => h) (fun x hx => World.putObj_heap_other fun e => ?_) hm2))
   have := (R.noD hp hx).2 o (by rw [e]; exact h)
   rw [hn] at this
   cases this
  ·refine .inr (.inl ⟨b, base, cs, el, e1, e2, ?_, e4, fun i e j x hi hj => ?_⟩)
   ·rw [World.putObj_heap_other]
    ·exact e3
    ·rintro rfl
     rw [h] at e3
     cases e3
     cases hn
   ·obtain ⟨v, g1, g2, g3⟩ := e5 i e j x hi hj
    exact ⟨v, g1, hm2 g2, g3⟩
 ·show Dfr (cx.w0.putObj D o').heap.size _ _
  rw [World.putObj_size]
  refine R.defers.1.mono fun D2 _ h2 => ?_
  rw [World.putObj_heap_other]
  ·exact h2
  ·rintro rfl
   rw [h] at h2
   exact hnd _ (Option.some.inj h2)
 ·have hb' : b < cx.w0.heap.size := by simpa using hb
  show (w.putObj D o').heap[b]? = (cx.w0.putObj D o').heap[b]?
  by_cases e : b = D
  ·subst e
   rw [World.putObj_heap_same hlt2, World.putObj_heap_same hlt]
  ·rw [World.putObj_heap_other e, World.putObj_heap_other e]
   exact R.block b hb' hM
 ·show cx.M x.1 \/ (cx.w0.putObj D o').heap.size ≤ x.1
  rw [World.putObj_size]
  exact R.own o ob x h1 h2
 ·show cx.im0 b \/ cx.M b \/ (cx.w0.putObj D o').heap.size ≤ b
  rw [World.putObj_size]
  exact R.imnew b hb
theorem Reb.out {κ1 : Kz} {s1 : St} {a1 a' a2 : Act} {w1 W W0 : World} {rd : Option Nat} {keep : List Tmp} {vals : List AV} {H : Hp} (R1 : RelK cx κ1 s1 a1 w1)
  (R : RelK { Reb cx κ1 s1.H w1 rd keep a1.tmps with w0 := W0 } κ ⟨Aw.env (keep.zip vals), H⟩ a' W) (hsz : W0.heap.size = w1.heap.size) (hb0 : ∀ b, b < cx.w0.heap.size -> W0.heap[b]? = w1.heap[b]?) (ho : W0.os = w1.os /\ W0.tape = w1.tape /\ W0.output = w1.output)
  (ht : a2.tmps = a1.tmps) (hd : Dfr cx.w0.heap.size W a2.defers) : RelK cx κ ⟨Aw.env (keep.zip vals), H⟩ a2 W where
 rep := R.rep
 inj := R.inj
 env := fun t => by
  rcases zip_env (keep := keep) (vals := vals) (t := t) with h | ⟨i, h1, h2⟩
  ·show RV κ H W (Aw.env (keep.zip vals) t) _
   rw [h]; exact .junk _
  ·have := R.env t
   rw [R.defers.2 t (show keep.contains t = true from List.contains_iff_mem.2 (List.mem_of_getElem? h1))] at this
   rw [ht]
   exact this
 size := by rw [ht]; exact R1.size
 defers := ⟨hd, fun t h => by rw [ht]; exact R1.defers.2 t h⟩
 os := R.os.trans (ho.1.trans R1.os)
 tape := R.tape.trans (ho.2.1.trans R1.tape)
 output := R.output.trans (ho.2.2.trans R1.output)
 le := Nat.le_trans R1.le (by rw [<- hsz]; exact R.le)
 block := fun b hb hM => by
  rw [R.block b (by show b < W0.heap.size; rw [hsz]; exact Nat.lt_of_lt_of_le hb R1.le) ?_]
  ·show W0.heap[b]? = _
   rw [hb0 b hb]
   exact R1.block b hb hM
  ·rintro ⟨o, ob, x, h1, h2, rfl⟩
   rcases R1.own o ob x h1 h2 with h | h
   ·exact hM h
   ·omega
 own := fun o ob x h hx => by
  rcases R.own o ob x h hx with ⟨o2, ob2, x2, h1, h2, h3⟩ | h
  ·rw [<- h3]; exact R1.own o2 ob2 x2 h1 h2
  ·refine .inr (Nat.le_trans R1.le ?_)
   rw [<- hsz]; exact h
 im0 := fun b h => R.im0 b (R1.im0 b h)
 imlt := R.imlt
 imnew := fun b h => by
  rcases R.imnew b h with h | ⟨o2, ob2, x2, h1, h2, h3⟩ | h
  ·exact R1.imnew b h
  ·rw [<- h3]; exact .inr (R1.own o2 ob2 x2 h1 h2)
  ·refine .inr (.inr (Nat.le_trans R1.le ?_))
   rw [<- hsz]; exact h
 pin := R.pin
 pinlo := R.pinlo
 glob := R.glob
theorem zip_cons_env {ps : List Tmp} {xs : List AV} {p : Tmp} {x : AV} {base : List (Tmp × AV)} (h : p ∉ ps) : env (ps.zip xs ++ (p, x) :: base) = env ((p, x) :: (ps.zip xs ++ base)) := by
 funext t
 induction ps generalizing xs with
 | nil => rfl
 | cons q ps ih =>
  cases xs with
  | nil => rfl
  | cons y xs =>
   have hpq : p ≠ q := fun e => h (by simp [e])
   simp only [List.zip_cons_cons, List.cons_append, env]
   have := ih (xs := xs) (fun e => h (by simp [e]))
   simp only [env] at this
   rw [this]
   by_cases h1 : t = q
   ·subst h1
    rw [if_pos rfl, if_neg (Ne.symm hpq), if_pos rfl]
   ·rw [if_neg h1, if_neg h1]
theorem RelK.puts : ∀ {ps : List Tmp} {xs : List AV} {vs : List Value} {base : List (Tmp × AV)} {H : Hp} {t0 : Array Value} {ds : List Deferred}, ps.Nodup -> xs.length = ps.length -> vs.length = ps.length -> (∀ (i : Nat) (x : AV) (v : Value), xs[i]? = some x -> vs[i]? = some v -> RV κ H w x v) -> (∀ p ∈ ps, cx.ok p) ->
  RelK cx κ ⟨Aw.env base, H⟩ ⟨t0, ds⟩ w -> RelK cx κ ⟨Aw.env (ps.zip xs ++ base), H⟩ ⟨(ps.zip vs).foldl (fun t (p, v) => t.setIfInBounds p v) t0, ds⟩ w
 | [], _, _, _, _, _, _, _, _, _, _, _, R => R
 | p :: ps, [], _, _, _, _, _, _, h, _, _, _, _ => by cases h
 | p :: ps, _ :: _, [], _, _, _, _, _, _, h, _, _, _ => by cases h
 | p :: ps, x :: xs, v :: vs, base, H, t0, ds, hn, h1, h2, h3, h4, R => by
  have hn' := List.nodup_cons.1 hn
  have R1 := RelK.put (x := x) (v := v) R p (h4 p (by simp)) (h3 0 x v rfl rfl)
  have R2 : RelK cx κ ⟨Aw.env ((p, x) :: base), H⟩ ⟨t0.setIfInBounds p v, ds⟩ w := R1
  have := RelK.puts hn'.2 (by simpa using h1) (by simpa using h2) (fun i x v hx hv => h3 (i + 1) x v (by simpa using hx) (by simpa using hv)) (fun q hq => h4 q (by simp [hq])) R2
  rw [zip_cons_env hn'.1] at this
  exact this
theorem putObj_back {w : World} {D : Nat} {o o' : Obj} (h : w.heap[D]? = some o') : (w.putObj D o).putObj D o' = w := by
 unfold World.putObj
 congr 1
 apply Array.ext_getElem?
 intro i
 rw [Array.getElem?_setIfInBounds]
 by_cases e : D = i
 ·subst e
  have hlt := (Array.getElem?_eq_some_iff.1 h).1
  simp [hlt]
  exact (Array.getElem?_eq_some_iff.1 h).2.symm
 ·rw [if_neg e, Array.getElem?_setIfInBounds_ne e]
theorem putObj_putObj {w : World} {D : Nat} {o o' : Obj} : (w.putObj D o).putObj D o' = w.putObj D o' := by
 unfold World.putObj
 congr 1
 simp
theorem Dfr.lt {m : Nat} : ∀ {ds : List Deferred}, Dfr m w ds -> ∀ d ∈ ds, ∃ D, d = { target := .collected D, args := #[] } /\ D < w.heap.size
 | [], _, _, h => by cases h
 | d0 :: ds, ⟨⟨D, h1, h2, h3, h4⟩, h5⟩, d, h => by
  rcases List.mem_cons.1 h with rfl | h
  ·exact ⟨D, h1, (Array.getElem?_eq_some_iff.1 h3).1⟩
  ·exact h5.lt d h
end
end Go.Aw

/- A range over a function. Own work. -/
namespace Go.Aw
open Go
theorem noM {cx : Cx} {κ : Kz} {s : St} {a : Act} {w : World} (R : RelK cx κ s a w) {b : Nat} {o : Obj} (h : w.heap[b]? = some o) (hn : noCells o = true) : ∀ p ob x, s.H p = some ob -> κ.μ p = some x -> x.1 ≠ b := fun p ob x h1 h2 e => by
 have := (R.noD h1 h2).2 o (by rw [e]; exact h)
 rw [hn] at this
 cases this
set_option maxHeartbeats 1000000 in
theorem range_wp {cx : Cx} {κ0 : Kz} {s0 : St} {a : Act} {w : World} (hC : CxOk cx) (R0 : RelK cx κ0 s0 a w) (hrd : cx.rd = none) {g : Operand} {ps : Array Tmp} {asg body : Code} {keep : List Tmp} {vals : List AV} {l : HL} {q : FuncId} {lb : Array Value} {cap xs : List AV} {fin : Exit × List AV × HL} {Q : Exit -> St -> Prop}
  (hg : a.eval g = .func (.func q) #[] lb) (hlb : lb.size = cap.length) (hcap : ∀ (i : Nat) (x : AV) (v : Value), cap[i]? = some x -> lb[i]? = some v -> RV ⟨noμ, κ0.im⟩ noH w x v) (hseq : SeqOk cx.P q cap xs)
  (hps : ∀ p ∈ ps.toList, p < cx.n /\ keep.contains p = false) (hnd : ps.toList.Nodup) (hW : ∀ cx', cx'.P = cx.P -> cx'.G = cx.G -> cx'.n = cx.n -> CxOk cx' -> Weak cx' s0 (St.mk' (keep.zip vals) l))
  (hRW : RW cx.P cx.G cx.n keep ps.toList asg body fin xs vals l) (hQ : Q fin.1 (St.mk' (keep.zip fin.2.1) fin.2.2)) :
  (Code.rangeFunc g ps asg body).wpIn (FR cx.rd) 0 cx.P (fun e a' w' => ∃ s', Q e s' /\ Rel cx s' a' w') a w := by
 rw [hrd]
 show (Code.rangeFunc g ps asg body).wpIn Fence.wide 0 cx.P _ a w
 refine wpIn_rangeFunc fun fn _ => ?_
 obtain ⟨rec, hrec⟩ : ∃ rec : LoopState -> Option Code -> Loop, rec = fun st pe => { state := st, pending := pe, fn, tmps := a.tmps, params := ps, assign := asg, body, defers := w.heap.size } := ⟨_, rfl⟩
 obtain ⟨W1, hW1⟩ : ∃ W1, (w.alloc (.deferred (some []))).alloc (.loop (rec .ready none)) = W1 := ⟨_, rfl⟩
 obtain ⟨l0, hl0⟩ : ∃ l0, l0 = w.heap.size + 1 := ⟨_, rfl⟩
 have hold : ∀ b, b < w.heap.size -> W1.heap[b]? = w.heap[b]? := fun b hb => by
  rw [<- hW1]
  simp only [World.alloc, Array.getElem?_push, Array.size_push]
  rw [if_neg (by omega), if_neg (by omega)]
 have hsz1 : W1.heap.size = w.heap.size + 2 := by rw [<- hW1, World.size_alloc, World.size_alloc]
 have hL1 : W1.heap[l0]? = some (.loop (rec .ready none)) := by
  rw [<- hW1, hl0]; have := World.alloc_heap_new (w.alloc (.deferred (some []))) (.loop (rec .ready none)); rwa [World.size_alloc] at this
 have hK1 : W1.heap[w.heap.size]? = some (.deferred (some [])) := by
  rw [<- hW1]
  simp only [World.alloc, Array.getElem?_push, Array.size_push]
  rw [if_neg (by omega)]
  simp
 have R1 : RelK cx κ0 s0 a W1 := R0.called (im' := κ0.im) (fun _ h => h) (fun _ h => .inl h) (fun b hb => by have := R0.imlt b hb; omega) (by rw [<- hW1]; rfl) (by rw [<- hW1]; rfl) (by rw [<- hW1]; rfl) (by omega) hold
 obtain ⟨cxA, hcxA⟩ : ∃ cxA, cxA = Reb cx κ0 s0.H W1 (some l0) keep a.tmps := ⟨_, rfl⟩
 have RA0 : RelK cxA κ0 s0 { a with defers := [] } W1 := by rw [hcxA]; exact Reb.inn R1 (some l0) keep
 have hCA : ∀ W0, CxOk { cxA with w0 := W0 } := fun W0 => by rw [hcxA]; exact ⟨hC.glob, hC.pureG⟩
 have hIn : ∀ W0, InRd cx.P cx.G cx.n keep { cxA with w0 := W0 } := fun W0 => by rw [hcxA]; exact ⟨rfl, rfl, rfl, rfl, rfl, hC.glob, hC.pureG⟩
 have hWA : ∀ W0, Weak { cxA with w0 := W0 } s0 (St.mk' (keep.zip vals) l) := fun W0 => hW _ (by rw [hcxA]; rfl) (by rw [hcxA]; rfl) (by rw [hcxA]; rfl) (hCA W0)
 have eA : { cxA with w0 := W1 } = cxA := by rw [hcxA]; rfl
 obtain ⟨κ1, RA1⟩ : Rel cxA (St.mk' (keep.zip vals) l) { a with defers := [] } W1 := by
  have := hWA W1
  rw [eA] at this
  exact this _ _ ⟨κ0, RA0⟩
 have hMl : ¬ cxA.M l0 := by
  rw [hcxA]
  rintro ⟨o, ob, x, h1, h2, h3⟩
  exact noM R1 hL1 rfl o ob x h1 h2 h3
 have hMd : ¬ cxA.M w.heap.size := by
  rw [hcxA]
  rintro ⟨o, ob, x, h1, h2, h3⟩
  exact noM R1 hK1 rfl o ob x h1 h2 h3
 have hMf : ∀ D : Nat, w.heap[D]? = some (.deferred (some [])) -> ¬ cxA.M D := fun D hD => by
  rw [hcxA]
  rintro ⟨o, ob, x, h1, h2, h3⟩
  exact noM R0 hD rfl o ob x h1 h2 h3
 have hMi : ∀ b, κ0.im b -> ¬ cxA.M b := fun b hb => by
  rw [hcxA]
  rintro ⟨o, ob, x, h1, h2, rfl⟩
  obtain ⟨_, h⟩ := R0.rep o ob h1
  rcases h with ⟨h, _⟩ | ⟨b, base, cs, el, e1, e2, e3, _⟩ | h
  ·rw [h] at h2; cases h2
  ·rw [e1] at h2; cases h2; exact e2 hb
  ·obtain ⟨_, _, _, _, _, e2⟩ := h.lies h2
   exact e2 hb
 have ew0 : cxA.w0 = W1 := by rw [hcxA]; rfl
 have ea0 : cxA.a0 = a.tmps := by rw [hcxA]; rfl
 have efz : cxA.fzl = keep := by rw [hcxA]; rfl
 have en : cxA.n = cx.n := by rw [hcxA]; rfl
 have eP : cxA.P = cx.P := by rw [hcxA]; rfl
 have eim : cxA.im0 = κ0.im := by rw [hcxA]; rfl
 have erd : cxA.rd = some l0 := by rw [hcxA]; rfl
 have hlt1 : l0 < W1.heap.size := by omega
 have look : ∀ {κ : Kz} {s : St} {a' : Act} {W W0 : World}, RelK { cxA with w0 := W0 } κ s a' W -> W0.heap.size = W1.heap.size -> ∀ b, b < W1.heap.size -> ¬ cxA.M b -> W.heap[b]? = W0.heap[b]? := fun R hs b hb hM => R.block b (by show b < _; rw [hs]; exact hb) hM
 obtain ⟨vss, hvl, hvv, hcall⟩ := hseq.2 W1 κ0.im lb R1.imlt hlb fun i x v hx hv => RV.mono (κ := ⟨noμ, κ0.im⟩) (κ' := ⟨noμ, κ0.im⟩) (H := noH) (H' := noH) (fun _ h => h) (fun b hb => hold b (R0.imlt b hb)) (fun o ob h => by cases h) (hcap i x v hx hv)
 refine ⟨l0, [{ target := .collected w.heap.size, args := #[] }], W1, { target := .fn (.func q) lb, args := #[.func (.yield l0) #[] #[]] }, W1, q, #[.func (.yield l0) #[] #[]] ++ lb, W1, ?_, ?_, fun _ _ => trivial, ?_, fun h => by simp [Fence.wide] at h, ?_⟩
 ·rw [<- hW1, hrec, hl0]; exact run_enterLoop_outer _ _ _ _ _
 ·simp only [resolve, hg]
  simp [go_sem]
 ·simp [invoke, go_sem, hseq.1]
 have main := hcall l0
  (fun i W => ∃ κ vals l, RelK cxA κ (St.mk' (keep.zip vals) l) { a with defers := [] } W /\ RW cx.P cx.G cx.n keep ps.toList asg body fin (xs.drop i) vals l)
  (fun W => ∃ c κ, (c = .ret /\ fin.1 = .ret \/ ∃ id, c = .exit id /\ fin.1 = .exit id) /\ RelK { cxA with w0 := W1.putObj l0 (.loop (rec .done (some c))) } κ (St.mk' (keep.zip fin.2.1) fin.2.2) { a with defers := [] } W)
  W1 (fun i W ⟨κ, vals, l, R, _⟩ b hb => ?_) (fun i W W' ⟨κ, vals, l, R, h⟩ h1 h2 h3 h4 h5 => ⟨κ, vals, l, ?_, h⟩) (fun W W' ⟨c, κ, hc, R⟩ h1 h2 h3 h4 h5 => ⟨c, κ, hc, ?_⟩) (fun i vs W hvs ⟨κ, vals, l, R, hrw⟩ => ?_) ⟨κ1, vals, l, RA1, by simpa using hRW⟩
 ·refine (CallsIn.mono (callsIn_wide.2 main) fun e W ⟨⟨v, hv⟩, hJ⟩ => ?_)
  subst hv
  -- behind the iterator
  have fin2 : ∀ (κ : Kz) (W : World) (o : Obj) (st : LoopState) (pe : Option Code), o = .loop (rec st pe) -> RelK { cxA with w0 := W1.putObj l0 o } κ (St.mk' (keep.zip fin.2.1) fin.2.2) { a with defers := [] } W ->
    W.heap[l0]? = some (.loop (rec st pe)) /\ RelK cx κ (St.mk' (keep.zip fin.2.1) fin.2.2) { a with defers := [{ target := .collected w.heap.size, args := #[] }] ++ a.defers } (W.putObj l0 (.loop { rec st pe with state := .exhausted })) := fun κ W o st pe ho R => by
   have hb : W.heap[l0]? = some (.loop (rec st pe)) := by
    rw [look R (by simp) l0 hlt1 hMl, World.putObj_heap_same hlt1, ho]
   have R3 := RelK.turn0 (o' := .loop { rec st pe with state := .exhausted }) R hb rfl (fun ds h => by cases h) (by show l0 < (W1.putObj l0 o).heap.size; simpa using hlt1)
   have e3 : (({ cxA with w0 := W1.putObj l0 o } : Cx).w0.putObj l0 (.loop { rec st pe with state := .exhausted })) = W1.putObj l0 (.loop { rec st pe with state := .exhausted }) := putObj_putObj
   rw [e3] at R3
   refine ⟨hb, ?_⟩
   refine Reb.out (W0 := W1.putObj l0 (.loop { rec st pe with state := .exhausted })) (rd := some l0) (keep := keep) R1 (by rw [<- hcxA]; exact R3) (by simp) (fun b hb => ?_) ⟨rfl, rfl, rfl⟩ rfl ?_
   ·have := R0.le
    exact World.putObj_heap_other (by omega)
   ·have hk : ∀ D : Nat, D < w.heap.size + 1 -> ¬ cxA.M D -> (W.putObj l0 (.loop { rec st pe with state := .exhausted })).heap[D]? = W1.heap[D]? := fun D hD hM => by
     rw [World.putObj_heap_other (by omega), look R (by simp) D (by omega) hM, World.putObj_heap_other (by omega)]
    refine ⟨⟨w.heap.size, rfl, R0.le, ?_, fun d' hd' e => ?_⟩, R0.defers.1.mono fun D _ hD => ?_⟩
    ·rw [hk _ (by omega) hMd]; exact hK1
    ·obtain ⟨D, hD, hlt⟩ := R0.defers.1.lt d' hd'
     rw [hD] at e
     simp only [Deferred.mk.injEq, Target.collected.injEq, and_true] at e
     omega
    ·have hlt := (Array.getElem?_eq_some_iff.1 hD).1
     rw [hk D (by omega) (hMf D hD), hold D hlt]
     exact hD
  rcases hJ with ⟨κ, vals', l', R, hrw⟩ | ⟨c, κ, hc, R⟩
  ·rw [hvl, List.drop_length] at hrw
   have hrw : fin = (.normal, vals', l') := hrw
   obtain ⟨hb, R4⟩ := fin2 κ W _ .ready none rfl (by
    have : W1.putObj l0 (.loop (rec .ready none)) = W1 := by
     have := putObj_back (o := .loop (rec .ready none)) hL1
     rw [putObj_putObj] at this
     exact this
    rw [this, eA, hrw]
    exact R)
   refine ⟨none, W.putObj l0 (.loop { rec .ready none with state := .exhausted }), by have := run_endLoop (P := cx.P) hb (by rw [hrec]; simp); rw [hrec] at this ⊢; exact this, ?_⟩
   rw [hrw] at R4 hQ
   exact ⟨_, hQ, κ, R4⟩
  ·obtain ⟨hb, R4⟩ := fin2 κ W _ .done (some c) rfl R
   refine ⟨some c, W.putObj l0 (.loop { rec .done (some c) with state := .exhausted }), by have := run_endLoop (P := cx.P) hb (by rw [hrec]; simp); rw [hrec] at this ⊢; exact this, ?_⟩
   rcases hc with ⟨rfl, hf⟩ | ⟨id, rfl, hf⟩
   ·rw [hf] at hQ
    exact wpIn_ret ⟨_, hQ, κ, R4⟩
   ·rw [hf] at hQ
    exact wpIn_exit ⟨_, hQ, κ, R4⟩
 ·rw [<- eA] at R
  rw [look R rfl b (R1.imlt b hb) (hMi b hb)]
 ·exact R.called (im' := κ.im) (fun _ h => h) (fun _ h => .inl h) (fun b hb => Nat.lt_of_lt_of_le (R.imlt b hb) h1) h3 h4 h5 h1 h2
 ·exact R.called (im' := κ.im) (fun _ h => h) (fun _ h => .inl h) (fun b hb => Nat.lt_of_lt_of_le (R.imlt b hb) h1) h3 h4 h5 h1 h2
 ·-- one round
  have hi : i < vss.length := (List.getElem?_eq_some_iff.1 hvs).1
  have hx : xs[i]? = some xs[i] := List.getElem?_eq_getElem (by omega)
  have hdrop : xs.drop i = xs[i] :: xs.drop (i + 1) := List.drop_eq_getElem_cons (by omega)
  rw [hdrop] at hrw
  obtain ⟨ys, hxe, hyl, hAW⟩ := hrw
  have hv := hvv i _ vs hx hvs
  have hv : RV ⟨noμ, κ0.im⟩ noH W1 (.tup ys) (.tuple vs) := hxe ▸ hv
  have hR1 := R
  rw [<- eA] at hR1
  have hready : W.heap[l0]? = some (.loop (rec .ready none)) := by rw [look hR1 rfl l0 hlt1 hMl]; exact hL1
  obtain ⟨hvsz, hcomp⟩ : vs.size = ys.length /\ ∀ (j : Nat) (x : AV) (v : Value), ys[j]? = some x -> vs[j]? = some v -> RV ⟨noμ, κ0.im⟩ noH W1 x v := by
   generalize hV : Value.tuple vs = V at hv
   cases hv with
   | imm h => cases h
   | tup _ _ hl h => cases hV; exact ⟨hl, h⟩
  have hy := run_yield (P := cx.P) (args := vs) hready (by rw [hrec]; show vs.size = ps.size; rw [hvsz, hyl]; simp)
  rw [hrec] at hy
  refine ⟨fn, _, asg, body, hy, ?_⟩
  have Rp := RelK.puts (cx := cxA) (κ := κ) (w := W) (ps := ps.toList) (xs := ys) (vs := vs.toList) (base := keep.zip vals) (H := hp l) (t0 := a.tmps) (ds := []) hnd hyl (by simpa [hvsz] using hyl) (fun j x v hx hv => by
   refine RV.mono (κ := ⟨noμ, κ0.im⟩) (κ' := κ) (H := noH) (fun b hb => R.im0 b (by rw [eim]; exact hb)) (fun b hb => ?_) (fun o ob h => by cases h) (hcomp j x v hx (by simpa using hv))
   rw [look hR1 rfl b (R1.imlt b hb) (hMi b hb)]) (fun p hp => ⟨by rw [en]; exact (hps p hp).1, by rw [efz]; exact (hps p hp).2⟩) R
  have hfold : (ps.toList.zip vs.toList).foldl (fun t (p, v) => t.setIfInBounds p v) a.tmps = (ps.zip vs).foldl (fun t (p, v) => t.setIfInBounds p v) a.tmps := by
   rw [<- Array.foldl_toList, Array.toList_zip]
  rw [hfold] at Rp
  have hA := hAW cxA (by have := hIn W1; rwa [eA] at this) _ _ ⟨κ, Rp⟩
  rw [eP, erd] at hA
  refine roundIn_of_wpIn (F := Fence.wide) trivial ?_
  refine wpIn_mono (F := FR (some l0)) hA fun e a1 W2 ⟨s2, ⟨he, hB⟩, κ2, R2⟩ => ?_
  subst he
  have hR2 := R2
  rw [<- eA] at hR2
  have hready2 : W2.heap[l0]? = some (.loop (rec .ready none)) := by rw [look hR2 rfl l0 hlt1 hMl]; exact hL1
  refine ⟨_, run_beginRound hready2 (by rw [hrec]), ?_⟩
  have R3 := RelK.turn0 (o' := .loop { rec .ready none with state := .busy }) R2 hready2 rfl (fun ds h => by cases h) (by rw [ew0]; exact hlt1)
  rw [ew0] at R3
  obtain ⟨cxB, hcxB⟩ : ∃ cxB : Cx, cxB = { cxA with w0 := W1.putObj l0 (.loop { rec .ready none with state := .busy }) } := ⟨_, rfl⟩
  have hBB := hB cxB (by rw [hcxB]; exact hIn _) _ _ ⟨κ2, by rw [hcxB]; exact R3⟩
  have eP2 : cxB.P = cx.P := by rw [hcxB]; exact eP
  have erd2 : cxB.rd = some l0 := by rw [hcxB]; exact erd
  rw [eP2, erd2] at hBB
  refine wpIn_mono (F := FR (some l0)) hBB fun e a3 W3 ⟨s3, hd, R4⟩ => ?_
  have done : ∀ (κ4 : Kz) (vals1 : List AV) (l1 : HL) (jump : Option Code), RelK { cxA with w0 := W1.putObj l0 (.loop { rec .ready none with state := .busy }) } κ4 (St.mk' (keep.zip vals1) l1) a3 W3 ->
    (Instr.endRound l0 jump).run cx.P W3 = .ok (.bool jump.isNone) (W3.putObj l0 (.loop (rec (if jump.isNone then .ready else .done) jump))) /\
    RelK { cxA with w0 := W1.putObj l0 (.loop (rec (if jump.isNone then .ready else .done) jump)) } κ4 (St.mk' (keep.zip vals1) l1) { a with defers := [] } (W3.putObj l0 (.loop (rec (if jump.isNone then .ready else .done) jump))) := fun κ4 vals1 l1 jump R5 => by
   have hb3 : W3.heap[l0]? = some (.loop { rec .ready none with state := .busy }) := by
    rw [look R5 (by simp) l0 hlt1 hMl, World.putObj_heap_same hlt1]
   have he := run_endRound (P := cx.P) jump hb3
   have R6 := RelK.back (a1 := { a with defers := [] }) R5 efz (by show a.tmps = cxA.a0; rw [ea0]) (by show a.tmps.size = cxA.n; rw [en]; exact R0.size) trivial
   have R7 := RelK.turn0 (o' := .loop (rec (if jump.isNone then .ready else .done) jump)) R6 hb3 rfl (fun ds h => by cases h) (by show l0 < (W1.putObj l0 _).heap.size; simpa using hlt1)
   have e7 : (({ cxA with w0 := W1.putObj l0 (.loop { rec .ready none with state := .busy }) } : Cx).w0.putObj l0 (.loop (rec (if jump.isNone then .ready else .done) jump))) = W1.putObj l0 (.loop (rec (if jump.isNone then .ready else .done) jump)) := putObj_putObj
   rw [e7] at R7
   refine ⟨?_, R7⟩
   rw [he, hrec]
  rcases hd with ⟨rfl, vals1, l1, hw, hrw⟩ | ⟨he1, he2, hw⟩
  ·obtain ⟨κ4, R5⟩ := hw _ _ R4
   rw [hcxB] at R5
   obtain ⟨g1, g2⟩ := done κ4 vals1 l1 none R5
   refine ⟨_, _, g1, .inl ⟨rfl, κ4, vals1, l1, ?_, hrw⟩⟩
   have : W1.putObj l0 (.loop (rec .ready none)) = W1 := by
    have := putObj_back (o := .loop (rec .ready none)) hL1
    rw [putObj_putObj] at this
    exact this
   simp only [Option.isNone_none, if_true] at g2 ⊢
   rw [this, eA] at g2
   exact g2
  ·obtain ⟨κ4, R5⟩ := hw _ _ R4
   rw [hcxB] at R5
   rcases he2 with rfl | ⟨id, rfl⟩
   ·obtain ⟨g1, g2⟩ := done κ4 _ _ (some .ret) R5
    exact ⟨_, _, g1, .inr ⟨rfl, .ret, κ4, .inl ⟨rfl, he1.symm⟩, g2⟩⟩
   ·obtain ⟨g1, g2⟩ := done κ4 _ _ (some (.exit id)) R5
    exact ⟨_, _, g1, .inr ⟨rfl, .exit id, κ4, .inr ⟨id, rfl, he1.symm⟩, g2⟩⟩
end Go.Aw

/- The interpreter. Own work. -/
namespace Go.Aw
open Go
inductive It
 | c (code : Code)
 | o (fr : Option (List Nat)) (os l : List Oper)
section
variable {R : Type}
abbrev Go' (R : Type) := It -> List Fr -> St -> Option (R × Prop)
def andP (φ : Prop) : Option (R × Prop) -> Option (R × Prop)
 | some (r, ψ) => some (r, φ /\ ψ)
 | none => none
def bothP (x y : Option (R × Prop)) : Option (R × Prop) :=
 match x with
 | some (r, φ) => match y with
  | some (r', ψ) => some (r, φ /\ ψ /\ r = r')
  | none => none
 | none => none
theorem andP_some {φ : Prop} {x : Option (R × Prop)} {r : R} {χ : Prop} (h : andP φ x = some (r, χ)) (hχ : χ) : φ /\ ∃ ψ, ψ /\ x = some (r, ψ) := by
 cases x with
 | none => cases h
 | some y => obtain ⟨r', ψ⟩ := y; cases h; exact ⟨hχ.1, ψ, hχ.2, rfl⟩
theorem bothP_some {x y : Option (R × Prop)} {r : R} {χ : Prop} (h : bothP x y = some (r, χ)) (hχ : χ) : (∃ ψ, ψ /\ x = some (r, ψ)) /\ (∃ ψ, ψ /\ y = some (r, ψ)) := by
 cases x with
 | none => cases h
 | some x =>
  obtain ⟨r1, φ⟩ := x
  cases y with
  | none => cases h
  | some y =>
   obtain ⟨r2, ψ⟩ := y
   cases h
   obtain ⟨h1, h2, h3⟩ := hχ
   subst h3
   exact ⟨⟨φ, h1, rfl⟩, ⟨ψ, h2, rfl⟩⟩
def loopsOf : Code -> List Code
 | .seq a b => loopsOf a ++ loopsOf b
 | .cond _ a b => loopsOf a ++ loopsOf b
 | .block _ c => loopsOf c
 | .scope c => loopsOf c
 | .loop c => .loop c :: loopsOf c
 | .rangeFunc g ps a b => .rangeFunc g ps a b :: (loopsOf a ++ loopsOf b)
 | _ => []
def lkey : Code -> Nat
 | .loop c => keyOf c
 | c => keyOf c
def findL (key : Nat) : List Code -> Option Code
 | [] => none
 | c :: l => if lkey c = key then some c else findL key l
structure Xe (R : Type) where
 cx : Cx
 S : Sig
 A : An
 f : FuncId
 ps : List Nat
 K : Exit -> St -> Option (R × Prop)
def gSkip (x : Xe R) (go : Go' R) (k : List Fr) (s : St) : Option (R × Prop) :=
 match k with
 | [] => x.K .normal s
 | .code y :: k' => go (.c y) k' s
 | .blk _ :: k' => go (.c .skip) k' s
def gExit (x : Xe R) (go : Go' R) (id : Nat) (s : St) (u : Option (List Fr)) : Option (R × Prop) :=
 match u with
 | some k' => go (.c .skip) k' s
 | none => x.K (.exit id) s
def gCond (go : Go' R) (a b : Code) (k : List Fr) (s : St) (v : AV) : Option (R × Prop) :=
 match v with
 | .bool v => if v = true then go (.c a) k s else go (.c b) k s
 | _ => none
def gL2 (x : Xe R) (go : Go' R) (k : List Fr) (keep : List Tmp) (φ : Prop) (r : Option ((Exit × List AV × HL) × Prop)) : Option (R × Prop) :=
 match r with
 | some ((e, vals, l), ψ) => match e with
  | .exit id => andP (φ /\ ψ) (gExit x go id (St.mk' (keep.zip vals) l) (unw id k))
  | .ret => andP (φ /\ ψ) (x.K .ret (St.mk' (keep.zip vals) l))
  | _ => none
 | none => none
def gL1 (x : Xe R) (go : Go' R) (key : Nat) (k : List Fr) (keep : List Tmp) (r : Option ((List AV × HL) × Prop)) : Option (R × Prop) :=
 match r with
 | some ((vals, l), φ) => gL2 x go k keep φ (x.S.L x.f key vals l)
 | none => none
def modeL (b : Bool) : Nat := if b = true then 2 else 0
def gLoop (x : Xe R) (go : Go' R) (key : Nat) (k : List Fr) (s : St) (r : Option (List Tmp)) : Option (R × Prop) :=
 match r with
 | some keep => gL1 x go key k keep (canV 60000 (modeL (x.A.frl x.f key)) (x.A.fix x.f key) x.ps (keep.map s.ρ) s.H)
 | none => none
def gR5 (x : Xe R) (go : Go' R) (k : List Fr) (keep : List Tmp) (φ : Prop) (r : Option ((Exit × List AV × HL) × Prop)) : Option (R × Prop) :=
 match r with
 | some ((e, vals, l), ψ) => match e with
  | .normal => andP (φ /\ ψ) (go (.c .skip) k (St.mk' (keep.zip vals) l))
  | .exit id => andP (φ /\ ψ) (gExit x go id (St.mk' (keep.zip vals) l) (unw id k))
  | .ret => andP (φ /\ ψ) (x.K .ret (St.mk' (keep.zip vals) l))
  | _ => none
 | none => none
def gR4 (x : Xe R) (go : Go' R) (key : Nat) (k : List Fr) (keep : List Tmp) (xs : List AV) (r : Option ((List AV × HL) × Prop)) : Option (R × Prop) :=
 match r with
 | some ((vals, l), φ) => gR5 x go k keep φ (x.S.L x.f key (.tup xs :: vals) l)
 | none => none
def gR3 (x : Xe R) (go : Go' R) (key : Nat) (k : List Fr) (keep : List Tmp) (s : St) (q : Option (List AV × Prop)) : Option (R × Prop) :=
 match q with
 | some (xs, φ) => andP φ (gR4 x go key k keep xs (canV 60000 (modeL (x.A.frl x.f key)) (x.A.fix x.f key) x.ps (keep.map s.ρ) s.H))
 | none => none
def gR2 (x : Xe R) (go : Go' R) (key : Nat) (k : List Fr) (keep : List Tmp) (s : St) (v : AV) : Option (R × Prop) :=
 match v with
 | .fn (.func q) [] cap => if AV.pure.pures cap = true then gR3 x go key k keep s (x.A.seq q cap) else none
 | _ => none
def gR1 (x : Xe R) (go : Go' R) (key : Nat) (k : List Fr) (keep : List Tmp) (g : Operand) (r : Option (St × Prop)) : Option (R × Prop) :=
 match r with
 | some (s, φ) => andP (φ /\ allB x.cx s.ρ [g] = true) (gR2 x go key k keep s (stripV (aev x.cx s.ρ g)))
 | none => none
def gRange (x : Xe R) (go : Go' R) (key : Nat) (k : List Fr) (g : Operand) (s : St) (r : Option (List Tmp)) : Option (R × Prop) :=
 match r with
 | some keep => gR1 x go key k keep g (frzR s (reach 500 s.H (AV.rl.rls [stripV (aev x.cx s.ρ g)]) []))
 | none => none
def gStep (go : Go' R) (fr : Option (List Nat)) (os l : List Oper) (k : List Fr) (r : Option (St × Prop)) : Option (R × Prop) :=
 match r with
 | some (s', φ) => andP φ (go (.o fr os l) k s')
 | none => none
def gNil (x : Xe R) (go : Go' R) (os l : List Oper) (k : List Fr) (o : Oper) (s : St) (neg : Bool) (m : Nat) : Option (R × Prop) :=
 andP (allB x.cx s.ρ (opnds o.op) = true) (if m = 0 then bothP (go (.o none os l) k (putv s o.dst (.bool (!neg)))) (go (.o none os l) k (putv s o.dst (.bool neg))) else go (.o none os l) k (putv s o.dst (.bool neg)))
def gPre (x : Xe R) (go : Go' R) (fr : Option (List Nat)) (os l : List Oper) (k : List Fr) (o : Oper) (s : St) (p : Option (Option (St × Prop))) : Option (R × Prop) :=
 match p with
 | none => gStep go fr os l k (stepN x.cx x.S x.A fr (os.map (·.dst)) o s)
 | some none => none
 | some (some (s1, φ)) => andP φ (gStep go fr os l k (stepN x.cx x.S x.A fr (os.map (·.dst)) o s1))
def gOp (x : Xe R) (go : Go' R) (fr : Option (List Nat)) (os l : List Oper) (k : List Fr) (o : Oper) (s : St) (q : Option (Bool × Nat)) : Option (R × Prop) :=
 match q with
 | some (neg, m) => gNil x go os l k o s neg m
 | none => gPre x go fr os l k o s (preX x.cx x.A fr o s)
def gOT (go : Go' R) (l : List Oper) (k : List Fr) (s : St) (fr : List Nat) : OT -> Option (R × Prop)
 | .prog => go (.o (some fr) l l) k s
 | .leaf is => go (.o (some fr) l (pick l is)) k s
 | .node _ _ a b => bothP (gOT go l k s fr a) (gOT go l k s fr b)
theorem gOT_leaves {go : Go' R} {l : List Oper} {k : List Fr} {s : St} {fr : List Nat} {r : R} {p : List Oper -> Prop} (hp : ∀ l' φ, go (.o (some fr) l l') k s = some (r, φ) -> φ -> p l') : ∀ {t : OT} {φ : Prop}, gOT go l k s fr t = some (r, φ) -> φ -> t.Leaves l p
 | .prog, φ, h, hφ => hp l φ h hφ
 | .leaf is, φ, h, hφ => hp _ φ h hφ
 | .node i j a b, φ, h, hφ => by
  obtain ⟨⟨ψ1, h1, h2⟩, ⟨ψ2, h3, h4⟩⟩ := bothP_some h hφ
  exact ⟨gOT_leaves hp h2 h1, gOT_leaves hp h4 h3⟩
theorem gOT_one {go : Go' R} {l : List Oper} {k : List Fr} {s : St} {fr : List Nat} {r : R} : ∀ {t : OT} {φ : Prop}, gOT go l k s fr t = some (r, φ) -> φ -> ∃ l' ψ, go (.o (some fr) l l') k s = some (r, ψ) /\ ψ
 | .prog, φ, h, hφ => ⟨l, φ, h, hφ⟩
 | .leaf is, φ, h, hφ => ⟨_, φ, h, hφ⟩
 | .node i j a b, φ, h, hφ => by
  obtain ⟨⟨ψ1, h1, h2⟩, _⟩ := bothP_some h hφ
  exact gOT_one h2 h1
def gDr (t : OT) (go : Go' R) (l : List Oper) (k : List Fr) (s : St) (d : Option (List Nat × Bool × List Tmp × List (Option Tmp))) : Option (R × Prop) :=
 match d with
 | some (fr, wm, ts, bl) => gOT go l k (blank bl s) (wX wm ts s ++ fr) t
 | none => none
def gCp (go : Go' R) (k : List Fr) (r : Option (St × Prop)) : Option (R × Prop) :=
 match r with
 | some (s', φ) => andP φ (go (.c .skip) k s')
 | none => none
def nilX (cx : Cx) (fr : Option (List Nat)) (o : Oper) (s : St) : Option (Bool × Nat) := match fr with
 | none => nilQ cx o s
 | some _ => none
def glC : Option Bool -> Bool
 | some false => true
 | _ => false
def isLd : Op -> Bool
 | .load _ _ | .indexAddr _ _ _ | .fieldAddr _ _ _ | .nilCheck _ => true
 | _ => false
def glX0 (fr : Option (List Nat)) (os : List Oper) (o : Oper) (s : St) : Bool := match fr with
 | some _ => false
 | none => match isLd o.op with
  | true => match o.guard with
   | none => false
   | some _ => glC (gcond (os.map (·.dst)) s.ρ o.guard)
  | false => false
def glX (lz : Bool) (fr : Option (List Nat)) (os : List Oper) (o : Oper) (s : St) : Bool := match lz with
 | true => false
 | false => glX0 fr os o s
theorem glX_spec {lz : Bool} {fr : Option (List Nat)} {os : List Oper} {o : Oper} {s : St} (h : glX lz fr os o s = true) : fr = none /\ o.guard.isSome = true /\ gcond (os.map (·.dst)) s.ρ o.guard = some false := by
 unfold glX at h
 split at h
 ·cases h
 unfold glX0 at h
 split at h
 ·cases h
 split at h
 ·split at h
  ·cases h
  ·rename_i g hg
   unfold glC at h
   split at h
   ·rename_i hc
    exact ⟨rfl, by rw [hg]; rfl, hc⟩
   ·cases h
 ·cases h
theorem glX_no {lz : Bool} {fr : Option (List Nat)} {os : List Oper} {o : Oper} {s : St} (h : isLd o.op = false) : glX lz fr os o s = false := by
 unfold glX
 split
 ·rfl
 unfold glX0
 split
 ·rfl
 ·rw [h]
def gLd (x : Xe R) (go : Go' R) (fr : Option (List Nat)) (os l : List Oper) (k : List Fr) (o : Oper) (s : St) (b : Bool) : Option (R × Prop) := match b with
 | true => go (.o none os l) k (putv s o.dst (.gd false (noV x.cx.P o.type)))
 | false => gOp x go fr os l k o s (nilX x.cx fr o s)
def gReg (x : Xe R) (go : Go' R) (id : Nat) (ops : Array Oper) (draw : Bool) (k : List Fr) (s : St) : Option (R × Prop) := match x.A.cp x.f id with
 | true => gCp go k (srunG (stepC x.cx (ops.toList.map (·.dst))) ops.toList s)
 | false => match draw with
  | false => go (.o none ops.toList ops.toList) k s
  | true => gDr (x.A.ord x.f id) go ops.toList k s (x.A.dr x.f id)
def gFz (f : St -> Option (R × Prop)) : Option (St × Prop) -> Option (R × Prop)
 | some (s, φ) => andP φ (f s)
 | none => none
def ex (x : Xe R) : Nat -> Go' R
 | 0, _, _, _ => none
 | n + 1, .c c, k, s => match c with
  | .skip => gSkip x (ex x n) k s
  | .label _ => ex x n (.c .skip) k s
  | .exit id => gExit x (ex x n) id s (unw id k)
  | .ret => x.K .ret s
  | .seq a b => ex x n (.c a) (.code b :: k) s
  | .block id c => ex x n (.c c) (.blk id :: k) s
  | .cond (.tmp t) a b => gCond (ex x n) a b k s (s.ρ t)
  | .scope c => ex x n (.c c) k s
  | .cond (.const (.bool v)) a b => gCond (ex x n) a b k s (.bool v)
  | .region id ops draw => gFz (gReg x (ex x n) id ops draw k) (fzT (x.A.fzr x.f id) s)
  | .loop b => gLoop x (ex x n) (keyOf b) k s (x.A.keep x.f (keyOf b))
  | .rangeFunc g ps a b => gRange x (ex x n) (keyOf (.rangeFunc g ps a b)) k g s (x.A.keep x.f (keyOf (.rangeFunc g ps a b)))
  | _ => none
 | n + 1, .o fr os l, k, s => match l with
  | [] => ex x n (.c .skip) k s
  | o :: l => gLd x (ex x n) fr os l k o s (glX (x.A.lz x.f) fr os o s)
end
def RngOk (S : Sig) (A : An) (f : FuncId) (P : Program) (G : Nat -> AV) (n : Nat) (g : Operand) (ps : Array Tmp) (a b : Code) : Prop :=
 ∀ keep vals rest l e vals' l' φ, A.keep f (keyOf (.rangeFunc g ps a b)) = some keep -> S.L f (keyOf (.rangeFunc g ps a b)) (.tup rest :: vals) l = some ((e, vals', l'), φ) -> φ -> RW P G n keep ps.toList a b (e, vals', l') rest vals l
def LoopOk (S : Sig) (A : An) (f : FuncId) (cx : Cx) : Code -> Prop
 | .loop b => ∀ keep vals l e vals' l' φ, A.keep f (keyOf b) = some keep -> S.L f (keyOf b) vals l = some ((e, vals', l'), φ) -> φ -> AWl cx b (fun e' s' => e' = e /\ s' = St.mk' (keep.zip vals') l') (St.mk' (keep.zip vals) l)
 | .rangeFunc g ps a b => RngOk S A f cx.P cx.G cx.n g ps a b
 | _ => True
def frL' (k : List Fr) : List Code := k.flatMap fun f => match f with | .code c => loopsOf c | .blk _ => []
theorem AW.condC {cx : Cx} {s : St} {Q : Exit -> St -> Prop} {x y : Code} {b : Bool} (h1 : b = true -> AW cx x Q s) (h2 : b = false -> AW cx y Q s) : AW cx (.cond (.const (.bool b)) x y) Q s := fun a w R =>
 wpIn_cond_split (show a.eval (.const (.bool b)) = .bool b from rfl) (fun e => h1 e a w R) (fun e => h2 e a w R)
def frC (A : An) (f : FuncId) (n : Nb) (k : List Fr) : Bool := k.all fun g => match g with | .code c => codeX A f n c | .blk _ => true
def aevG (G : Nat -> AV) (ρ : Nat -> AV) : Operand -> AV
 | .tmp t => ρ t
 | .const v => cst v
 | .global g => G g
 | .func f => .fn (.func f) [] []
theorem aev_G (cx : Cx) (ρ : Nat -> AV) (x : Operand) : aev cx ρ x = aevG cx.G ρ x := by cases x <;> rfl
def allG (G : Nat -> AV) (ρ : Nat -> AV) : List Operand -> Bool
 | [] => true
 | x :: r => stripB (aevG G ρ x) && allG G ρ r
theorem allB_G (cx : Cx) (ρ : Nat -> AV) : ∀ l : List Operand, allB cx ρ l = allG cx.G ρ l
 | [] => rfl
 | x :: r => by simp only [allB, allG, aev_G, allB_G cx ρ r]
theorem allB_cx {cx cx' : Cx} (hG : cx.G = cx'.G) (ρ : Nat -> AV) (l : List Operand) : allB cx ρ l = allB cx' ρ l := by rw [allB_G, allB_G, hG]
theorem sstep_cx {cx cx' : Cx} (hP : cx.P = cx'.P) (hG : cx.G = cx'.G) (fr : List Nat) (ds : List (Option Tmp)) (o : Oper) (s : St) : sstep cx fr [] ds o s = sstep cx' fr [] ds o s := by
 unfold sstep
 simp only [scall, sappend, svop, spick, sstore, smput, salloc, headOut, allB_G, aev_G, hP, hG]
theorem wOk_cx {cx cx' : Cx} (hG : cx.G = cx'.G) (fr : Option (List Nat)) (o : Oper) (s : St) : wOk cx fr o s = wOk cx' fr o s := by
 unfold wOk
 simp only [aev_G, hG]
theorem stepX_cx {cx cx' : Cx} (hP : cx.P = cx'.P) (hG : cx.G = cx'.G) (S : Sig) (A : An) (fr : Option (List Nat)) (ds : List (Option Tmp)) (o : Oper) (s : St) : stepX cx S A fr ds o s = stepX cx' S A fr ds o s := by
 unfold stepX
 simp only [sstep_cx hP hG, wOk_cx hG, stX, stP, stCall, stB, stH, stNo, avOf, allB_G, aev_G, hG, hP]
theorem stepN_cx {cx cx' : Cx} (hP : cx.P = cx'.P) (hG : cx.G = cx'.G) (S : Sig) (A : An) (fr : Option (List Nat)) (ds : List (Option Tmp)) (o : Oper) (s : St) : stepN cx S A fr ds o s = stepN cx' S A fr ds o s := by
 unfold stepN nOk appO
 simp only [stepX_cx hP hG, aev_G, hG, hP]
theorem stepC_cx {cx cx' : Cx} (hP : cx.P = cx'.P) (hG : cx.G = cx'.G) (ds : List (Option Tmp)) : stepC cx ds = stepC cx' ds := by
 funext o s
 unfold stepC scpy
 simp only [sstep_cx hP hG, aev_G, hP, hG]
theorem nilQ_cx {cx cx' : Cx} (hP : cx.P = cx'.P) (hG : cx.G = cx'.G) (o : Oper) (s : St) : nilQ cx o s = nilQ cx' o s := by
 unfold nilQ
 simp only [hP, hG, aev_G]
theorem RelK.keep {cx : Cx} {κ : Kz} {s : St} {a : Act} {w : World} (R : RelK cx κ s a w) (keep : List Tmp) :
  RelK { cx with n := keep.length, fzl := [] } κ ⟨fun t => (keep.map s.ρ).getD t .junk, s.H⟩ { a with tmps := (keep.map fun t => a.tmps.getD t undef).toArray } w := by
 have := R.args (av := keep.map s.ρ) (vs := (keep.map fun t => a.tmps.getD t undef).toArray) (by simp) (fun i x v hx hv => by
  simp only [List.getElem?_map, List.getElem?_toArray] at hx hv
  obtain ⟨t, ht, rfl⟩ := Option.map_eq_some_iff.1 hx
  rw [ht] at hv
  cases hv
  exact R.env t)
 simpa using this
theorem RelK.unkeep {cx : Cx} {κ κ0 : Kz} {s s0 : St} {a : Act} {w : World} {keep : List Tmp} {vals : List AV} {H : Hp} (R0 : RelK cx κ0 s0 a w) (R : RelK { cx with n := keep.length, fzl := [] } κ ⟨fun t => vals.getD t .junk, H⟩ { a with tmps := (keep.map fun t => a.tmps.getD t undef).toArray } w)
  (_ : s = ⟨Aw.env (keep.zip vals), H⟩) : RelK cx κ s a w := by
 subst s
 refine ⟨R.rep, R.inj, fun t => ?_, R0.size, ⟨R.defers.1, R0.defers.2⟩, R.os, R.tape, R.output, R.le, R.block, R.own, R.im0, R.imlt, R.imnew, R.pin, R.pinlo, R.glob⟩
 show RV κ H w (Aw.env (keep.zip vals) t) _
 rcases zip_env (keep := keep) (vals := vals) (t := t) with h | ⟨i, h1, h2⟩
 ·rw [h]; exact .junk _
 ·have := R.env i
  simp only [List.getD_eq_getElem?_getD, h2, Array.getD_eq_getD_getElem?, List.getElem?_toArray, List.getElem?_map, h1, Option.map_some, Option.getD_some] at this
  simpa [Array.getD_eq_getD_getElem?] using this
theorem canV_loop {cx : Cx} (hcx : CxOk cx) {mode : Nat} {fixes : List (Nat × List Nat × Nat)} {ps : List Nat} (hps : ∀ p ∈ ps, 100000 ≤ p) {keep : List Tmp} {s : St} {vals : List AV} {l : HL} {φ : Prop}
  (h : canV 60000 mode fixes ps (keep.map s.ρ) s.H = some ((vals, l), φ)) (hφ : φ) : Weak cx s (St.mk' (keep.zip vals) l) := fun a w ⟨κ, R⟩ => by
 have hpin : ∀ o, 60000 ≤ o -> o < 61000 -> cx.pin o = none := fun o h1 h2 => by
  cases hx : cx.pin o with
  | none => rfl
  | some x => have := R.pinlo o x hx; omega
 obtain ⟨⟨κ', R'⟩, _⟩ := canV_sound (cx := { cx with n := keep.length, fzl := [] }) ⟨hcx.glob, hcx.pureG⟩ h hφ (fun p hp => by have := hps p hp; omega) hpin (R.keep keep)
 exact ⟨κ', R.unkeep R' rfl⟩
section
variable {R : Type}
def QK (x : Xe R) (r : R) (e : Exit) (s : St) : Prop := ∃ ψ, ψ /\ x.K e s = some (r, ψ)
def SoundI (x : Xe R) (cx : Cx) (r : R) (k : List Fr) (s : St) : It -> Prop
 | .c c => AW cx c (contQ cx (QK x r) k) s /\ (c = .skip -> contQ cx (QK x r) k .normal s)
 | .o none os l => ∀ k0, (∀ j, l[j]? = os[k0 + j]?) -> ∀ a w, Rel cx s a w -> wpOpsIn (FR cx.rd) 0 cx.P os.toArray (fun e a' w' => ∃ s', contQ cx (QK x r) k e s' /\ Rel cx s' a' w') (List.range' k0 l.length) a w
 | .o (some fr) os l => ∃ s' φ', srunG (stepN cx x.S x.A (some fr) (os.map (·.dst))) l s = some (s', φ') /\ φ' /\ contQ cx (QK x r) k .normal s'
def OkI (A : An) (f : FuncId) (n : Nb) : It -> Prop
 | .c c => codeX A f n c = true
 | .o none os l => (dstsOk n (os.map (·.dst)) = true) /\ ∀ o ∈ l, o ∈ os
 | .o (some _) _ _ => True
def lpI : It -> List Code
 | .c c => loopsOf c
 | .o _ _ _ => []
theorem frC_unw {A : An} {f : FuncId} {n : Nb} {id : Nat} : ∀ {k k' : List Fr}, frC A f n k = true -> unw id k = some k' -> frC A f n k' = true
 | [], _, _, h => by cases h
 | .code _ :: k, _, h, hu => by
  simp only [frC, List.all_cons, Bool.and_eq_true] at h
  exact frC_unw (k := k) h.2 hu
 | .blk i :: k, k', h, hu => by
  simp only [frC, List.all_cons, Bool.and_eq_true] at h
  simp only [unw] at hu
  split at hu
  ·cases hu; exact h.2
  ·exact frC_unw (k := k) h.2 hu
theorem frL_unw {id : Nat} : ∀ {k k' : List Fr}, unw id k = some k' -> ∀ b ∈ frL' k', b ∈ frL' k
 | [], _, h => by cases h
 | .code _ :: k, _, hu => fun b hb => by
  have := frL_unw (k := k) hu b hb
  simp only [frL', List.flatMap_cons, List.mem_append]
  exact .inr this
 | .blk i :: k, k', hu => fun b hb => by
  simp only [unw] at hu
  split at hu
  ·cases hu; simpa [frL'] using hb
  ·have := frL_unw (k := k) hu b hb
   simpa [frL'] using this
theorem contQ_goto {cx : Cx} {Q : Exit -> St -> Prop} {l : Nat} {s : St} : ∀ {k : List Fr}, contQ cx Q k (.goto l) s -> Q (.goto l) s
 | [], h => h
 | .code _ :: k, h => contQ_goto (k := k) h
 | .blk _ :: k, h => contQ_goto (k := k) h
theorem wpIn_scope_straight {F : Fence} {n : Nat} {P : Program} {Q : Exit -> Act -> World -> Prop} {a : Act} {w : World} {c : Code} (h : c.wpIn F n P (Exit.noGoto Q) a w) : (Code.scope c).wpIn F n P Q a w := by
 intro b k cs hro hb hr
 have h0 : (lone (b.atR a (.code (.scope c) :: k)) cs w).fenced P F := fenced_calm hb hr rfl
 have hs : step P (lone (b.atR a (.code (.scope c) :: k)) cs w) = .next (lone (b.atR a (.code c :: .inScope c :: k)) cs w) := step_lone_go (by simp [stepG, stepG.exec, Frame.atR])
 have hs2 : ∀ a' w', step P (lone (b.atR a' (.inScope c :: k)) cs w') = .next (lone (b.atR a' k) cs w') := fun a' w' => step_lone_go (by simp [stepG, stepG.exec, Frame.atR])
 obtain ⟨e, a₁, w₁, hq, harr⟩ := h b (.inScope c :: k) cs hro hb hr
 cases e with
 | normal => exact ⟨.normal, a₁, w₁, hq, .head h0 hs (StepsIn.trans harr (.one (fenced_calm hb hr rfl) (hs2 a₁ w₁)))⟩
 | exit id =>
  have hx : exitTo id (.inScope c :: k) = exitTo id k := by simp [exitTo]
  exact ⟨.exit id, a₁, w₁, hq, fun k' hk => .head h0 hs (harr.1 k' (by rw [hx]; exact hk)),
   fun hr' hk => let ⟨k₁, h1, h2⟩ := harr.2 hr' (by rw [hx]; exact hk); ⟨k₁, h1, .head h0 hs h2⟩⟩
 | goto l => exact hq.elim
 | ret => exact ⟨_, a₁, w₁, hq, .of_steps (.one h0 hs) harr⟩
 | panic ch => exact ⟨_, a₁, w₁, hq, .of_steps (.one h0 hs) harr⟩
 | outgrown => exact ⟨_, a₁, w₁, hq, .of_steps (.one h0 hs) harr⟩
theorem AW.scope {cx : Cx} {s : St} {Q : Exit -> St -> Prop} {c : Code} (h : AW cx c Q s) (hg : ∀ l s', ¬ Q (.goto l) s') : AW cx (.scope c) Q s := fun a w R =>
 wpIn_scope_straight (wpIn_mono (h a w R) fun e a' w' ⟨s', q, r⟩ => by
  cases e with
  | goto l => exact (hg l s' q).elim
  | normal => exact ⟨s', q, r⟩
  | exit id => exact ⟨s', q, r⟩
  | ret => exact ⟨s', q, r⟩
  | panic ch => exact ⟨s', q, r⟩
  | outgrown => exact ⟨s', q, r⟩)
theorem ex_sound (x : Xe R) (cx : Cx) (hKg : ∀ l s, x.K (.goto l) s = none) (hP : x.cx.P = cx.P) (hG : x.cx.G = cx.G) (hcx : CxOk cx) (hm : cx.P.follows .mixedOrders = true) (hS : SigF cx.P cx.G x.S) (hsq : ∀ q cap xs φ, x.A.seq q cap = some (xs, φ) -> φ -> SeqOk cx.P q cap xs) (hps : ∀ p ∈ x.ps, 100000 ≤ p) (r : R) :
  ∀ (n : Nat) (it : It) (k : List Fr) (s : St) (φ : Prop), OkI x.A x.f cx.nb it -> frC x.A x.f cx.nb k = true -> (∀ b ∈ lpI it ++ frL' k, (codeX x.A x.f cx.nb b = true -> LoopOk x.S x.A x.f cx b)) -> ex x n it k s = some (r, φ) -> φ -> SoundI x cx r k s it := by
 intro n
 induction n with
 | zero => intro it k s φ _ _ _ h; cases h
 | succ n ih =>
  have skip : ∀ (k : List Fr) (s : St) (φ : Prop), frC x.A x.f cx.nb k = true -> (∀ b ∈ frL' k, (codeX x.A x.f cx.nb b = true -> LoopOk x.S x.A x.f cx b)) -> ex x n (.c .skip) k s = some (r, φ) -> φ -> contQ cx (QK x r) k .normal s := fun k s φ hk hl h hφ =>
   (ih (.c .skip) k s φ rfl hk (by simpa [lpI, loopsOf] using hl) h hφ).2 rfl
  intro it k s φ hok hk hlp h hφ
  cases it with
  | c c =>
   have hlk : ∀ b ∈ frL' k, (codeX x.A x.f cx.nb b = true -> LoopOk x.S x.A x.f cx b) := fun b hb => hlp b (List.mem_append.2 (.inr hb))
   have hlc : ∀ b ∈ loopsOf c, (codeX x.A x.f cx.nb b = true -> LoopOk x.S x.A x.f cx b) := fun b hb => hlp b (List.mem_append.2 (.inl hb))
   have ofSkip : contQ cx (QK x r) k .normal s -> c = .skip -> SoundI x cx r k s (.c c) := fun h0 e => ⟨by rw [e]; exact AW.skip h0, fun _ => h0⟩
   cases c with
   | skip =>
    refine ofSkip ?_ rfl
    simp only [ex, gSkip] at h
    cases k with
    | nil => exact ⟨φ, hφ, h⟩
    | cons f k =>
     simp only [frC, List.all_cons, Bool.and_eq_true] at hk
     cases f with
     | code y => exact (ih (.c y) k s φ hk.1 hk.2 (by simpa [lpI, frL'] using hlk) h hφ).1
     | blk i => exact skip k s φ hk.2 (by simpa [frL'] using hlk) h hφ
   | label l => exact ⟨AW.label (skip k s φ hk hlk h hφ), by simp⟩
   | exit id =>
    refine ⟨AW.exit (contQ_exit ?_), by simp⟩
    simp only [ex, gExit] at h
    cases hu : unw id k with
    | some k' => rw [hu] at h; exact skip k' s φ (frC_unw hk hu) (fun b hb => hlk b (frL_unw hu b hb)) h hφ
    | none => rw [hu] at h; exact ⟨φ, hφ, h⟩
   | ret => exact ⟨AW.ret (contQ_ret ⟨φ, hφ, h⟩), by simp⟩
   | seq a b =>
    simp only [OkI, codeX, Bool.and_eq_true] at hok
    refine ⟨AW.seq (ih (.c a) (.code b :: k) s φ hok.1 (by simp only [frC, List.all_cons, Bool.and_eq_true]; exact ⟨hok.2, hk⟩) (fun c hc => ?_) h hφ).1, by simp⟩
    simp only [lpI, frL', List.flatMap_cons, List.mem_append] at hc
    rcases hc with hc | hc | hc
    ·exact hlc c (by simp [loopsOf, hc])
    ·exact hlc c (by simp [loopsOf, hc])
    ·exact hlk c hc
   | block id c =>
    refine ⟨AW.block (ih (.c c) (.blk id :: k) s φ hok (by simp only [frC, List.all_cons, Bool.and_eq_true]; exact ⟨trivial, hk⟩) (fun b hb => ?_) h hφ).1, by simp⟩
    simp only [lpI, frL', List.flatMap_cons, List.mem_append] at hb
    rcases hb with hb | hb | hb
    ·exact hlc b hb
    ·cases hb
    ·exact hlk b hb
   | cond c a b =>
    simp only [OkI, codeX, Bool.and_eq_true] at hok
    cases c with
    | tmp t =>
     simp only [ex, gCond] at h
     split at h
     ·rename_i v hv
      refine ⟨AW.cond hv (fun e => ?_) (fun e => ?_), by simp⟩
      ·rw [if_pos e] at h
       exact (ih (.c a) k s φ hok.1 hk (fun c hc => (List.mem_append.1 hc).elim (fun hc => hlc c (by simp only [lpI] at hc; simp [loopsOf, hc])) (fun hc => hlk c hc)) h hφ).1
      ·rw [if_neg (by simp [e])] at h
       exact (ih (.c b) k s φ hok.2 hk (fun c hc => (List.mem_append.1 hc).elim (fun hc => hlc c (by simp only [lpI] at hc; simp [loopsOf, hc])) (fun hc => hlk c hc)) h hφ).1
     ·cases h
    | const v =>
     cases v with
     | bool v =>
      simp only [ex, gCond] at h
      refine ⟨AW.condC (fun e => ?_) (fun e => ?_), by simp⟩
      ·rw [if_pos e] at h
       exact (ih (.c a) k s φ hok.1 hk (fun c hc => (List.mem_append.1 hc).elim (fun hc => hlc c (by simp only [lpI] at hc; simp [loopsOf, hc])) (fun hc => hlk c hc)) h hφ).1
      ·rw [if_neg (by simp [e])] at h
       exact (ih (.c b) k s φ hok.2 hk (fun c hc => (List.mem_append.1 hc).elim (fun hc => hlc c (by simp only [lpI] at hc; simp [loopsOf, hc])) (fun hc => hlk c hc)) h hφ).1
     | _ => cases h
    | global g => cases h
    | func f => cases h
   | region id ops draw =>
    simp only [OkI, codeX] at hok
    simp only [ex] at h
    cases hfzt : fzT (x.A.fzr x.f id) s with
    | none => rw [hfzt] at h; cases h
    | some y =>
    obtain ⟨s0, φ0⟩ := y
    rw [hfzt] at h
    obtain ⟨hφ0, φ', hφ', h⟩ := andP_some h hφ
    refine ⟨?_, by simp⟩
    refine AW.weak (s' := s0) (fun a w ⟨κ, R⟩ => fzT_sound hcx hfzt hφ0 R) ?_
    clear hφ hfzt hφ0
    revert h hφ'
    generalize φ' = φ
    generalize s0 = s
    intro hφ h
    suffices hh : AW cx (.region id ops draw) (contQ cx (QK x r) k) s /\ ((Code.region id ops draw) = .skip -> contQ cx (QK x r) k .normal s) from hh.1
    simp only [gReg] at h
    cases hcpy : x.A.cp x.f id with
    | true =>
     rw [hcpy] at h hok
     rw [if_pos rfl] at hok
     simp only at h
     rw [stepC_cx hP hG] at h
     cases hs : srunG (stepC cx (ops.toList.map (·.dst))) ops.toList s with
     | none => rw [hs] at h; cases h
     | some y =>
      obtain ⟨s1, φ1⟩ := y
      rw [hs] at h
      obtain ⟨h1, ψ, h2, h3⟩ := andP_some h hφ
      refine ⟨?_, by simp⟩
      have := AW.regC hcx hm (id := id) (Q := contQ cx (QK x r) k) hok hs h1 (skip k s1 ψ hk hlk h3 h2)
      simpa using this
    | false =>
    rw [hcpy] at h hok
    rw [if_neg (by simp)] at hok
    simp only at h
    cases draw with
    | false =>
     simp only [regX, Bool.and_eq_true] at hok
     have := ih (.o none ops.toList ops.toList) k s φ ⟨hok.1, fun _ h => h⟩ hk (by simpa [lpI] using hlk) h hφ
     refine ⟨fun a w R => wpIn_region ?_, by simp⟩
     have h2 := this 0 (by simp) a w R
     simpa [List.range_eq_range'] using h2
    | true =>
     simp only at h
     cases hd : x.A.dr x.f id with
     | none => rw [hd] at h; cases h
     | some d =>
      obtain ⟨fr, wm, ts, bl⟩ := d
      rw [hd] at h
      have hlv := gOT_leaves (p := fun τ => ∃ s' φ', srunG (stepN cx x.S x.A (some (wX wm ts s ++ fr)) (ops.toList.map (·.dst))) τ (blank bl s) = some (s', φ') /\ φ' /\ contQ cx (QK x r) k .normal s') (fun l' φ h hφ => ih (.o (some (wX wm ts s ++ fr)) ops.toList l') k _ φ trivial hk (by simpa [lpI] using hlk) h hφ) h hφ
      refine ⟨?_, by simp⟩
      have := AW.drawX hcx hS hm (id := id) (l := ops.toList) (Q := contQ cx (QK x r) k) (A := x.A) (s := s) (f := x.f) hok hd hlv
      simpa using this
   | loop b =>
    refine ⟨?_, by simp⟩
    simp only [ex, gLoop] at h
    cases hkp : x.A.keep x.f (keyOf b) with
    | none => rw [hkp] at h; cases h
    | some keep =>
     rw [hkp] at h
     simp only [gL1] at h
     cases hcv : canV 60000 (modeL (x.A.frl x.f (keyOf b))) (x.A.fix x.f (keyOf b)) x.ps (keep.map s.ρ) s.H with
     | none => rw [hcv] at h; cases h
     | some y =>
      obtain ⟨⟨vals, l⟩, φ1⟩ := y
      rw [hcv] at h
      simp only [gL2] at h
      cases hL : x.S.L x.f (keyOf b) vals l with
      | none => rw [hL] at h; cases h
      | some z =>
       obtain ⟨⟨e, vals', l'⟩, ψ⟩ := z
       rw [hL] at h
       simp only at h
       have hlo := hlc (.loop b) (by simp [loopsOf]) hok keep vals l e vals' l' ψ hkp hL
       have fin : φ1 -> ψ -> contQ cx (QK x r) k e (St.mk' (keep.zip vals') l') -> AW cx (.loop b) (contQ cx (QK x r) k) s := fun h1 h2 h3 => by
        refine AW.weak (canV_loop hcx hps hcv h1) (AWl.loop ?_)
        intro a w R b' k' cs' hro' hb' hr'
        obtain ⟨e', a', w', ⟨s', ⟨rfl, rfl⟩, R'⟩, harr⟩ := hlo h2 a w R b' k' cs' hro' hb' hr'
        exact ⟨e', a', w', ⟨_, h3, R'⟩, harr⟩
       cases e with
       | exit id =>
        obtain ⟨h1, ψ', h2, h3⟩ := andP_some h hφ
        refine fin h1.1 h1.2 (contQ_exit ?_)
        simp only [gExit] at h3
        cases hu : unw id k with
        | some k' => rw [hu] at h3; exact skip k' _ ψ' (frC_unw hk hu) (fun b hb => hlk b (frL_unw hu b hb)) h3 h2
        | none => rw [hu] at h3; exact ⟨ψ', h2, h3⟩
       | ret =>
        obtain ⟨h1, ψ', h2, h3⟩ := andP_some h hφ
        exact fin h1.1 h1.2 (contQ_ret ⟨ψ', h2, h3⟩)
       | normal => cases h
       | goto l => cases h
       | panic c => cases h
       | outgrown => cases h
   | rangeFunc g p ca cb =>
    refine ⟨?_, by simp⟩
    simp only [ex, gRange] at h
    simp only [OkI, codeX, Bool.and_eq_true, Bool.not_eq_true'] at hok
    have hloop := hlc (.rangeFunc g p ca cb) (by simp [loopsOf]) (by simp only [codeX, Bool.and_eq_true, Bool.not_eq_true']; exact hok)
    generalize hkey : keyOf (.rangeFunc g p ca cb) = key at h hok
    cases hkp : x.A.keep x.f key with
    | none => rw [hkp] at h; cases h
    | some keep =>
    rw [hkp] at h hok
    simp only [gR1] at h
    cases hfz : frzR s (reach 500 s.H (AV.rl.rls [stripV (aev x.cx s.ρ g)]) []) with
    | none => rw [hfz] at h; cases h
    | some y =>
    obtain ⟨s1, φ1⟩ := y
    rw [hfz] at h
    obtain ⟨⟨h1, hB⟩, ψ1, hψ1, h⟩ := andP_some h hφ
    rw [allB_cx hG] at hB
    rw [aev_G, hG, <- aev_G] at h
    generalize hv : stripV (aev cx s1.ρ g) = v at h
    unfold gR2 at h
    split at h
    case h_2 => cases h
    rename_i q cap
    split at h
    case isFalse => cases h
    rename_i hpu
    simp only [gR3] at h
    cases hsq2 : x.A.seq q cap with
    | none => rw [hsq2] at h; cases h
    | some y =>
    obtain ⟨xs, φ2⟩ := y
    rw [hsq2] at h
    obtain ⟨h2, ψ2, hψ2, h⟩ := andP_some h hψ1
    simp only [gR4] at h
    cases hcv : canV 60000 (modeL (x.A.frl x.f key)) (x.A.fix x.f key) x.ps (keep.map s1.ρ) s1.H with
    | none => rw [hcv] at h; cases h
    | some y =>
    obtain ⟨⟨vals, l⟩, φ3⟩ := y
    rw [hcv] at h
    simp only [gR5] at h
    cases hL : x.S.L x.f key (.tup xs :: vals) l with
    | none => rw [hL] at h; cases h
    | some z =>
    obtain ⟨⟨e, vals', l'⟩, ψ3⟩ := z
    rw [hL] at h
    simp only at h
    have hrd : cx.rd = none := by
     have := hok.1.1.1
     cases hr : cx.rd with
     | none => rfl
     | some _ => simp [Cx.nb, hr] at this
    obtain ⟨hp1, hp2⟩ := psOk_spec hok.1.1.2
    have fin : φ3 -> ψ3 -> contQ cx (QK x r) k e (St.mk' (keep.zip vals') l') -> AW cx (.rangeFunc g p ca cb) (contQ cx (QK x r) k) s := fun h3 h4 h5 => by
     intro a w ⟨κ, R⟩
     obtain ⟨κ0, R0⟩ := frzR_sound hcx hfz h1 R
     have hgv := R0.opnd hB g (by simp)
     rw [hv] at hgv
     generalize hev : a.eval g = u at hgv
     cases hgv with
     | imm h => cases h
     | fn _ _ _ as bs hl hl' _ hbs =>
      obtain rfl : as = #[] := Array.eq_empty_of_size_eq_zero hl
      exact range_wp hcx R0 hrd hev hl' (pc_args hpu hbs) (hsq q cap xs φ2 hsq2 h2) hp1 hp2 (fun cx' _ _ _ hc' => canV_loop hc' hps hcv h3) (hloop keep vals xs l e vals' l' ψ3 (by rw [hkey]; exact hkp) (by rw [hkey]; exact hL) h4) h5
    cases e with
    | normal =>
     obtain ⟨h3, ψ', h4, h5⟩ := andP_some h hψ2
     exact fin h3.1 h3.2 (skip k _ ψ' hk hlk h5 h4)
    | exit id =>
     obtain ⟨h1, ψ', h2, h3⟩ := andP_some h hψ2
     refine fin h1.1 h1.2 (contQ_exit ?_)
     simp only [gExit] at h3
     cases hu : unw id k with
     | some k' => rw [hu] at h3; exact skip k' _ ψ' (frC_unw hk hu) (fun b hb => hlk b (frL_unw hu b hb)) h3 h2
     | none => rw [hu] at h3; exact ⟨ψ', h2, h3⟩
    | ret =>
     obtain ⟨h1, ψ', h2, h3⟩ := andP_some h hψ2
     exact fin h1.1 h1.2 (contQ_ret ⟨ψ', h2, h3⟩)
    | goto l => cases h
    | panic c => cases h
    | outgrown => cases h
   | scope c =>
    refine ⟨AW.scope (ih (.c c) k s φ hok hk hlp h hφ).1 (fun l s' hq => ?_), by simp⟩
    obtain ⟨ψ, _, h2⟩ := contQ_goto hq
    rw [hKg] at h2
    cases h2
   | goto l => cases h
   | refuse w => cases h
  | o fr os l =>
   have hlk : ∀ b ∈ frL' k, (codeX x.A x.f cx.nb b = true -> LoopOk x.S x.A x.f cx b) := fun b hb => hlp b (List.mem_append.2 (.inr hb))
   cases l with
   | nil =>
    have := skip k s φ hk hlk h hφ
    cases fr with
    | none =>
     intro k0 _ a w R
     simp only [List.length_nil, List.range'_zero, wpOpsIn]
     exact ⟨s, this, R⟩
    | some fr => exact ⟨s, True, rfl, trivial, this⟩
   | cons o l =>
    simp only [ex] at h
    cases fr with
    | some fr =>
     rw [show glX (x.A.lz x.f) (some fr) os o s = false from by cases x.A.lz x.f <;> rfl] at h
     simp only [gLd, nilX, gOp] at h
     rw [show preX x.cx x.A (some fr) o s = none from rfl] at h
     simp only [gPre] at h
     rw [stepN_cx hP hG] at h
     cases hs : stepN cx x.S x.A (some fr) (os.map (·.dst)) o s with
     | none => rw [hs] at h; cases h
     | some y =>
      obtain ⟨s1, φ1⟩ := y
      rw [hs] at h
      obtain ⟨h1, ψ, h2, h3⟩ := andP_some h hφ
      obtain ⟨s', φ', k1, k2, k3⟩ := ih (.o (some fr) os l) k s1 ψ trivial hk (by simpa [lpI] using hlk) h3 h2
      refine ⟨s', φ1 /\ φ', ?_, ⟨h1, k2⟩, k3⟩
      simp only [srunG, hs, k1]
    | none =>
     obtain ⟨hd0, hmem⟩ := hok
     have hok' : OkI x.A x.f cx.nb (.o none os l) := ⟨hd0, fun o ho => hmem o (by simp [ho])⟩
     have hn : ∀ o ∈ os.toArray, ∀ d, o.dst = some d -> cx.ok d := dstsOk_spec (by simpa using hd0)
     have hls : ∀ b ∈ lpI (.o none os l) ++ frL' k, (codeX x.A x.f cx.nb b = true -> LoopOk x.S x.A x.f cx b) := by simpa [lpI] using hlk
     intro k0 hl a w R
     have h0 : os.toArray[k0]? = some o := by simpa using (hl 0).symm
     have hl' : ∀ j, l[j]? = os[k0 + 1 + j]? := fun j => by have := hl (j + 1); simpa [Nat.add_assoc, Nat.add_comm 1 j] using this
     obtain ⟨κ, R⟩ := R
     have hd := hn o (Array.mem_of_getElem? h0)
     simp only [List.length_cons, List.range'_succ, wpOpsIn, h0]
     cases hgl : glX (x.A.lz x.f) none os o s with
     | true =>
      rw [hgl] at h
      simp only [gLd] at h
      obtain ⟨_, q1, q2⟩ := glX_spec hgl
      obtain ⟨gg, hgg⟩ := Option.isSome_iff_exists.1 q1
      have hw := gcond_sound R (o := o) hn (by simpa using q2)
      rw [if_neg (by rw [hw]; simp)]
      refine ⟨fun _ _ => trivial, ?_⟩
      exact ih (.o none os l) k _ φ hok' hk hls h hφ (k0 + 1) hl' _ _ (by rw [hP]; exact ⟨κ, R.putv hd (by rw [show (AV.gd false (noV cx.P o.type)) = wrapg o.guard false (noV cx.P o.type) from by rw [hgg]; rfl, hgg]; exact .skip)⟩)
     | false =>
     rw [hgl] at h
     simp only [gLd, nilX] at h
     rw [nilQ_cx hP hG] at h
     cases hq : nilQ cx o s with
     | some q =>
      obtain ⟨neg, m⟩ := q
      rw [hq] at h
      simp only [gOp, gNil] at h
      rw [allB_cx hG] at h
      obtain ⟨hB, ψ, h2, h3⟩ := andP_some h hφ
      obtain ⟨hg, b, hb0, hD⟩ := nilQ_does R hq hB hd
      rw [if_pos (by simp [Region.wanted, hg])]
      refine hD _ _ (fun a' w' R' => ?_)
      have key : ∃ ψ, ψ /\ ex x n (.o none os l) k (putv s o.dst (.bool (b != neg))) = some (r, ψ) := by
       by_cases hm0 : m = 0
       ·rw [if_pos hm0] at h3
        obtain ⟨e1, e2⟩ := bothP_some h3 h2
        cases b with
        | true => rw [Bool.true_bne]; exact e1
        | false => rw [Bool.false_bne]; exact e2
       ·rw [if_neg hm0] at h3
        cases b with
        | true => exact absurd (hb0 rfl) hm0
        | false => rw [Bool.false_bne]; exact ⟨ψ, h2, h3⟩
      obtain ⟨ψ', k1, k2⟩ := key
      exact ih (.o none os l) k _ ψ' hok' hk hls k2 k1 (k0 + 1) hl' a' w' R'
     | none =>
      rw [hq] at h
      simp only [gOp] at h
      obtain ⟨s2, κ2, R2, φ2, h, hφ⟩ : ∃ s2 κ2, RelK cx κ2 s2 a w /\ ∃ φ2, gStep (ex x n) none os l k (stepN x.cx x.S x.A none (os.map (·.dst)) o s2) = some (r, φ2) /\ φ2 := by
       cases hp : preX x.cx x.A none o s with
       | none => rw [hp] at h; exact ⟨s, κ, R, _, h, hφ⟩
       | some p => cases p with
        | none => rw [hp] at h; cases h
        | some p =>
         obtain ⟨s1, φ1⟩ := p
         rw [hp] at h
         obtain ⟨h1, ψ, h2, h3⟩ := andP_some h hφ
         obtain ⟨κ1, R1⟩ := preX_ok hcx hp h1 R
         exact ⟨s1, κ1, R1, ψ, h3, h2⟩
      rw [stepN_cx hP hG, stepN_none] at h
      cases hs : stepX cx x.S x.A none (os.map (·.dst)) o s2 with
      | none => rw [hs] at h; cases h
      | some y =>
       obtain ⟨s1, φ1⟩ := y
       rw [hs] at h
       obtain ⟨h1, ψ, h2, h3⟩ := andP_some h hφ
       have IH := ih (.o none os l) k s1 ψ hok' hk hls h3 h2 (k0 + 1) hl'
       rcases stepX_sound hcx R2 hS hn (Array.mem_of_getElem? h0) (by simpa using hs) h1 with ⟨hw, hD⟩ | ⟨hw, hR⟩
       ·rw [if_pos hw]
        exact hD _ _ (fun a' w' R' => IH a' w' R')
       ·rw [if_neg (by simp [hw])]
        exact ⟨fun _ _ => trivial, IH _ _ hR⟩
theorem ex_leaf (x : Xe R) (r : R) : ∀ (n : Nat) (it : It) (k : List Fr) (s : St) (φ : Prop), ex x n it k s = some (r, φ) -> φ -> ∃ e s', QK x r e s' := by
 intro n
 induction n with
 | zero => intro it k s φ h; cases h
 | succ n ih =>
  intro it k s φ h hφ
  have ge : ∀ (id : Nat) (s : St) (u : Option (List Fr)) (φ : Prop), gExit x (ex x n) id s u = some (r, φ) -> φ -> ∃ e s', QK x r e s' := fun id s u φ h hφ => by
   cases u with
   | some k' => exact ih _ _ _ _ h hφ
   | none => exact ⟨_, _, φ, hφ, h⟩
  cases it with
  | c c =>
   cases c with
   | skip =>
    simp only [ex] at h
    cases k with
    | nil => exact ⟨_, _, φ, hφ, h⟩
    | cons f k => cases f with
     | code y => exact ih _ _ _ _ h hφ
     | blk i => exact ih _ _ _ _ h hφ
   | label l => exact ih _ _ _ _ h hφ
   | exit id => exact ge _ _ _ _ h hφ
   | ret => exact ⟨_, _, φ, hφ, h⟩
   | seq a b => exact ih _ _ _ _ h hφ
   | block id c => exact ih _ _ _ _ h hφ
   | cond c a b => cases c with
    | tmp t =>
     simp only [ex, gCond] at h
     split at h
     ·split at h
      ·exact ih _ _ _ _ h hφ
      ·exact ih _ _ _ _ h hφ
     ·cases h
    | const v =>
     cases v with
     | bool v =>
      simp only [ex, gCond] at h
      split at h
      ·exact ih _ _ _ _ h hφ
      ·exact ih _ _ _ _ h hφ
     | _ => cases h
    | global g => cases h
    | func f => cases h
   | region id ops draw =>
    simp only [ex] at h
    cases hfzt : fzT (x.A.fzr x.f id) s with
    | none => rw [hfzt] at h; cases h
    | some y =>
    obtain ⟨s0, φ0⟩ := y
    rw [hfzt] at h
    obtain ⟨_, φ', hφ, h⟩ := andP_some h hφ
    simp only [gReg] at h
    split at h
    ·simp only [gCp] at h
     split at h
     ·obtain ⟨_, ψ, h2, h3⟩ := andP_some h hφ; exact ih _ _ _ _ h3 h2
     ·cases h
    cases draw with
    | false => exact ih _ _ _ _ h hφ
    | true =>
     simp only [gDr] at h
     split at h
     ·obtain ⟨l', ψ, h1, h2⟩ := gOT_one h hφ
      exact ih _ _ _ _ h1 h2
     ·cases h
   | loop b =>
    simp only [ex, gLoop] at h
    split at h
    case h_2 => cases h
    simp only [gL1] at h
    split at h
    case h_2 => cases h
    simp only [gL2] at h
    split at h
    case h_2 => cases h
    split at h
    ·obtain ⟨_, ψ, h2, h3⟩ := andP_some h hφ; exact ge _ _ _ _ h3 h2
    ·obtain ⟨_, ψ, h2, h3⟩ := andP_some h hφ; exact ⟨_, _, ψ, h2, h3⟩
    ·cases h
   | rangeFunc g p ca cb =>
    simp only [ex, gRange] at h
    split at h
    case h_2 => cases h
    simp only [gR1] at h
    split at h
    case h_2 => cases h
    obtain ⟨_, ψ1, hψ1, h⟩ := andP_some h hφ
    unfold gR2 at h
    split at h
    case h_2 => cases h
    split at h
    case isFalse => cases h
    simp only [gR3] at h
    split at h
    case h_2 => cases h
    obtain ⟨_, ψ2, hψ2, h⟩ := andP_some h hψ1
    simp only [gR4] at h
    split at h
    case h_2 => cases h
    simp only [gR5] at h
    split at h
    case h_2 => cases h
    split at h
    ·obtain ⟨_, ψ, h2, h3⟩ := andP_some h hψ2; exact ih _ _ _ _ h3 h2
    ·obtain ⟨_, ψ, h2, h3⟩ := andP_some h hψ2; exact ge _ _ _ _ h3 h2
    ·obtain ⟨_, ψ, h2, h3⟩ := andP_some h hψ2; exact ⟨_, _, ψ, h2, h3⟩
    ·cases h
   | scope c => exact ih _ _ _ _ h hφ
   | goto l => cases h
   | refuse w => cases h
  | o fr os l =>
   cases l with
   | nil => exact ih _ _ _ _ h hφ
   | cons o l =>
    simp only [ex, gLd] at h
    split at h
    ·exact ih _ _ _ _ h hφ
    simp only [gOp] at h
    split at h
    ·simp only [gNil] at h
     obtain ⟨_, ψ, h2, h3⟩ := andP_some h hφ
     split at h3
     ·obtain ⟨⟨ψ', k1, k2⟩, _⟩ := bothP_some h3 h2; exact ih _ _ _ _ k2 k1
     ·exact ih _ _ _ _ h3 h2
    ·simp only [gPre] at h
     split at h
     ·simp only [gStep] at h
      split at h
      ·obtain ⟨_, ψ, h2, h3⟩ := andP_some h hφ; exact ih _ _ _ _ h3 h2
      ·cases h
     ·cases h
     ·obtain ⟨_, ψ0, hφ, h⟩ := andP_some h hφ
      simp only [gStep] at h
      split at h
      ·obtain ⟨_, ψ, h2, h3⟩ := andP_some h hφ; exact ih _ _ _ _ h3 h2
      ·cases h
end
end Go.Aw

