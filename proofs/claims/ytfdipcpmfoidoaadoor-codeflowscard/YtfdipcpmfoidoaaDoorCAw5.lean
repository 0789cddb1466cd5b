/- A framework of the hand for programs over the model: abstract values, an interpreter, that it is sound. Own work. -/
import Derived.ChangeSame
import Derived.Handed
import Derived.JoinedOf
import Derived.Carry
import Derived.ProofKit
import Derived.OpenShut
import Derived.SizedLaws
import Derived.Test.YtfdipcpmfoidoaaDoorCAw4
/- The interpreter of functions and loops: rounds, that they are sound, and their limit. Own work. -/
namespace Go.Aw
open Go
def cxE (P : Program) (G : Nat -> AV) (n : Nat) : Cx := { P, n, w0 := default, M := fun _ => False, im0 := fun _ => False, pin := fun _ => none, G }
theorem cxE_P (P : Program) (G : Nat -> AV) (n : Nat) : (cxE P G n).P = P := rfl
theorem cxE_G (P : Program) (G : Nat -> AV) (n : Nat) : (cxE P G n).G = G := rfl
theorem cxE_n (P : Program) (G : Nat -> AV) (n : Nat) : (cxE P G n).n = n := rfl
def isArg (o : Nat) : List AV -> Bool
 | [] => false
 | x :: l => isA1 o x || isArg o l
where
 isA1 (o : Nat) : AV -> Bool
  | .sl o' _ _ => o == o'
  | _ => false
def stay (a : List AV) : HL -> List Nat
 | [] => []
 | (o, ob) :: l => if ob.box || isArg o a then o :: stay a l else stay a l
def stayA (A : An) (f : FuncId) (a : List AV) (l : HL) : List Nat := if (A.ro f || A.sty f) = true then dom l else stay a l
def rk2 (φ : Prop) (l : HL) (x : Option ((List AV × HL) × Prop)) : Option ((AV × HL) × Prop) :=
 match x with
 | some ((vals, l'), ψ) => some ((tupA vals, l'), φ /\ ψ /\ pinsC l l' (surv (dom l) l'))
 | none => none
def modeF (b : Bool) : Nat := if b = true then 1 else 0
def rk1 (A : An) (f : FuncId) (l : HL) (ps : List Nat) (H : Hp) (x : Option (List AV × Prop)) : Option ((AV × HL) × Prop) :=
 match x with
 | some (vals, φ) => rk2 φ l (canV 200000 (modeF (A.frz f)) (A.res f) ps vals H)
 | none => none
def retK (P : Program) (G : Nat -> AV) (A : An) (f : FuncId) (rs : List ResultVar) (l : HL) (ps : List Nat) (e : Exit) (s : St) : Option ((AV × HL) × Prop) :=
 match e with
 | .normal => rk1 A f l ps s.H (resAs (cxE P G 0) s rs)
 | .ret => rk1 A f l ps s.H (resAs (cxE P G 0) s rs)
 | _ => none
def psL : HL -> List Nat
 | [] => []
 | (o, _) :: l => if 100000 ≤ o then o :: psL l else psL l
def lk1 (S : Sig) (f : FuncId) (key : Nat) (x : Option ((List AV × HL) × Prop)) : Option ((Exit × List AV × HL) × Prop) :=
 match x with
 | some ((vals, l), φ) => andP φ (S.L f key vals l)
 | none => none
def lk2 (e : Exit) (x : Option ((List AV × HL) × Prop)) : Option ((Exit × List AV × HL) × Prop) :=
 match x with
 | some ((vals, l), φ) => some ((e, vals, l), φ)
 | none => none
def loopK (A : An) (S : Sig) (f : FuncId) (key : Nat) (keep : List Tmp) (ps : List Nat) (e : Exit) (s : St) : Option ((Exit × List AV × HL) × Prop) :=
 match e with
 | .normal => lk1 S f key (canV 60000 (modeL (A.frl f key)) (A.fix f key) ps (keep.map s.ρ) s.H)
 | .exit id => lk2 (.exit id) (canV 60000 (modeL (A.frl f key)) (A.fix f key) ps (keep.map s.ρ) s.H)
 | .ret => lk2 .ret (canV 60000 (modeL (A.frl f key)) (A.fix f key) ps (keep.map s.ρ) s.H)
 | _ => none
def lkR (S : Sig) (f : FuncId) (key : Nat) (rest : List AV) (x : Option ((List AV × HL) × Prop)) : Option ((Exit × List AV × HL) × Prop) :=
 match x with
 | some ((vals, l), φ) => andP φ (S.L f key (.tup rest :: vals) l)
 | none => none
def rngK (A : An) (S : Sig) (f : FuncId) (key : Nat) (keep : List Tmp) (ps : List Nat) (rest : List AV) (e : Exit) (s : St) : Option ((Exit × List AV × HL) × Prop) :=
 match e with
 | .normal => lkR S f key rest (canV 60000 (modeL (A.frl f key)) (A.fix f key) ps (keep.map s.ρ) s.H)
 | .exit id => lk2 (.exit id) (canV 60000 (modeL (A.frl f key)) (A.fix f key) ps (keep.map s.ρ) s.H)
 | .ret => lk2 .ret (canV 60000 (modeL (A.frl f key)) (A.fix f key) ps (keep.map s.ρ) s.H)
 | _ => none
def fuel : Nat := 1000000
def inOk (l : HL) : Bool := (dom l).all fun o => decide (100000 ≤ o) && decide (o < 101000)
def goF' (P : Program) (G : Nat -> AV) (A : An) (S : Sig) (f : FuncId) (a : List AV) (l : HL) (n : Nat) (c : Code) (rs : List ResultVar) : Option ((AV × HL) × Prop) :=
 if a.length ≤ n /\ inOk l = true then ex ⟨cxE P G n, S, A, f, stayA A f a l, retK P G A f rs l (stayA A f a l)⟩ fuel (.c c) [] (argsH a l) else none
def goL' (P : Program) (G : Nat -> AV) (A : An) (S : Sig) (f : FuncId) (key : Nat) (n : Nat) (b : Code) (keep : List Tmp) (vals : List AV) (l : HL) : Option ((Exit × List AV × HL) × Prop) :=
 ex ⟨cxE P G n, S, A, f, psL l, loopK A S f key keep (psL l)⟩ fuel (.c b) [] (St.mk' (keep.zip vals) l)
def asgK (P : Program) (G : Nat -> AV) (A : An) (S : Sig) (f : FuncId) (key : Nat) (n : Nat) (b : Code) (keep : List Tmp) (ps : List Nat) (rest : List AV) (e : Exit) (s : St) : Option ((Exit × List AV × HL) × Prop) :=
 match e with
 | .normal => ex ⟨cxE P G n, S, A, f, ps, rngK A S f key keep ps rest⟩ fuel (.c b) [] s
 | _ => none
def goR1 (P : Program) (G : Nat -> AV) (A : An) (S : Sig) (f : FuncId) (key : Nat) (n : Nat) (ps : List Tmp) (a b : Code) (keep : List Tmp) (rest xs vals : List AV) (l : HL) : Option ((Exit × List AV × HL) × Prop) :=
 if xs.length = ps.length then ex ⟨cxE P G n, S, A, f, psL l, asgK P G A S f key n b keep (psL l) rest⟩ fuel (.c a) [] (St.mk' (ps.zip xs ++ keep.zip vals) l) else none
def goR' (P : Program) (G : Nat -> AV) (A : An) (S : Sig) (f : FuncId) (key : Nat) (n : Nat) (ps : List Tmp) (a b : Code) (keep : List Tmp) (vals : List AV) (l : HL) : Option ((Exit × List AV × HL) × Prop) :=
 match vals with
 | .tup [] :: vals => some ((.normal, vals, l), True)
 | .tup (.tup xs :: rest) :: vals => goR1 P G A S f key n ps a b keep rest xs vals l
 | _ => none
def goB' (P : Program) (G : Nat -> AV) (A : An) (S : Sig) (f : FuncId) (key : Nat) (n : Nat) (b : Code) (keep : List Tmp) (vals : List AV) (l : HL) : Option ((Exit × List AV × HL) × Prop) :=
 match b with
 | .loop b => goL' P G A S f key n b keep vals l
 | .rangeFunc _ ps a b => goR' P G A S f key n ps.toList a b keep vals l
 | _ => none
def fchk (P : Program) (A : An) (f : FuncId) : Bool :=
 match P.funcs[f]? with
 | some fn => match fn.body with
  | some c => callable P f && codeX A f ⟨fn.ntmps, [], false⟩ c && ndN ((loopsOf c).map lkey)
  | none => false
 | none => false
def bodyF (P : Program) (A : An) (f : FuncId) : Option (Nat × Code × List ResultVar) :=
 if A.ok f = true then match P.funcs[f]? with
 | some fn => match fn.body with
  | some c => some (fn.ntmps, c, fn.results.toList)
  | none => none
 | none => none else none
def stepF (P : Program) (G : Nat -> AV) (A : An) (S : Sig) (f : FuncId) (a : List AV) (l : HL) : Option ((AV × HL) × Prop) :=
 match bodyF P A f with
 | some (n, c, rs) => goF' P G A S f a l n c rs
 | none => A.giv f a l
def bodyL (P : Program) (A : An) (f : FuncId) (key : Nat) : Option (Nat × Code × List Tmp) :=
 match bodyF P A f with
 | some (n, c, _) => match findL key (loopsOf c) with
  | some b => match A.keep f key with
   | some keep => some (n, b, keep)
   | none => none
  | none => none
 | none => none
def stepL (P : Program) (G : Nat -> AV) (A : An) (S : Sig) (f : FuncId) (key : Nat) (vals : List AV) (l : HL) : Option ((Exit × List AV × HL) × Prop) :=
 match bodyL P A f key with
 | some (n, b, keep) => goB' P G A S f key n b keep vals l
 | none => none
def evN (P : Program) (G : Nat -> AV) (A : An) : Nat -> Sig
 | 0 => ⟨fun _ _ _ => none, fun _ _ _ _ => none⟩
 | n + 1 => ⟨stepF P G A (evN P G A n), stepL P G A (evN P G A n)⟩
def SigL (P : Program) (G : Nat -> AV) (A : An) (S : Sig) : Prop :=
 ∀ f n c rs, bodyF P A f = some (n, c, rs) -> ∀ b ∈ loopsOf c, ∀ cx : Cx, cx.P = P -> cx.G = G -> cx.n = n -> CxOk cx -> codeX A f cx.nb b = true -> LoopOk S A f cx b
structure EvOk (P : Program) (G : Nat -> AV) (A : An) : Prop where
 chk : ∀ f, A.ok f = true -> fchk P A f = true
 pureG : ∀ g, (G g).pure = true \/ G g = .junk
 mixed : P.follows .mixedOrders = true
 seq : ∀ q cap xs φ, A.seq q cap = some (xs, φ) -> φ -> SeqOk P q cap xs
 giv : ∀ f a l r l' φ, A.giv f a l = some ((r, l'), φ) -> φ -> OutOk P G f a l r l'
variable {P : Program} {G : Nat -> AV} {A : An} {S : Sig}
theorem bodyF_spec {f n : Nat} {c : Code} {rs : List ResultVar} (hE : EvOk P G A) (h : bodyF P A f = some (n, c, rs)) :
  ∃ fn, P.funcs[f]? = some fn /\ fn.body = some c /\ fn.ntmps = n /\ fn.results.toList = rs /\ callable P f = true /\ codeX A f ⟨n, [], false⟩ c = true /\ ((loopsOf c).map lkey).Nodup := by
 unfold bodyF at h
 split at h
 case isFalse => cases h
 rename_i hok
 have hc := hE.chk f hok
 unfold fchk at hc
 cases hf : P.funcs[f]? with
 | none => rw [hf] at h; cases h
 | some fn =>
  rw [hf] at h hc
  simp only at h hc
  cases hb : fn.body with
  | none => rw [hb] at h; cases h
  | some c' =>
   rw [hb] at h hc
   simp only at h hc
   cases h
   simp only [Bool.and_eq_true] at hc
   exact ⟨fn, rfl, hb, rfl, rfl, hc.1.1, hc.1.2, ndN_spec hc.2⟩
theorem findL_nodup : ∀ {l : List Code} {b : Code}, (l.map lkey).Nodup -> b ∈ l -> findL (lkey b) l = some b
 | [], _, _, h => by cases h
 | c :: l, b, hn, h => by
  simp only [List.map_cons, List.nodup_cons] at hn
  simp only [findL]
  rcases List.mem_cons.1 h with rfl | h
  ·rw [if_pos rfl]
  ·rw [if_neg (fun e : lkey c = lkey b => hn.1 (by rw [e]; exact List.mem_map.2 ⟨b, h, rfl⟩))]
   exact findL_nodup hn.2 h
theorem loopsOf_sub {c b : Code} (h : b ∈ loopsOf c) : ∀ b' ∈ loopsOf b, b' ∈ loopsOf c := by
 induction c with
 | seq x y ihx ihy =>
  simp only [loopsOf, List.mem_append] at h ⊢
  exact fun b' hb' => h.elim (fun h => .inl (ihx h b' hb')) (fun h => .inr (ihy h b' hb'))
 | cond c x y ihx ihy =>
  simp only [loopsOf, List.mem_append] at h ⊢
  exact fun b' hb' => h.elim (fun h => .inl (ihx h b' hb')) (fun h => .inr (ihy h b' hb'))
 | block id c ih => exact ih h
 | scope c ih => exact ih h
 | loop c ih =>
  simp only [loopsOf, List.mem_cons] at h
  rcases h with rfl | h
  ·exact fun b' hb' => hb'
  ·exact fun b' hb' => by simp only [loopsOf, List.mem_cons]; exact .inr (ih h b' hb')
 | rangeFunc g ps x y ihx ihy =>
  simp only [loopsOf, List.mem_cons, List.mem_append] at h
  rcases h with rfl | h | h
  ·exact fun b' hb' => hb'
  ·exact fun b' hb' => by simp only [loopsOf, List.mem_cons, List.mem_append]; exact .inr (.inl (ihx h b' hb'))
  ·exact fun b' hb' => by simp only [loopsOf, List.mem_cons, List.mem_append]; exact .inr (.inr (ihy h b' hb'))
 | _ => cases h
theorem AW.monoW {cx : Cx} {c : Code} {Q Q' : Exit -> St -> Prop} {s : St} (h : AW cx c Q s) (hq : ∀ e s, Q e s -> ∃ s', Q' e s' /\ Weak cx s s') : AW cx c Q' s :=
 fun a w R => wpIn_mono (h a w R) fun e a' w' ⟨s', q, r⟩ => by
  obtain ⟨s'', h1, h2⟩ := hq e s' q
  exact ⟨s'', h1, h2 a' w' r⟩
theorem psL_spec : ∀ {l : HL}, ∀ p ∈ psL l, 100000 ≤ p
 | [], _, h => by cases h
 | (o, _) :: l, p, h => by
  simp only [psL] at h
  split at h
  ·rename_i ho
   rcases List.mem_cons.1 h with rfl | h
   ·exact ho
   ·exact psL_spec p h
  ·exact psL_spec p h
theorem stay_spec {a : List AV} : ∀ {l : HL}, ∀ p ∈ stay a l, p ∈ dom l
 | [], _, h => by cases h
 | (o, ob) :: l, p, h => by
  simp only [stay] at h
  simp only [dom, List.map_cons, List.mem_cons]
  split at h
  ·rcases List.mem_cons.1 h with rfl | h
   ·exact .inl rfl
   ·exact .inr (stay_spec p h)
  ·exact .inr (stay_spec p h)
theorem stayA_spec {A : An} {f : FuncId} {a : List AV} {l : HL} (p : Nat) (h : p ∈ stayA A f a l) : p ∈ dom l := by
 unfold stayA at h
 split at h
 ·exact h
 ·exact stay_spec p h
theorem stepL_sound (hE : EvOk P G A) (hS : SigF P G S) (hL : SigL P G A S) : SigL P G A ⟨S.F, stepL P G A S⟩ := by
 intro f n c rs hb b0 hbm cx hP hG hn hcx hcd
 obtain ⟨fn, _, _, _, _, _, _, hnd⟩ := bodyF_spec hE hb
 have hsub : ∀ {x : Code}, x ∈ loopsOf b0 -> x ∈ loopsOf c := fun h => loopsOf_sub hbm _ h
 cases b0 with
 | loop b =>
  intro keep vals l e vals' l' φ hkp h hφ
  have hbl : bodyL P A f (keyOf b) = some (n, .loop b, keep) := by
   have := findL_nodup hnd hbm
   simp only [lkey] at this
   simp only [bodyL, hb, this, hkp]
  simp only [stepL, hbl, goB', goL'] at h
  have hs := ex_sound ⟨cxE P G n, S, A, f, psL l, loopK A S f (keyOf b) keep (psL l)⟩ cx (fun _ _ => rfl) hP.symm hG.symm hcx (by rw [hP]; exact hE.mixed) (by rw [hP, hG]; exact hS) (by rw [hP]; exact hE.seq) psL_spec (e, vals', l') fuel (.c b) [] _ φ hcd rfl
   (fun b' hb' => by
    simp only [lpI, frL', List.flatMap_nil, List.append_nil] at hb'
    exact hL f n c rs hb b' (hsub (by simp only [loopsOf, List.mem_cons]; exact .inr hb')) cx hP hG hn hcx) h hφ
  refine AWl.round (hs.1.monoW fun e1 s1 ⟨ψ, hψ, hK⟩ => ?_)
  have lk : ∀ e2 : Exit, (lk2 e2 (canV 60000 (modeL (A.frl f (keyOf b))) (A.fix f (keyOf b)) (psL l) (keep.map s1.ρ) s1.H) = some ((e, vals', l'), ψ)) -> e2 = e /\ Weak cx s1 (St.mk' (keep.zip vals') l') := fun e2 h => by
   cases hcv : canV 60000 (modeL (A.frl f (keyOf b))) (A.fix f (keyOf b)) (psL l) (keep.map s1.ρ) s1.H with
   | none => rw [hcv] at h; cases h
   | some y =>
    obtain ⟨⟨v2, l2⟩, ψ2⟩ := y
    rw [hcv] at h
    cases h
    exact ⟨rfl, canV_loop hcx psL_spec hcv hψ⟩
  cases e1 with
  | normal =>
   simp only [loopK] at hK
   cases hcv : canV 60000 (modeL (A.frl f (keyOf b))) (A.fix f (keyOf b)) (psL l) (keep.map s1.ρ) s1.H with
   | none => rw [hcv] at hK; cases hK
   | some y =>
    obtain ⟨⟨v2, l2⟩, ψ2⟩ := y
    rw [hcv] at hK
    obtain ⟨h1, ψ3, h2, h3⟩ := andP_some hK hψ
    exact ⟨s1, AWl.weak (canV_loop hcx psL_spec hcv h1) (hL f n c rs hb (.loop b) hbm cx hP hG hn hcx hcd keep v2 l2 e vals' l' ψ3 hkp h3 h2), Weak.refl _ _⟩
  | exit id =>
   obtain ⟨h1, h2⟩ := lk _ hK
   exact ⟨_, ⟨h1, rfl⟩, h2⟩
  | ret =>
   obtain ⟨h1, h2⟩ := lk _ hK
   exact ⟨_, ⟨h1, rfl⟩, h2⟩
  | goto l => cases hK
  | panic ch => cases hK
  | outgrown => cases hK
 | rangeFunc g ps a b =>
  intro keep vals rest l e vals' l' φ hkp h hφ
  have hbl : bodyL P A f (keyOf (.rangeFunc g ps a b)) = some (n, .rangeFunc g ps a b, keep) := by
   have := findL_nodup hnd hbm
   simp only [lkey] at this
   simp only [bodyL, hb, this, hkp]
  simp only [stepL, hbl, goB'] at h
  generalize hkey : keyOf (.rangeFunc g ps a b) = key at h hkp
  have hLoop := fun cx hP hG hn hcx hcd => hL f n c rs hb (.rangeFunc g ps a b) hbm cx hP hG hn hcx hcd
  simp only [codeX, hkey, hkp, Option.getD_some, Bool.and_eq_true] at hcd
  cases rest with
  | nil => simp only [goR'] at h; cases h; rfl
  | cons x rest =>
   cases x with
   | tup xs =>
    simp only [goR', goR1] at h
    split at h
    case isFalse => cases h
    rename_i hlen
    rw [hP, hG, hn]
    refine ⟨xs, rfl, hlen, fun cx1 ⟨i1, i2, i3, i4, i5, i6⟩ => ?_⟩
    have hnb : ∀ cx2 : Cx, InRd P G n keep cx2 -> cx2.nb = ⟨cx.nb.n, keep, true⟩ := fun cx2 ⟨_, _, j3, j4, j5, _⟩ => by
     simp only [Cx.nb, j3, j4, j5, hn]
    have hs := ex_sound ⟨cxE P G n, S, A, f, psL l, asgK P G A S f key n b keep (psL l) rest⟩ cx1 (fun _ _ => rfl) i1.symm i2.symm i6 (by rw [i1]; exact hE.mixed) (by rw [i1, i2]; exact hS) (by rw [i1]; exact hE.seq) psL_spec (e, vals', l') fuel (.c a) [] _ φ
     (by show codeX A f cx1.nb a = true; rw [hnb cx1 ⟨i1, i2, i3, i4, i5, i6⟩]; exact hcd.1.2) rfl
     (fun b' hb' => by
      simp only [lpI, frL', List.flatMap_nil, List.append_nil] at hb'
      exact hL f n c rs hb b' (hsub (by simp only [loopsOf, List.mem_cons, List.mem_append]; exact .inr (.inl hb'))) cx1 i1 i2 i3 i6) h hφ
    refine hs.1.mono fun e1 s1 ⟨ψ, hψ, hK⟩ => ?_
    cases e1 with
    | normal =>
     refine ⟨rfl, fun cx2 hin => ?_⟩
     obtain ⟨i1, i2, i3, i4, i5, i6⟩ := hin
     have hs2 := ex_sound ⟨cxE P G n, S, A, f, psL l, rngK A S f key keep (psL l) rest⟩ cx2 (fun _ _ => rfl) i1.symm i2.symm i6 (by rw [i1]; exact hE.mixed) (by rw [i1, i2]; exact hS) (by rw [i1]; exact hE.seq) psL_spec (e, vals', l') fuel (.c b) [] _ ψ
      (by show codeX A f cx2.nb b = true; rw [hnb cx2 ⟨i1, i2, i3, i4, i5, i6⟩]; exact hcd.2) rfl
      (fun b' hb' => by
       simp only [lpI, frL', List.flatMap_nil, List.append_nil] at hb'
       exact hL f n c rs hb b' (hsub (by simp only [loopsOf, List.mem_cons, List.mem_append]; exact .inr (.inr hb'))) cx2 i1 i2 i3 i6) hK hψ
     refine hs2.1.mono fun e2 s2 ⟨ψ2, hψ2, hK2⟩ => ?_
     have lk : ∀ e2 : Exit, (lk2 e2 (canV 60000 (modeL (A.frl f key)) (A.fix f key) (psL l) (keep.map s2.ρ) s2.H) = some ((e, vals', l'), ψ2)) -> e2 = e /\ Weak cx2 s2 (St.mk' (keep.zip vals') l') := fun e2 h => by
      cases hcv : canV 60000 (modeL (A.frl f key)) (A.fix f key) (psL l) (keep.map s2.ρ) s2.H with
      | none => rw [hcv] at h; cases h
      | some y =>
       obtain ⟨⟨v2, l2⟩, ψ3⟩ := y
       rw [hcv] at h
       cases h
       exact ⟨rfl, canV_loop i6 psL_spec hcv hψ2⟩
     cases e2 with
     | normal =>
      simp only [rngK] at hK2
      cases hcv : canV 60000 (modeL (A.frl f key)) (A.fix f key) (psL l) (keep.map s2.ρ) s2.H with
      | none => rw [hcv] at hK2; cases hK2
      | some y =>
       obtain ⟨⟨v2, l2⟩, ψ3⟩ := y
       rw [hcv] at hK2
       obtain ⟨h1, ψ4, h2, h3⟩ := andP_some hK2 hψ2
       refine .inl ⟨rfl, v2, l2, canV_loop i6 psL_spec hcv h1, ?_⟩
       have := hLoop cx hP hG hn hcx (by simp only [codeX, hkey, hkp, Option.getD_some, Bool.and_eq_true]; exact hcd) keep v2 rest l2 e vals' l' ψ4 (by rw [hkey]; exact hkp) (by rw [hkey]; exact h3) h2
       rw [hP, hG, hn] at this
       exact this
     | exit id =>
      obtain ⟨h1, h2⟩ := lk _ hK2
      exact .inr ⟨h1, .inr ⟨id, rfl⟩, h2⟩
     | ret =>
      obtain ⟨h1, h2⟩ := lk _ hK2
      exact .inr ⟨h1, .inl rfl, h2⟩
     | goto l => cases hK2
     | panic ch => cases hK2
     | outgrown => cases hK2
    | exit id => cases hK
    | goto l => cases hK
    | ret => cases hK
    | panic ch => cases hK
    | outgrown => cases hK
   | _ => simp only [goR'] at h; cases h
 | _ => trivial
theorem surv_mem {d : List Nat} {l' : HL} {o : Nat} : o ∈ surv d l' ↔ o ∈ dom l' /\ o ∈ d := by simp [surv]
theorem resAs_cx {cx cx' : Cx} (hP : cx.P = cx'.P) (s : St) : ∀ l : List ResultVar, resAs cx s l = resAs cx' s l
 | [] => rfl
 | x :: l => by
  have : resA cx s x = resA cx' s x := by cases x <;> simp only [resA, hP]
  simp only [resAs, this, resAs_cx hP s l]
theorem stepF_sound (hE : EvOk P G A) (hS : SigF P G S) (hL : SigL P G A S) : SigF P G ⟨stepF P G A S, S.L⟩ := by
 intro f a l r l' φ h hφ
 simp only [stepF] at h
 cases hb : bodyF P A f with
 | none => rw [hb] at h; exact hE.giv f a l r l' φ h hφ
 | some y =>
  obtain ⟨n, c, rs⟩ := y
  rw [hb] at h
  obtain ⟨fn, hf, hbd, rfl, rfl, hcl, hcode, hnd⟩ := bodyF_spec hE hb
  simp only [goF'] at h
  split at h
  case isFalse => cases h
  rename_i hin
  obtain ⟨hlen, hin⟩ := hin
  have hdl : ∀ o ∈ dom l, 100000 ≤ o /\ o < 101000 := fun o ho => by
   have := List.all_eq_true.1 hin o ho
   simpa using this
  have hkG : ∀ o g, kill o (G g) = G g := fun o g => by
   rcases hE.pureG g with h | h
   ·exact sub_pure h
   ·rw [h]; rfl
  have hsp : ∀ o ∈ surv (dom l) l', 100000 ≤ o /\ o < 101000 := fun o ho => hdl o (surv_mem.1 ho).2
  have hcx : ∀ w κ, CxOk (cxH P G fn.ntmps w κ l (surv (dom l) l')) := fun w κ => ⟨hkG, hE.pureG⟩
  have hs : ∀ w κ, AW (cxH P G fn.ntmps w κ l (surv (dom l) l')) c (QK ⟨cxE P G fn.ntmps, S, A, f, stayA A f a l, retK P G A f fn.results.toList l (stayA A f a l)⟩ (r, l')) (argsH a l) := fun w κ =>
   (ex_sound ⟨cxE P G fn.ntmps, S, A, f, stayA A f a l, retK P G A f fn.results.toList l (stayA A f a l)⟩ (cxH P G fn.ntmps w κ l (surv (dom l) l')) (fun _ _ => rfl) rfl rfl (hcx w κ) hE.mixed hS hE.seq (fun p hp => (hdl p (stayA_spec p hp)).1) (r, l') fuel (.c c) [] _ φ hcode rfl
    (fun b' hb' => by
     simp only [lpI, frL', List.flatMap_nil, List.append_nil] at hb'
     exact hL f _ c _ hb b' hb' _ rfl rfl rfl (hcx w κ)) h hφ).1
  -- what the last state says
  have last : ∀ (w : World) (κ : Kz) (s' : St) (a' : Act) (w' : World) (ψ : Prop), ψ -> rk1 A f l (stayA A f a l) s'.H (resAs (cxE P G 0) s' fn.results.toList) = some ((r, l'), ψ) -> Rel (cxH P G fn.ntmps w κ l (surv (dom l) l')) s' a' w' ->
    ∃ (us : List Value) (κ' : Kz) (vals' : List AV), (fn.results.toList.mapM fun x => (match x with | .tmp t => pure (a'.tmps.getD t undef) | .cell a0 t => do loadVar t (<- asAddr (a'.tmps.getD a0 undef)) : Sem Value)).run P w' = .ok us w' /\ us.length = vals'.length /\ r = tupA vals' /\
     RelK { cxH P G fn.ntmps w κ l (surv (dom l) l') with n := us.toArray.size, fzl := [] } κ' ⟨fun t => vals'.getD t .junk, hp l'⟩ { a' with tmps := us.toArray } w' /\
     vals'.all (·.refs (dom l').contains) = true /\ closedL l' = true := fun w κ s' a' w' ψ hψ h R => by
   have hrc : resAs (cxE P G 0) s' fn.results.toList = resAs (cxH P G fn.ntmps w κ l (surv (dom l) l')) s' fn.results.toList := @resAs_cx (cxE P G 0) (cxH P G fn.ntmps w κ l (surv (dom l) l')) rfl _ _
   rw [hrc] at h
   cases hres : resAs (cxH P G fn.ntmps w κ l (surv (dom l) l')) s' fn.results.toList with
   | none => rw [hres] at h; cases h
   | some y =>
    obtain ⟨vals, φ1⟩ := y
    rw [hres] at h
    simp only [rk1] at h
    cases hcv : canV 200000 (modeF (A.frz f)) (A.res f) (stayA A f a l) vals s'.H with
    | none => rw [hcv] at h; cases h
    | some z =>
     obtain ⟨⟨vals', l2⟩, ψ2⟩ := z
     rw [hcv] at h
     cases h
     obtain ⟨h1, h2, h3⟩ := hψ
     obtain ⟨κ1, R1⟩ := R
     obtain ⟨us, g1, g2, g3⟩ := resAs_sound R1 hres h1
     have R2 := R1.args (av := vals) (vs := us.toArray) (by simpa using g2) (fun i x v hx hv => g3 i x v hx (by simpa using hv))
     obtain ⟨⟨κ', R3⟩, k1, k2, k3, k4, k5⟩ := canV_sound (cx := { cxH P G fn.ntmps w κ l (surv (dom l) l') with n := us.toArray.size, fzl := [] }) ⟨hkG, hE.pureG⟩ hcv h2 (fun p hp => by have := (hdl p (stayA_spec p hp)).2; omega) (fun o ho _ => by
      show (if (surv (dom l) l').contains o then κ.μ o else none) = none
      rw [if_neg]
      intro hc
      have := (hsp o (List.contains_iff_mem.1 hc)).2
      omega) R2
     exact ⟨us, κ', vals', g1, by omega, rfl, R3, k3, k2⟩
  have hcr : ∀ vals' : List AV, vals'.all (·.refs (dom l').contains) = true -> (tupA vals').refs (dom l').contains = true := fun vals' h => by
   match vals', h with
   | [], _ => rfl
   | [x], h => simpa [tupA] using h
   | x :: y :: z, h =>
    show AV.refs.refsl _ _ = true
    exact refsl_iff.2 (List.all_eq_true.1 h)
  obtain ⟨e0, s0, ψ0, hψ0, hK0⟩ := ex_leaf _ _ _ _ _ _ _ h hφ
  have form : ∀ (s' : St) (ψ : Prop), ψ -> rk1 A f l (stayA A f a l) s'.H (resAs (cxE P G 0) s' fn.results.toList) = some ((r, l'), ψ) ->
    (dom l').Nodup /\ closedL l' = true /\ r.refs (dom l').contains = true /\ pinsC l l' (surv (dom l) l') /\ ∀ o ∈ dom l', o ∈ dom l \/ 200000 ≤ o := fun s' ψ hψ h => by
   cases hres : resAs (cxE P G 0) s' fn.results.toList with
   | none => rw [hres] at h; cases h
   | some y =>
    obtain ⟨vals, φ1⟩ := y
    rw [hres] at h
    simp only [rk1] at h
    cases hcv : canV 200000 (modeF (A.frz f)) (A.res f) (stayA A f a l) vals s'.H with
    | none => rw [hcv] at h; cases h
    | some z =>
     obtain ⟨⟨vals', l2⟩, ψ2⟩ := z
     rw [hcv] at h
     cases h
     obtain ⟨h1, h2, h3⟩ := hψ
     obtain ⟨k1, k2, k3, k5⟩ := canV_form hcv h2 (fun p hp => by have := (hdl p (stayA_spec p hp)).2; omega)
     exact ⟨k1, k2, hcr _ k3, h3, fun o ho => (k5 o ho).elim (fun h => .inl (stayA_spec o h)) (fun h => .inr h.1)⟩
  have form0 : (dom l').Nodup /\ closedL l' = true /\ r.refs (dom l').contains = true /\ pinsC l l' (surv (dom l) l') /\ ∀ o ∈ dom l', o ∈ dom l \/ 200000 ≤ o := by
   cases e0 with
   | normal => exact form _ _ hψ0 hK0
   | ret => exact form _ _ hψ0 hK0
   | exit id => cases hK0
   | goto l => cases hK0
   | panic ch => cases hK0
   | outgrown => cases hK0
  obtain ⟨f1, f2, f3, f4, f5⟩ := form0
  have hall : ∀ {ps : List Nat}, pinsC l l' ps -> ∀ o ∈ ps, shapeC (hp l o) (hp l' o) := fun {ps} => by
   induction ps with
   | nil => intro _ o ho; cases ho
   | cons p ps ih =>
    intro hh o ho
    rcases List.mem_cons.1 ho with rfl | ho
    ·exact hh.1
    ·exact ih hh.2 o ho
  refine ⟨⟨fun as w => callable_spec hcl as w, fun w κ vs him hglob hvs hargs hrep hap => ?_⟩, f1, f3, f2, hall f4, f5⟩
  refine callsIn_wide.1 (callsIn_of_wp_marks (n := 0) hf hbd trivial ?_ rfl)
  have hGl : ∀ g, RV κ (hp l) w (G g) (.pointer (some ⟨g, 0, none⟩)) := fun g => by
   rcases hE.pureG g with h | h
   ·exact RV.mono (κ := ⟨noμ, κ.im⟩) (κ' := κ) (H := noH) (fun _ h => h) (fun _ _ => rfl) (fun o ob h => by cases h) (hglob g)
   ·rw [h]; exact .junk _
  have hrel : RelK (cxH P G fn.ntmps w κ l (surv (dom l) l')) κ (argsH a l) { tmps := vs ++ Array.replicate (fn.ntmps - vs.size) undef, defers := [] } w := by
   refine ⟨hrep, hap, fun t => ?_, by simp [cxH]; omega, ⟨trivial, fun t h => by simp [cxH] at h⟩, rfl, rfl, rfl, Nat.le_refl _, fun _ _ _ => rfl, fun o ob x h hx => .inl ⟨o, ob, x, h, hx, rfl⟩, fun _ h => h, him, fun b h => .inl h,
    fun o ob x h _ => ?_, fun o x h => ?_, hGl⟩
   ·simp only [argsH, List.getD_eq_getElem?_getD]
    by_cases ht : t < a.length
    ·have h1 := List.getElem?_eq_getElem ht
     have h2 : t < vs.size := by omega
     rw [h1]
     simp only [Option.getD_some, Array.getD_eq_getD_getElem?]
     rw [Array.getElem?_append_left h2, Array.getElem?_eq_getElem h2]
     exact hargs t _ _ h1 (Array.getElem?_eq_getElem h2)
    ·rw [List.getElem?_eq_none (by omega)]
     exact .junk _
   ·simp only [cxH] at h
    split at h
    ·exact h
    ·cases h
   ·simp only [cxH] at h
    split at h
    ·rename_i hc; exact (hsp o (by simpa using hc)).1
    ·cases h
  refine wpIn_mono (F := Fence.wide) (hs w κ _ w ⟨κ, hrel⟩) fun e a' w' ⟨s', ⟨ψ, hψ, hK⟩, R⟩ => ?_
  have fin0 : rk1 A f l (stayA A f a l) s'.H (resAs (cxE P G 0) s' fn.results.toList) = some ((r, l'), ψ) -> ∀ a' w', Rel (cxH P G fn.ntmps w κ l (surv (dom l) l')) s' a' w' ->
    ∃ v, (results fn a'.tmps).run P w' = .ok v w' /\ ∃ (u : Value) (κ' : Kz), Ending.returned v = .returned u /\ (∀ b, κ.im b -> κ'.im b) /\ (∀ b, κ'.im b -> κ.im b \/ Own κ l b \/ w.heap.size ≤ b) /\ (∀ b, κ'.im b -> b < w'.heap.size) /\
    RV κ' (hp l') w' r u /\ w'.os = w.os /\ w'.tape = w.tape /\ w'.output = w.output /\ w.heap.size ≤ w'.heap.size /\ (∀ b, b < w.heap.size -> ¬ Own κ l b -> w'.heap[b]? = w.heap[b]?) /\
    (∀ o ob, hp l' o = some ob -> ObRep κ' (hp l') w' o ob) /\ Apart κ' l' /\ (∀ o ob x, hp l' o = some ob -> κ'.μ o = some x -> Own κ l x.1 \/ w.heap.size ≤ x.1) /\
    (∀ o ob x, (surv (dom l) l').contains o = true -> hp l' o = some ob -> κ.μ o = some x -> κ'.μ o = some x) := fun hK a' w' R => by
   obtain ⟨us, κ', vals', g1, g2, rfl, R', hrf, _⟩ := last w κ s' a' w' ψ hψ hK R
   have g3 : ∀ (i : Nat) (x : AV) (u : Value), vals'[i]? = some x -> us[i]? = some u -> RV κ' (hp l') w' x u := fun i x u hx hu => by
    have h3 := R'.env i
    have e2 : us.toArray.getD i undef = u := by rw [Array.getD_eq_getD_getElem?, List.getElem?_toArray, hu]; rfl
    have e1 : (fun t => vals'.getD t AV.junk) i = x := by show vals'.getD i AV.junk = x; rw [List.getD_eq_getElem?_getD, hx]; rfl
    rw [<- e1, <- e2]
    exact h3
   refine ⟨if h : us.toArray.size = 1 then us.toArray[0] else .tuple us.toArray, ?_, _, κ', rfl, R'.im0, R'.imnew, R'.imlt, ?_, R'.os, R'.tape, R'.output, R'.le, R'.block, R'.rep,
    R'.inj, R'.own, fun o ob x hp' h hx => R'.pin o ob x (by show (if _ then _ else _) = _; rw [if_pos hp']; exact hx) h⟩
   ·have : fn.results = fn.results.toList.toArray := (Array.toArray_toList).symm
    unfold results
    rw [this, List.mapM_toArray]
    simp only [Sem.run_bind, Sem.run_map]
    erw [g1]
    rfl
   ·by_cases h1 : us.length = 1
    ·match us, vals', g2, h1 with
     | [u], [x], _, _ => exact g3 0 x u rfl rfl
    ·rw [dif_neg (by simpa using h1)]
     have : tupA vals' = .tup vals' := by
      match vals', us, g2 with
      | [], _, _ => rfl
      | [x], [u], _ => exact absurd rfl h1
      | x :: y :: l, _, _ => rfl
     rw [this]
     exact .tup vals' _ (by simpa using g2) (fun i x v hx hv => g3 i x v hx (by simpa using hv))
  obtain ⟨κ1, R1⟩ := R
  cases e with
  | normal => exact leavesD _ a' w' rfl R1 fun a2 w2 R2 _ => fin0 hK a2 w2 ⟨κ1, R2⟩
  | ret => exact leavesD _ a' w' rfl R1 fun a2 w2 R2 _ => fin0 hK a2 w2 ⟨κ1, R2⟩
  | exit id => cases hK
  | goto l => cases hK
  | panic ch => cases hK
  | outgrown => cases hK
theorem evN_sound (hE : EvOk P G A) : ∀ n, SigF P G (evN P G A n) /\ SigL P G A (evN P G A n)
 | 0 => ⟨fun _ _ _ _ _ _ h => (by cases h), fun f n c rs hb b hbm cx hP hG hn hcx hcd => by
   cases b with
   | loop b => intro _ _ _ _ _ _ _ _ h; cases h
   | rangeFunc g ps a b => intro _ _ _ _ _ _ _ _ _ h; cases h
   | _ => trivial⟩
 | n + 1 => by
  obtain ⟨h1, h2⟩ := evN_sound hE n
  exact ⟨stepF_sound hE h1 h2, stepL_sound hE h1 h2⟩
end Go.Aw

/- The limit of the interpreter's rounds. Own work. -/
namespace Go.Aw
open Go
set_option linter.unusedVariables false
structure SLe (S S' : Sig) : Prop where
 F : ∀ f a l r, S.F f a l = some r -> S'.F f a l = some r
 L : ∀ f k a l r, S.L f k a l = some r -> S'.L f k a l = some r
theorem SLe.refl (S : Sig) : SLe S S := ⟨fun _ _ _ _ h => h, fun _ _ _ _ _ h => h⟩
theorem SLe.trans {S S' S'' : Sig} (h : SLe S S') (h' : SLe S' S'') : SLe S S'' := ⟨fun f a l r e => h'.F _ _ _ _ (h.F _ _ _ _ e), fun f k a l r e => h'.L _ _ _ _ _ (h.L _ _ _ _ _ e)⟩
structure Lim (C : Nat -> Sig) (S : Sig) : Prop where
 F : ∀ f a l r, S.F f a l = some r -> ∃ n, (C n).F f a l = some r
 L : ∀ f k a l r, S.L f k a l = some r -> ∃ n, (C n).L f k a l = some r
def Chain (C : Nat -> Sig) : Prop := ∀ n, SLe (C n) (C (n + 1))
theorem Chain.le {C : Nat -> Sig} (h : Chain C) {n m : Nat} (hnm : n ≤ m) : SLe (C n) (C m) := by
 induction m with
 | zero => cases Nat.le_zero.1 hnm; exact SLe.refl _
 | succ m ih =>
  rcases Nat.lt_or_ge n (m + 1) with h1 | h1
  ·exact (ih (by omega)).trans (h m)
  ·have : n = m + 1 := by omega
   subst this; exact SLe.refl _
structure Ct {α : Type} (u : Sig -> Option α) : Prop where
 mono : ∀ S S', SLe S S' -> ∀ r, u S = some r -> u S' = some r
 cont : ∀ C, Chain C -> ∀ S, Lim C S -> ∀ r, u S = some r -> ∃ n, u (C n) = some r
variable {α β R : Type}
theorem Ct.const (x : Option α) : Ct (fun _ => x) := ⟨fun _ _ _ _ h => h, fun _ _ _ _ _ h => ⟨0, h⟩⟩
theorem Ct.bind {u : Sig -> Option α} {v : Sig -> α -> Option β} (hu : Ct u) (hv : ∀ a, Ct (fun S => v S a)) : Ct (fun S => (u S).bind (v S)) where
 mono S S' h r e := by
  obtain ⟨a, h1, h2⟩ := Option.bind_eq_some_iff.1 e
  exact Option.bind_eq_some_iff.2 ⟨a, hu.mono S S' h a h1, (hv a).mono S S' h r h2⟩
 cont C hC S hS r e := by
  obtain ⟨a, h1, h2⟩ := Option.bind_eq_some_iff.1 e
  obtain ⟨n, k1⟩ := hu.cont C hC S hS a h1
  obtain ⟨m, k2⟩ := (hv a).cont C hC S hS r h2
  refine ⟨max n m, Option.bind_eq_some_iff.2 ⟨a, hu.mono _ _ (hC.le (Nat.le_max_left n m)) a k1, (hv a).mono _ _ (hC.le (Nat.le_max_right n m)) r k2⟩⟩
theorem Ct.ite {p : Prop} [Decidable p] {u v : Sig -> Option α} (hu : Ct u) (hv : Ct v) : Ct (fun S => if p then u S else v S) := by
 by_cases h : p
 ·simpa [h] using hu
 ·simpa [h] using hv
theorem Ct.F (f : FuncId) (a : List AV) (l : HL) : Ct (fun S => S.F f a l) := ⟨fun _ _ h r e => h.F _ _ _ _ e, fun _ _ _ h r e => h.F _ _ _ _ e⟩
theorem Ct.L (f : FuncId) (k : Nat) (a : List AV) (l : HL) : Ct (fun S => S.L f k a l) := ⟨fun _ _ h r e => h.L _ _ _ _ _ e, fun _ _ _ h r e => h.L _ _ _ _ _ e⟩
theorem Ct.congr {u v : Sig -> Option α} (h : ∀ S, u S = v S) (hv : Ct v) : Ct u := by
 have : u = v := funext h
 rw [this]; exact hv
theorem Ct.andP {φ : Prop} {u : Sig -> Option (R × Prop)} (hu : Ct u) : Ct (fun S => andP φ (u S)) :=
 Ct.congr (v := fun S => (u S).bind fun p => some (p.1, φ /\ p.2)) (fun S => by cases u S <;> rfl) (hu.bind fun _ => Ct.const _)
theorem Ct.bothP {u v : Sig -> Option (R × Prop)} (hu : Ct u) (hv : Ct v) : Ct (fun S => bothP (u S) (v S)) :=
 Ct.congr (v := fun S => (u S).bind fun p => (v S).bind fun q => some (p.1, p.2 /\ q.2 /\ p.1 = q.1)) (fun S => by
  cases h : u S with
  | none => rfl
  | some p => cases h' : v S <;> rfl) (hu.bind fun _ => hv.bind fun _ => Ct.const _)
theorem brwK_ct (H : Hp) (k : FuncId) (av : List AV) : Ct (fun S => brwK S H k av) := by
 unfold brwK
 cases reach 500 H (AV.rl.rls av) [] with
 | none => exact Ct.const none
 | some seen =>
  simp only [brwS]
  cases frzL seen.reverse av H with
  | none => exact Ct.const none
  | some x =>
   obtain ⟨av', φ⟩ := x
   refine Ct.congr (v := fun S => (S.F k (av'.map telE) []).bind fun p => if (AV.pure.pures (av'.map telE) && p.1.1.flat) = true then some (p.1.1, φ /\ p.2) else none) (fun S => ?_) ((Ct.F _ _ _).bind fun _ => Ct.const _)
   simp only [brwF, brwR]
   cases S.F k (av'.map telE) [] with
   | none => rfl
   | some p => rfl
theorem hoK_ct (H : Hp) (d : Nat) (k : FuncId) (av : List AV) : Ct (fun S => hoK S H d k av) := by
 unfold hoK
 cases reach 500 H (AV.rl.rls av) [] with
 | none => exact Ct.const none
 | some seen =>
  refine Ct.congr (v := fun S => (S.F k (av.map (ren (tau (nums 100000 seen)))) (obsOf H (nums 100000 seen) seen)).bind fun p => some (mkHO av seen H d p.1.1 p.1.2, p.2 /\ seen.length < 1000 /\ freE H (frN ((nums 100000 seen).map (·.2)) (50000 + 50 * d) p.1.2))) (fun S => ?_) ((Ct.F _ _ _).bind fun _ => Ct.const _)
  simp only [hoS]
  cases S.F k (av.map (ren (tau (nums 100000 seen)))) (obsOf H (nums 100000 seen) seen) <;> rfl
theorem qR_ct (A : An) (H : Hp) (d : Nat) (k : FuncId) (av : List AV) : Ct (fun S => qR S A H d k av) := by
 unfold qR
 refine Ct.ite ?_ (Ct.ite (brwK_ct _ _ _) ?_)
 ·refine Ct.congr (v := fun S => (S.F k av []).bind fun p => pcQ (AV.pure.pures av) (some p)) (fun S => ?_) ((Ct.F _ _ _).bind fun _ => Ct.const _)
  simp only [pcR]
  cases S.F k av [] <;> rfl
 ·unfold roK
  cases reach 500 H (AV.rl.rls av) [] with
  | none => exact Ct.const none
  | some seen =>
   refine Ct.congr (v := fun S => (S.F k (av.map (ren (tau (nums 100000 seen)))) (obsOf H (nums 100000 seen) seen)).bind fun p => roR H d seen (some p)) (fun S => ?_) ((Ct.F _ _ _).bind fun _ => Ct.const _)
   simp only [roS]
   cases S.F k (av.map (ren (tau (nums 100000 seen)))) (obsOf H (nums 100000 seen) seen) <;> rfl
theorem stepX_ct (cx : Cx) (A : An) (fr : Option (List Nat)) (ds : List (Option Tmp)) (o : Oper) (s : St) : Ct (fun S => stepX cx S A fr ds o s) := by
 cases hcv : isCV o with
 | false => exact Ct.congr (fun S => stepX_no hcv) (Ct.const _)
 | true =>
  cases hpc : qId A o with
  | some k =>
   obtain ⟨cl, h1, h2, _⟩ := qId_spec hpc
   refine Ct.congr (fun S => stepX_q h1 h2 hpc) ?_
   cases gcond ds s.ρ o.guard with
   | none => exact Ct.const none
   | some c =>
    cases c with
    | false => exact Ct.const _
    | true =>
     refine Ct.congr (v := fun S => (qR S A s.H (o.dst.getD 0) k (avOf cx s [] [] cl)).bind fun p => stP cx o cl k s (some p)) (fun S => ?_) ((qR_ct _ _ _ _ _).bind fun _ => Ct.const _)
     simp only
     cases qR S A s.H (o.dst.getD 0) k (avOf cx s [] [] cl) <;> rfl
  | none =>
  obtain ⟨cl, f, h1, h2⟩ := isCV_spec hcv
  refine Ct.congr (fun S => stepX_cv h1 h2 hpc) ?_
  cases gcond ds s.ρ o.guard with
  | none => exact Ct.const none
  | some c =>
   cases c with
   | false => exact Ct.const (stNo cx fr o s)
   | true =>
    simp only
    generalize stripV (aev cx s.ρ f) = v
    cases v with
    | fn g first cap =>
     cases g with
     | func k =>
      simp only [stCall]
      refine Ct.ite ?_ ?_
      ·exact Ct.congr (v := fun S => (brwK S s.H k (avOf cx s first cap cl)).bind fun p => stB cx o cl f s (some p)) (fun S => by cases brwK S s.H k (avOf cx s first cap cl) <;> rfl) ((brwK_ct _ _ _).bind fun _ => Ct.const _)
      ·exact Ct.congr (v := fun S => (hoK S s.H (o.dst.getD 0) k (avOf cx s first cap cl)).bind fun p => stH cx fr o cl f s (some p)) (fun S => by cases hoK S s.H (o.dst.getD 0) k (avOf cx s first cap cl) <;> rfl) ((hoK_ct _ _ _ _).bind fun _ => Ct.const _)
     | _ => exact Ct.const none
    | _ => exact Ct.const none
theorem stepN_ct (cx : Cx) (A : An) (fr : Option (List Nat)) (ds : List (Option Tmp)) (o : Oper) (s : St) : Ct (fun S => stepN cx S A fr ds o s) := by
 unfold stepN
 split
 ·exact stepX_ct cx A fr ds o s
 ·exact Ct.const none
structure XeS (R : Type) where
 cx : Cx
 A : An
 f : FuncId
 ps : List Nat
 K : Sig -> Exit -> St -> Option (R × Prop)
def XeS.at (x : XeS R) (S : Sig) : Xe R := ⟨x.cx, S, x.A, x.f, x.ps, x.K S⟩
theorem ex_ct (x : XeS R) (hK : ∀ e s, Ct (fun S => x.K S e s)) : ∀ (n : Nat) (it : It) (k : List Fr) (s : St), Ct (fun S => ex (x.at S) n it k s) := by
 intro n
 induction n with
 | zero => intro it k s; exact Ct.const none
 | succ n ih =>
  have ge : ∀ (id : Nat) (s : St) (u : Option (List Fr)), Ct (fun S => gExit (x.at S) (ex (x.at S) n) id s u) := fun id s u => by
   cases u with
   | some k' => exact ih _ _ _
   | none => exact hK _ _
  intro it k s
  cases it with
  | c c =>
   cases c with
   | skip =>
    cases k with
    | nil => exact hK _ _
    | cons f k => cases f with
     | code y => exact ih _ _ _
     | blk i => exact ih _ _ _
   | label l => exact ih _ _ _
   | exit id => exact ge _ _ _
   | ret => exact hK _ _
   | seq a b => exact ih _ _ _
   | block id c => exact ih _ _ _
   | cond c a b => cases c with
    | tmp t =>
     show Ct (fun S => gCond (ex (x.at S) n) a b k s (s.ρ t))
     generalize s.ρ t = v
     cases v with
     | bool v => exact Ct.ite (ih _ _ _) (ih _ _ _)
     | _ => exact Ct.const none
    | const v =>
     cases v with
     | bool v => exact Ct.ite (ih _ _ _) (ih _ _ _)
     | _ => exact Ct.const none
    | global g => exact Ct.const none
    | func f => exact Ct.const none
   | region id ops draw =>
    show Ct (fun S => gFz (gReg (x.at S) (ex (x.at S) n) id ops draw k) (fzT (x.A.fzr x.f id) s))
    cases fzT (x.A.fzr x.f id) s with
    | none => exact Ct.const none
    | some y =>
    obtain ⟨s0, φ0⟩ := y
    show Ct (fun S => andP φ0 (gReg (x.at S) (ex (x.at S) n) id ops draw k s0))
    refine Ct.andP ?_
    generalize s0 = s
    show Ct (fun S => match x.A.cp x.f id with
     | true => gCp (ex (x.at S) n) k (srunG (stepC x.cx (ops.toList.map (·.dst))) ops.toList s)
     | false => match draw with
      | false => ex (x.at S) n (.o none ops.toList ops.toList) k s
      | true => gDr (x.A.ord x.f id) (ex (x.at S) n) ops.toList k s (x.A.dr x.f id))
    cases x.A.cp x.f id with
    | true =>
     show Ct (fun S => gCp (ex (x.at S) n) k (srunG (stepC x.cx (ops.toList.map (·.dst))) ops.toList s))
     cases srunG (stepC x.cx (ops.toList.map (·.dst))) ops.toList s with
     | none => exact Ct.const none
     | some y => obtain ⟨s1, φ⟩ := y; exact (ih _ _ _).andP
    | false =>
    cases draw with
    | false => exact ih _ _ _
    | true =>
     show Ct (fun S => gDr (x.A.ord x.f id) (ex (x.at S) n) ops.toList k s (x.A.dr x.f id))
     cases x.A.dr x.f id with
     | none => exact Ct.const none
     | some d =>
      obtain ⟨fr, wm, ts, bl⟩ := d
      show Ct (fun S => gOT (ex (x.at S) n) ops.toList k (blank bl s) (wX wm ts s ++ fr) (x.A.ord x.f id))
      generalize x.A.ord x.f id = t
      induction t with
      | prog => exact ih _ _ _
      | leaf is => exact ih _ _ _
      | node i j a b iha ihb => exact iha.bothP ihb
   | loop b =>
    show Ct (fun S => gLoop (x.at S) (ex (x.at S) n) (keyOf b) k s (x.A.keep x.f (keyOf b)))
    cases x.A.keep x.f (keyOf b) with
    | none => exact Ct.const none
    | some keep =>
     show Ct (fun S => gL1 (x.at S) (ex (x.at S) n) (keyOf b) k keep (canV 60000 (modeL (x.A.frl x.f (keyOf b))) (x.A.fix x.f (keyOf b)) x.ps (keep.map s.ρ) s.H))
     cases canV 60000 (modeL (x.A.frl x.f (keyOf b))) (x.A.fix x.f (keyOf b)) x.ps (keep.map s.ρ) s.H with
     | none => exact Ct.const none
     | some y =>
      obtain ⟨⟨vals, l⟩, φ⟩ := y
      refine Ct.congr (v := fun S => (S.L x.f (keyOf b) vals l).bind fun p => gL2 (x.at S) (ex (x.at S) n) k keep φ (some p)) (fun S => ?_) ((Ct.L _ _ _ _).bind fun p => ?_)
      ·show gL2 (x.at S) (ex (x.at S) n) k keep φ (S.L x.f (keyOf b) vals l) = _
       cases S.L x.f (keyOf b) vals l <;> rfl
      ·obtain ⟨⟨e, vals', l'⟩, ψ⟩ := p
       cases e with
       | exit id => exact (ge _ _ _).andP
       | ret => exact (hK _ _).andP
       | _ => exact Ct.const none
   | rangeFunc g p ca cb =>
    show Ct (fun S => gRange (x.at S) (ex (x.at S) n) (keyOf (.rangeFunc g p ca cb)) k g s (x.A.keep x.f (keyOf (.rangeFunc g p ca cb))))
    generalize keyOf (.rangeFunc g p ca cb) = key
    cases x.A.keep x.f key with
    | none => exact Ct.const none
    | some keep =>
     show Ct (fun S => gR1 (x.at S) (ex (x.at S) n) key k keep g (frzR s (reach 500 s.H (AV.rl.rls [stripV (aev x.cx s.ρ g)]) [])))
     cases frzR s (reach 500 s.H (AV.rl.rls [stripV (aev x.cx s.ρ g)]) []) with
     | none => exact Ct.const none
     | some y =>
      obtain ⟨s1, φ1⟩ := y
      show Ct (fun S => andP (φ1 /\ allB x.cx s1.ρ [g] = true) (gR2 (x.at S) (ex (x.at S) n) key k keep s1 (stripV (aev x.cx s1.ρ g))))
      refine Ct.andP ?_
      generalize stripV (aev x.cx s1.ρ g) = v
      by_cases hv : ∃ q cap, v = .fn (.func q) [] cap
      ·obtain ⟨q, cap, rfl⟩ := hv
       refine Ct.ite ?_ (Ct.const none)
       show Ct (fun S => gR3 (x.at S) (ex (x.at S) n) key k keep s1 (x.A.seq q cap))
       cases x.A.seq q cap with
       | none => exact Ct.const none
       | some y =>
        obtain ⟨xs, φ2⟩ := y
        show Ct (fun S => andP φ2 (gR4 (x.at S) (ex (x.at S) n) key k keep xs (canV 60000 (modeL (x.A.frl x.f key)) (x.A.fix x.f key) x.ps (keep.map s1.ρ) s1.H)))
        refine Ct.andP ?_
        cases canV 60000 (modeL (x.A.frl x.f key)) (x.A.fix x.f key) x.ps (keep.map s1.ρ) s1.H with
        | none => exact Ct.const none
        | some y =>
         obtain ⟨⟨vals, l⟩, φ⟩ := y
         refine Ct.congr (v := fun S => (S.L x.f key (.tup xs :: vals) l).bind fun p => gR5 (x.at S) (ex (x.at S) n) k keep φ (some p)) (fun S => ?_) ((Ct.L _ _ _ _).bind fun p => ?_)
         ·show gR5 (x.at S) (ex (x.at S) n) k keep φ (S.L x.f key (.tup xs :: vals) l) = _
          cases S.L x.f key (.tup xs :: vals) l <;> rfl
         ·obtain ⟨⟨e, vals', l'⟩, ψ⟩ := p
          cases e with
          | normal => exact (ih _ _ _).andP
          | exit id => exact (ge _ _ _).andP
          | ret => exact (hK _ _).andP
          | _ => exact Ct.const none
      ·refine Ct.congr (v := fun _ => none) (fun S => ?_) (Ct.const none)
       unfold gR2
       split
       ·exact absurd ⟨_, _, rfl⟩ hv
       ·rfl
   | scope c => exact ih _ _ _
   | goto l => exact Ct.const none
   | refuse w => exact Ct.const none
  | o fr os l =>
   cases l with
   | nil => exact ih _ _ _
   | cons o l =>
    show Ct (fun S => gLd (x.at S) (ex (x.at S) n) fr os l k o s (glX (x.A.lz x.f) fr os o s))
    cases glX (x.A.lz x.f) fr os o s with
    | true =>
     show Ct (fun S => ex (x.at S) n (.o none os l) k (putv s o.dst (.gd false (noV x.cx.P o.type))))
     exact ih _ _ _
    | false =>
    show Ct (fun S => gOp (x.at S) (ex (x.at S) n) fr os l k o s (nilX x.cx fr o s))
    cases nilX x.cx fr o s with
    | some q =>
     obtain ⟨neg, m⟩ := q
     show Ct (fun S => andP (allB x.cx s.ρ (opnds o.op) = true) (if m = 0 then bothP (ex (x.at S) n (.o none os l) k (putv s o.dst (.bool (!neg)))) (ex (x.at S) n (.o none os l) k (putv s o.dst (.bool neg))) else ex (x.at S) n (.o none os l) k (putv s o.dst (.bool neg))))
     exact (Ct.ite ((ih _ _ _).bothP (ih _ _ _)) (ih _ _ _)).andP
    | none =>
     have one : ∀ s : St, Ct (fun S => gStep (ex (x.at S) n) fr os l k (stepN x.cx S x.A fr (os.map (·.dst)) o s)) := fun s => by
      refine Ct.congr (v := fun S => (stepN x.cx S x.A fr (os.map (·.dst)) o s).bind fun p => andP p.2 (ex (x.at S) n (.o fr os l) k p.1)) (fun S => ?_) ((stepN_ct _ _ _ _ _ _).bind fun p => (ih _ _ _).andP)
      cases stepN x.cx S x.A fr (os.map (·.dst)) o s <;> rfl
     show Ct (fun S => gPre (x.at S) (ex (x.at S) n) fr os l k o s (preX x.cx x.A fr o s))
     cases preX x.cx x.A fr o s with
     | none => exact one s
     | some p => cases p with
      | none => exact Ct.const none
      | some p => obtain ⟨s1, φ⟩ := p; exact (one s1).andP
variable {P : Program} {G : Nat -> AV} {A : An}
theorem stepF_ct (f : FuncId) (a : List AV) (l : HL) : Ct (fun S => stepF P G A S f a l) := by
 unfold stepF
 cases bodyF P A f with
 | none => exact Ct.const (A.giv f a l)
 | some y =>
  obtain ⟨n, c, rs⟩ := y
  show Ct (fun S => goF' P G A S f a l n c rs)
  unfold goF'
  refine Ct.ite (p := a.length ≤ n /\ inOk l = true) ?_ (Ct.const none)
  exact ex_ct ⟨cxE P G n, A, f, stayA A f a l, fun _ => retK P G A f rs l (stayA A f a l)⟩ (fun _ _ => Ct.const _) _ _ _ _
theorem loopK_ct (f : FuncId) (key : Nat) (keep : List Tmp) (ps : List Nat) (e : Exit) (s : St) : Ct (fun S => loopK A S f key keep ps e s) := by
 cases e with
 | normal =>
  simp only [loopK]
  cases canV 60000 (modeL (A.frl f key)) (A.fix f key) ps (keep.map s.ρ) s.H with
  | none => exact Ct.const none
  | some y => obtain ⟨⟨vals, l⟩, φ⟩ := y; exact (Ct.L _ _ _ _).andP
 | _ => exact Ct.const _
theorem stepL_ct (f : FuncId) (key : Nat) (a : List AV) (l : HL) : Ct (fun S => stepL P G A S f key a l) := by
 unfold stepL
 cases bodyL P A f key with
 | none => exact Ct.const none
 | some y =>
  obtain ⟨n, b0, keep⟩ := y
  show Ct (fun S => goB' P G A S f key n b0 keep a l)
  cases b0 with
  | rangeFunc g ps ca cb =>
   show Ct (fun S => goR' P G A S f key n ps.toList ca cb keep a l)
   by_cases ha : ∃ xs rest vals, a = .tup (.tup xs :: rest) :: vals
   ·obtain ⟨xs, rest, vals, rfl⟩ := ha
    refine Ct.ite ?_ (Ct.const none)
    refine ex_ct ⟨cxE P G n, A, f, psL l, fun S => asgK P G A S f key n cb keep (psL l) rest⟩ (fun e s => ?_) _ _ _ _
    cases e with
    | normal =>
     refine ex_ct ⟨cxE P G n, A, f, psL l, fun S => rngK A S f key keep (psL l) rest⟩ (fun e s => ?_) _ _ _ _
     cases e with
     | normal =>
      simp only [rngK]
      cases canV 60000 (modeL (A.frl f key)) (A.fix f key) (psL l) (keep.map s.ρ) s.H with
      | none => exact Ct.const none
      | some y => obtain ⟨⟨vals, l⟩, φ⟩ := y; exact (Ct.L _ _ _ _).andP
     | _ => exact Ct.const _
    | _ => exact Ct.const none
   ·refine Ct.congr (v := fun _ => goR' P G A ⟨fun _ _ _ => none, fun _ _ _ _ => none⟩ f key n ps.toList ca cb keep a l) (fun S => ?_) (Ct.const _)
    unfold goR'
    split
    ·rfl
    ·exact absurd ⟨_, _, _, rfl⟩ ha
    ·rfl
  | loop b =>
  exact ex_ct ⟨cxE P G n, A, f, psL l, fun S => loopK A S f key keep (psL l)⟩ (fun _ _ => loopK_ct _ _ _ _ _ _) _ _ _ _
  | _ => exact Ct.const none
theorem evN_chain : Chain (evN P G A) := fun n => by
 induction n with
 | zero => exact ⟨fun _ _ _ _ h => (by cases h), fun _ _ _ _ _ h => (by cases h)⟩
 | succ n ih => exact ⟨fun f a l r h => (stepF_ct f a l).mono _ _ ih r h, fun f k a l r h => (stepL_ct f k a l).mono _ _ ih r h⟩
open Classical in
noncomputable def lim {α : Type} (u : Nat -> Option α) : Option α := if h : ∃ n r, u n = some r then some (Classical.choose (Classical.choose_spec h)) else none
theorem lim_some {α : Type} {u : Nat -> Option α} {r : α} (h : lim u = some r) : ∃ n, u n = some r := by
 unfold lim at h
 split at h
 ·rename_i hx
  cases h
  exact ⟨_, Classical.choose_spec (Classical.choose_spec hx)⟩
 ·cases h
theorem lim_of {α : Type} {u : Nat -> Option α} (hm : ∀ n m r, n ≤ m -> u n = some r -> u m = some r) {n : Nat} {r : α} (h : u n = some r) : lim u = some r := by
 unfold lim
 have hx : ∃ n r, u n = some r := ⟨n, r, h⟩
 rw [dif_pos hx]
 have h2 := Classical.choose_spec (Classical.choose_spec hx)
 have k1 := hm _ _ _ (Nat.le_max_left n (Classical.choose hx)) h
 have k2 := hm _ _ _ (Nat.le_max_right n (Classical.choose hx)) h2
 rw [k1] at k2
 exact k2.symm
noncomputable def ev (P : Program) (G : Nat -> AV) (A : An) : Sig := ⟨fun f a l => lim fun n => (evN P G A n).F f a l, fun f k a l => lim fun n => (evN P G A n).L f k a l⟩
theorem evN_le (n : Nat) : SLe (evN P G A n) (ev P G A) :=
 ⟨fun f a l r h => lim_of (fun n m r hnm h => (evN_chain.le hnm).F _ _ _ _ h) h, fun f k a l r h => lim_of (fun n m r hnm h => (evN_chain.le hnm).L _ _ _ _ _ h) h⟩
theorem ev_lim : Lim (evN P G A) (ev P G A) := ⟨fun f a l r h => lim_some h, fun f k a l r h => lim_some h⟩
theorem opt_ext {α : Type} {x y : Option α} (h1 : ∀ r, x = some r -> y = some r) (h2 : ∀ r, y = some r -> x = some r) : x = y := by
 cases x with
 | some r => exact (h1 r rfl).symm
 | none => cases y with
  | some r => exact absurd (h2 r rfl) (by simp)
  | none => rfl
theorem ev_F (f : FuncId) (a : List AV) (l : HL) : (ev P G A).F f a l = stepF P G A (ev P G A) f a l := by
 refine opt_ext (fun r h => ?_) (fun r h => ?_)
 ·obtain ⟨n, hn⟩ := ev_lim.F _ _ _ _ h
  cases n with
  | zero => cases hn
  | succ n => exact (stepF_ct f a l).mono _ _ (evN_le n) r hn
 ·obtain ⟨n, hn⟩ := (stepF_ct f a l).cont _ evN_chain _ ev_lim r h
  exact (evN_le (n + 1)).F _ _ _ _ hn
theorem ev_L (f : FuncId) (key : Nat) (a : List AV) (l : HL) : (ev P G A).L f key a l = stepL P G A (ev P G A) f key a l := by
 refine opt_ext (fun r h => ?_) (fun r h => ?_)
 ·obtain ⟨n, hn⟩ := ev_lim.L _ _ _ _ _ h
  cases n with
  | zero => cases hn
  | succ n => exact (stepL_ct f key a l).mono _ _ (evN_le n) r hn
 ·obtain ⟨n, hn⟩ := (stepL_ct f key a l).cont _ evN_chain _ ev_lim r h
  exact (evN_le (n + 1)).L _ _ _ _ _ hn
theorem ev_sound (hE : EvOk P G A) {f : FuncId} {a : List AV} {l : HL} {r : AV} {l' : HL} {φ : Prop} (h : (ev P G A).F f a l = some ((r, l'), φ)) (hφ : φ) : OutOk P G f a l r l' := by
 obtain ⟨n, hn⟩ := ev_lim.F _ _ _ _ h
 exact (evN_sound hE n).1 f a l r l' φ hn hφ
theorem ev_Fof {f n : Nat} {c : Code} {rs : List ResultVar} (hb : bodyF P A f = some (n, c, rs)) (a : List AV) (l : HL) :
  (ev P G A).F f a l = goF' P G A (ev P G A) f a l n c rs := by
 rw [ev_F, stepF, hb]
theorem ev_Lof {f key n : Nat} {b : Code} {keep : List Tmp} (hb : bodyL P A f key = some (n, b, keep)) (a : List AV) (l : HL) :
  (ev P G A).L f key a l = goB' P G A (ev P G A) f key n b keep a l := by
 rw [ev_L, stepL, hb]
end Go.Aw

/- The interpreter's equations. Own work. -/
namespace Go.Aw
open Go
set_option linter.unusedVariables false
section
variable {R : Type} {x : Xe R} {n : Nat} {k : List Fr} {s : St}
theorem ex_skip_nil : ex x (n + 1) (.c .skip) [] s = x.K .normal s := (rfl)
theorem ex_skip_code {y : Code} : ex x (n + 1) (.c .skip) (.code y :: k) s = ex x n (.c y) k s := (rfl)
theorem ex_skip_blk {id : Nat} : ex x (n + 1) (.c .skip) (.blk id :: k) s = ex x n (.c .skip) k s := (rfl)
theorem ex_label {l : Nat} : ex x (n + 1) (.c (.label l)) k s = ex x n (.c .skip) k s := (rfl)
theorem ex_ret : ex x (n + 1) (.c .ret) k s = x.K .ret s := (rfl)
theorem ex_seq {a b : Code} : ex x (n + 1) (.c (.seq a b)) k s = ex x n (.c a) (.code b :: k) s := (rfl)
theorem ex_block {id : Nat} {c : Code} : ex x (n + 1) (.c (.block id c)) k s = ex x n (.c c) (.blk id :: k) s := (rfl)
theorem ex_exit {id : Nat} : ex x (n + 1) (.c (.exit id)) k s = gExit x (ex x n) id s (unw id k) := (rfl)
theorem gExit_some {go : Go' R} {id : Nat} {k' : List Fr} : gExit x go id s (some k') = go (.c .skip) k' s := (rfl)
theorem gExit_none {go : Go' R} {id : Nat} : gExit x go id s none = x.K (.exit id) s := (rfl)
theorem unw_nil {id : Nat} : unw id [] = none := (rfl)
theorem unw_code {id : Nat} {c : Code} : unw id (.code c :: k) = unw id k := (rfl)
theorem unw_blk {id i : Nat} : unw id (.blk i :: k) = if i = id then some k else unw id k := (rfl)
theorem ex_cond {t : Tmp} {a b : Code} : ex x (n + 1) (.c (.cond (.tmp t) a b)) k s = gCond (ex x n) a b k s (s.ρ t) := (rfl)
theorem ex_scope {c : Code} : ex x (n + 1) (.c (.scope c)) k s = ex x n (.c c) k s := (rfl)
theorem ex_condC {v : Bool} {a b : Code} : ex x (n + 1) (.c (.cond (.const (.bool v)) a b)) k s = gCond (ex x n) a b k s (.bool v) := (rfl)
theorem gCond_bool {go : Go' R} {a b : Code} {v : Bool} : gCond go a b k s (.bool v) = if v = true then go (.c a) k s else go (.c b) k s := (rfl)
def gRg (x : Xe R) (n : Nat) (id : Nat) (ops : Array Oper) (k : List Fr) (s : St) (draw cp : Bool) : Option (R × Prop) := match cp with
 | true => gCp (ex x n) k (srunG (stepC x.cx (ops.toList.map (·.dst))) ops.toList s)
 | false => match draw with
  | false => ex x n (.o none ops.toList ops.toList) k s
  | true => gDr (x.A.ord x.f id) (ex x n) ops.toList k s (x.A.dr x.f id)
def gRf1 (x : Xe R) (n : Nat) (id : Nat) (ops : Array Oper) (k : List Fr) (draw cp : Bool) : Option (St × Prop) -> Option (R × Prop)
 | some (s, φ) => andP φ (gRg x n id ops k s draw cp)
 | none => none
def gRf (x : Xe R) (n : Nat) (id : Nat) (ops : Array Oper) (k : List Fr) (s : St) (draw cp : Bool) : List Tmp -> Option (R × Prop)
 | [] => gRg x n id ops k s draw cp
 | t :: r => gRf1 x n id ops k draw cp (frzR s (reach 500 s.H (AV.rl.rls ((t :: r).map s.ρ)) []))
theorem ex_region {id : Nat} {ops : Array Oper} {draw : Bool} : ex x (n + 1) (.c (.region id ops draw)) k s = gRf x n id ops k s draw (x.A.cp x.f id) (x.A.fzr x.f id) := by
 have key : ∀ s, gReg x (ex x n) id ops draw k s = gRg x n id ops k s draw (x.A.cp x.f id) := fun s => by
  unfold gReg gRg
  cases x.A.cp x.f id <;> rfl
 show gFz (gReg x (ex x n) id ops draw k) (fzT (x.A.fzr x.f id) s) = _
 cases x.A.fzr x.f id with
 | nil =>
  show andP True (gReg x (ex x n) id ops draw k s) = _
  rw [key]
  show andP True (gRg x n id ops k s draw (x.A.cp x.f id)) = gRg x n id ops k s draw (x.A.cp x.f id)
  cases gRg x n id ops k s draw (x.A.cp x.f id) with
  | none => rfl
  | some p => obtain ⟨r, ψ⟩ := p; show some (r, True /\ ψ) = some (r, ψ); rw [true_and]
 | cons t r =>
  show gFz (gReg x (ex x n) id ops draw k) (frzR s _) = gRf1 x n id ops k draw (x.A.cp x.f id) (frzR s _)
  cases frzR s (reach 500 s.H (AV.rl.rls ((t :: r).map s.ρ)) []) with
  | none => rfl
  | some p => obtain ⟨s1, φ⟩ := p; show andP φ (gReg x (ex x n) id ops draw k s1) = andP φ _; rw [key]
theorem gRf_nil {id : Nat} {ops : Array Oper} {draw cp : Bool} : gRf x n id ops k s draw cp [] = gRg x n id ops k s draw cp := (rfl)
theorem gRf_cons {id : Nat} {ops : Array Oper} {draw cp : Bool} {t : Tmp} {r : List Tmp} : gRf x n id ops k s draw cp (t :: r) = gRf1 x n id ops k draw cp (frzR s (reach 500 s.H (AV.rl.rls ((t :: r).map s.ρ)) [])) := (rfl)
theorem gRf1_some {id : Nat} {ops : Array Oper} {draw cp : Bool} {φ : Prop} : gRf1 x n id ops k draw cp (some (s, φ)) = andP φ (gRg x n id ops k s draw cp) := (rfl)
theorem gRg_reg {id : Nat} {ops : Array Oper} : gRg x n id ops k s false false = ex x n (.o none ops.toList ops.toList) k s := (rfl)
theorem gRg_cp {id : Nat} {ops : Array Oper} {draw : Bool} : gRg x n id ops k s draw true = gCp (ex x n) k (srunG (stepC x.cx (ops.toList.map (·.dst))) ops.toList s) := (rfl)
theorem gCp_some {φ : Prop} : gCp (ex x n) k (some (s, φ)) = andP φ (ex x n (.c .skip) k s) := (rfl)
theorem ex_drawn {id : Nat} {ops : Array Oper} : gRg x n id ops k s true false = gDr (x.A.ord x.f id) (ex x n) ops.toList k s (x.A.dr x.f id) := (rfl)
theorem gDr_some {t : OT} {go : Go' R} {l : List Oper} {fr : List Nat} {wm : Bool} {ts : List Tmp} {bl : List (Option Tmp)} : gDr t go l k s (some (fr, wm, ts, bl)) = gOT go l k (blank bl s) (wX wm ts s ++ fr) t := (rfl)
theorem wX_false {ts : List Tmp} : wX false ts s = [] := (rfl)
theorem wX_true {ts : List Tmp} : wX true ts s = 999999 :: refsT s ts := (rfl)
theorem refsT_nil : refsT s [] = [] := (rfl)
theorem refsT_cons {t : Tmp} {ts : List Tmp} : refsT s (t :: ts) = refsT.refT (refOf (stripV (s.ρ t))) ++ refsT s ts := (rfl)
theorem refT_some {p : Nat} : refsT.refT (some p) = [p] := (rfl)
theorem refT_none : refsT.refT none = [] := (rfl)
theorem ex_loop {b : Code} : ex x (n + 1) (.c (.loop b)) k s = gLoop x (ex x n) (keyOf b) k s (x.A.keep x.f (keyOf b)) := (rfl)
theorem gLoop_some {go : Go' R} {key : Nat} {keep : List Tmp} : gLoop x go key k s (some keep) = gL1 x go key k keep (canV 60000 (modeL (x.A.frl x.f key)) (x.A.fix x.f key) x.ps (keep.map s.ρ) s.H) := (rfl)
theorem gL1_some {go : Go' R} {key : Nat} {keep : List Tmp} {vals : List AV} {l : HL} {φ : Prop} : gL1 x go key k keep (some ((vals, l), φ)) = gL2 x go k keep φ (x.S.L x.f key vals l) := (rfl)
theorem gL2_exit {go : Go' R} {keep : List Tmp} {id : Nat} {vals : List AV} {l : HL} {φ ψ : Prop} : gL2 x go k keep φ (some ((.exit id, vals, l), ψ)) = andP (φ /\ ψ) (gExit x go id (St.mk' (keep.zip vals) l) (unw id k)) := (rfl)
theorem gL2_ret {go : Go' R} {keep : List Tmp} {vals : List AV} {l : HL} {φ ψ : Prop} : gL2 x go k keep φ (some ((.ret, vals, l), ψ)) = andP (φ /\ ψ) (x.K .ret (St.mk' (keep.zip vals) l)) := (rfl)
theorem gL2_ite {go : Go' R} {keep : List Tmp} {φ : Prop} {c : Prop} [Decidable c] {a b : Option ((Exit × List AV × HL) × Prop)} : gL2 x go k keep φ (if c then a else b) = if c then gL2 x go k keep φ a else gL2 x go k keep φ b := by split <;> rfl
theorem ex_o_nil {fr : Option (List Nat)} {os : List Oper} : ex x (n + 1) (.o fr os []) k s = ex x n (.c .skip) k s := (rfl)
theorem andP_some' {φ ψ : Prop} {r : R} : andP φ (some (r, ψ)) = some (r, φ /\ ψ) := (rfl)
theorem andP_none {φ : Prop} : andP φ (none : Option (R × Prop)) = none := (rfl)
theorem andP_true {y : Option (R × Prop)} : andP True y = y := by
 cases y with
 | none => rfl
 | some p => obtain ⟨r, ψ⟩ := p; simp [andP]
theorem andP_and {φ ψ : Prop} {y : Option (R × Prop)} : andP φ (andP ψ y) = andP (φ /\ ψ) y := by
 cases y with
 | none => rfl
 | some p => obtain ⟨r, χ⟩ := p; simp [andP, and_assoc]
theorem bothP_some' {r r' : R} {φ ψ : Prop} : bothP (some (r, φ)) (some (r', ψ)) = some (r, φ /\ ψ /\ r = r') := (rfl)
end
section
variable {R : Type} {x : Xe R} {n : Nat} {fr : Option (List Nat)} {os l : List Oper} {k : List Fr} {s : St} {dst : Option Tmp} {ty : TypeId} {pos : String} {aft : Array Edge} {g gg : Option (Nat × Bool)}
def gV (x : Xe R) (n : Nat) (fr : Option (List Nat)) (os l : List Oper) (k : List Fr) (dst : Option Tmp) (g : Option (Nat × Bool)) (c : Option Bool) (ψ : Prop) (r : Option (AV × Prop)) (s : St) : Option (R × Prop) :=
 match c, r with
 | some c, some (v, φ) => andP (c = true -> ψ /\ φ) (ex x n (.o fr os l) k (putv s dst (wrapg g c v)))
 | _, _ => none
theorem gV_some {b : Bool} {j : Nat} {c : Bool} {ψ φ : Prop} {v : AV} : gV x n fr os l k dst (some (j, b)) (some c) ψ (some (v, φ)) s = andP (c = true -> ψ /\ φ) (ex x n (.o fr os l) k (putv s dst (.gd c v))) := (rfl)
theorem gV_none {ψ φ : Prop} {v : AV} : gV x n fr os l k dst none (some true) ψ (some (v, φ)) s = andP (ψ /\ φ) (ex x n (.o fr os l) k (putv s dst v)) := by
 simp [gV, wrapg]
def hO (h : Bool) (y : Option (R × Prop)) : Option (R × Prop) := if h = true then y else none
theorem hO_true {y : Option (R × Prop)} : hO true y = y := (rfl)
theorem ex_gl {o : Oper} (hgl : glX (x.A.lz x.f) fr os o s = false) : ex x (n + 1) (.o fr os (o :: l)) k s = gOp x (ex x n) fr os l k o s (nilX x.cx fr o s) := by
 show gLd x (ex x n) fr os l k o s (glX (x.A.lz x.f) fr os o s) = _
 rw [hgl]
 rfl
def wnOk (cx : Cx) (fr : Option (List Nat)) (o : Oper) (s : St) : Bool := wOk cx fr o s && nOk cx fr o s
theorem stepN_no {cx : Cx} {S : Sig} {A : An} {fr : Option (List Nat)} {ds : List (Option Tmp)} {o : Oper} {s : St} (h : isCV o = false) : stepN cx S A fr ds o s = if wnOk cx fr o s = true then sstep cx (frL fr) [] ds o s else none := by
 unfold stepN wnOk
 rw [stepX_no h]
 cases nOk cx fr o s <;> cases wOk cx fr o s <;> rfl
theorem ex_op {o : Oper} (hq : fr = none -> nilQ x.cx o s = none) (hgl : glX (x.A.lz x.f) fr os o s = false) (hcv : isCV o = false) (hw : wnOk x.cx fr o s = true) : ex x (n + 1) (.o fr os (o :: l)) k s = gStep (ex x n) fr os l k (sstep x.cx (frL fr) [] (os.map (·.dst)) o s) := by
 have : nilX x.cx fr o s = none := by cases fr with
  | none => exact hq rfl
  | some f => rfl
 rw [ex_gl hgl]
 rw [this]
 show gPre _ _ _ _ _ _ _ _ (preX _ _ _ _ _) = _
 rw [preX_no hcv]
 show gStep _ _ _ _ _ _ = _
 rw [stepN_no hcv, if_pos hw]
theorem ex_opW {o : Oper} (hq : fr = none -> nilQ x.cx o s = none) (hgl : glX (x.A.lz x.f) fr os o s = false) (hcv : isCV o = false) : ex x (n + 1) (.o fr os (o :: l)) k s = hO (wnOk x.cx fr o s) (gStep (ex x n) fr os l k (sstep x.cx (frL fr) [] (os.map (·.dst)) o s)) := by
 cases hw : wnOk x.cx fr o s with
 | true => exact ex_op hq hgl hcv hw
 | false =>
  have : nilX x.cx fr o s = none := by cases fr with
   | none => exact hq rfl
   | some f => rfl
  rw [ex_gl hgl]
  rw [this]
  show gPre _ _ _ _ _ _ _ _ (preX _ _ _ _ _) = _
  rw [preX_no hcv]
  show gStep _ _ _ _ _ _ = _
  rw [stepN_no hcv, if_neg (by rw [hw]; simp)]
  rfl
theorem wOk_none {cx : Cx} {o : Oper} : wnOk cx none o s = true := by
 unfold wnOk
 rw [nOk_none]
 rfl
def wOq (g : List Nat) (a : Operand) (p : Option Nat) : Bool := !g.contains 999999 || (match p with
 | some p => g.contains p && (!g.contains (p + 700000) || isT a p)
 | none => false)
theorem wOk_some {cx : Cx} {g : List Nat} {t : TypeId} {a b : Operand} : wnOk cx (some g) ⟨dst, .store t a b, ty, pos, aft, gg⟩ s = wOq g a (refOf (stripV (aev cx s.ρ a))) := by
 show (wOq g a (refOf (stripV (aev cx s.ρ a))) && true) = _
 rw [Bool.and_true]
theorem wOq_some {g : List Nat} {p t : Nat} : wOq g (.tmp t) (some p) = (!g.contains 999999 || (g.contains p && (!g.contains (p + 700000) || t == p))) := (rfl)
theorem gStep_svop {op : Op} {c : Bool} : gStep (ex x n) fr os l k (svop x.cx c ⟨dst, op, ty, pos, aft, g⟩ s) = gV x n fr os l k dst g (some c) (allB x.cx s.ρ (opnds op) = true) (vop x.cx.P s.H [] (fun z => stripV (aev x.cx s.ρ z)) op) s := by
 unfold svop gV
 simp only
 cases hv : vop x.cx.P s.H [] (fun z => stripV (aev x.cx s.ρ z)) op with
 | none => rfl
 | some r => obtain ⟨v, φ⟩ := r; rfl
theorem ex_P {op : Op} (hw : ∀ (cx : Cx) (s : St), wnOk cx fr ⟨dst, op, ty, pos, aft, g⟩ s = true) (hcv : isCV ⟨dst, op, ty, pos, aft, g⟩ = false) (hst : ∀ cx fr ds s, sstep cx fr [] ds ⟨dst, op, ty, pos, aft, g⟩ s = (match gcond ds s.ρ g with | none => none | some c => svop cx c ⟨dst, op, ty, pos, aft, g⟩ s))
  (hq : fr = none -> nilQ x.cx ⟨dst, op, ty, pos, aft, g⟩ s = none) (hgl : glX (x.A.lz x.f) fr os ⟨dst, op, ty, pos, aft, g⟩ s = false) :
  ex x (n + 1) (.o fr os (⟨dst, op, ty, pos, aft, g⟩ :: l)) k s = gV x n fr os l k dst g (gcond (os.map (·.dst)) s.ρ g) (allB x.cx s.ρ (opnds op) = true) (vop x.cx.P s.H [] (fun z => stripV (aev x.cx s.ρ z)) op) s := by
 rw [ex_op hq hgl hcv (hw _ _), hst]
 cases gcond (os.map (·.dst)) s.ρ g with
 | none => rfl
 | some c => exact gStep_svop
theorem ex_Lo {op : Op} (hw : ∀ (cx : Cx) (s : St), wnOk cx fr ⟨dst, op, ty, pos, aft, g⟩ s = true) (hcv : isCV ⟨dst, op, ty, pos, aft, g⟩ = false) (hst : ∀ cx fr ds s, sstep cx fr [] ds ⟨dst, op, ty, pos, aft, g⟩ s = (match gcond ds s.ρ g with | none => none | some c => if headOut cx s.ρ fr op = true then svop cx c ⟨dst, op, ty, pos, aft, g⟩ s else none))
  (hq : fr = none -> nilQ x.cx ⟨dst, op, ty, pos, aft, g⟩ s = none) (hgl : glX (x.A.lz x.f) fr os ⟨dst, op, ty, pos, aft, g⟩ s = false) :
  ex x (n + 1) (.o fr os (⟨dst, op, ty, pos, aft, g⟩ :: l)) k s = hO (headOut x.cx s.ρ (frL fr) op) (gV x n fr os l k dst g (gcond (os.map (·.dst)) s.ρ g) (allB x.cx s.ρ (opnds op) = true) (vop x.cx.P s.H [] (fun z => stripV (aev x.cx s.ρ z)) op) s) := by
 rw [ex_op hq hgl hcv (hw _ _), hst]
 cases gcond (os.map (·.dst)) s.ρ g with
 | none => cases headOut x.cx s.ρ (frL fr) op <;> rfl
 | some c =>
  cases hh : headOut x.cx s.ρ (frL fr) op with
  | true => simp only [if_true, hO_true]; exact gStep_svop
  | false => rfl
theorem nilQ_no' {cx : Cx} {o : Oper} (h : ∀ op t a b u, o.op ≠ .binOp op t a b u) : nilQ cx o s = none := by
 unfold nilQ
 split
 ·rename_i h2; exact absurd h2 (h _ _ _ _ _)
 ·rfl
def gLz (b : Bool) (x : Xe R) (n : Nat) (fr : Option (List Nat)) (os l : List Oper) (k : List Fr) (dst : Option Tmp) (g : Option (Nat × Bool)) (ty : TypeId) (c : Option Bool) (s : St) (y : Option (R × Prop)) : Option (R × Prop) := match b, fr, g, c with
 | false, none, some _, some false => ex x n (.o none os l) k (putv s dst (.gd false (noV x.cx.P ty)))
 | _, _, _, _ => y
theorem gLz_lazy {c : Option Bool} {y : Option (R × Prop)} : gLz true x n fr os l k dst g ty c s y = y := (rfl)
theorem gLz_none {b : Bool} {c : Option Bool} {y : Option (R × Prop)} : gLz b x n fr os l k dst none ty c s y = y := by cases b <;> cases fr <;> rfl
theorem gLz_drawn {b : Bool} {c : Option Bool} {y : Option (R × Prop)} {f : List Nat} : gLz b x n (some f) os l k dst g ty c s y = y := by cases b <;> rfl
theorem gLz_true {b : Bool} {gg : Nat × Bool} {y : Option (R × Prop)} : gLz b x n fr os l k dst (some gg) ty (some true) s y = y := by cases b <;> cases fr <;> rfl
theorem gLz_false {gg : Nat × Bool} {y : Option (R × Prop)} : gLz false x n none os l k dst (some gg) ty (some false) s y = ex x n (.o none os l) k (putv s dst (.gd false (noV x.cx.P ty))) := (rfl)
theorem gLz_of {op : Op} {y : Option (R × Prop)} (hop : isLd op = true) (h : glX (x.A.lz x.f) fr os ⟨dst, op, ty, pos, aft, g⟩ s = false -> ex x (n + 1) (.o fr os (⟨dst, op, ty, pos, aft, g⟩ :: l)) k s = y) :
  ex x (n + 1) (.o fr os (⟨dst, op, ty, pos, aft, g⟩ :: l)) k s = gLz (x.A.lz x.f) x n fr os l k dst g ty (gcond (os.map (·.dst)) s.ρ g) s y := by
 cases hlz : x.A.lz x.f with
 | true =>
  rw [gLz_lazy]
  exact h (by rw [hlz]; rfl)
 | false =>
 rw [hlz] at h
 cases hgl : glX false fr os ⟨dst, op, ty, pos, aft, g⟩ s with
 | true =>
  obtain ⟨h1, h2, h3⟩ := glX_spec hgl
  subst h1
  obtain ⟨gg, rfl⟩ := Option.isSome_iff_exists.1 h2
  show gLd x (ex x n) none os l k _ s (glX (x.A.lz x.f) none os _ s) = _
  rw [hlz, hgl, show gcond (os.map (·.dst)) s.ρ (some gg) = some false from h3]
  rfl
 | false =>
  rw [h hgl]
  cases fr with
  | some f => rfl
  | none =>
   cases g with
   | none => rfl
   | some gg =>
    have hc : glC (gcond (os.map (·.dst)) s.ρ (some gg)) = false := by
     unfold glX glX0 at hgl
     simp only at hgl
     rw [hop] at hgl
     exact hgl
    cases hg : gcond (os.map (·.dst)) s.ρ (some gg) with
    | none => rfl
    | some c =>
     rw [hg] at hc
     cases c with
     | true => rfl
     | false => cases hc
theorem ex_Ld {t : TypeId} {a : Operand} (hgl : glX (x.A.lz x.f) fr os ⟨dst, .load t a, ty, pos, aft, g⟩ s = false) : ex x (n + 1) (.o fr os (⟨dst, .load t a, ty, pos, aft, g⟩ :: l)) k s = hO (nOk x.cx fr ⟨dst, .load t a, ty, pos, aft, g⟩ s) (hO (headOut x.cx s.ρ (frL fr) (.load t a)) (gV x n fr os l k dst g (gcond (os.map (·.dst)) s.ρ g) (allB x.cx s.ρ [a] = true) (vload x.cx.P s.H [] t (stripV (aev x.cx s.ρ a))) s)) := by
 rw [ex_opW (fun _ => nilQ_no' (by simp)) hgl rfl]
 have e : wnOk x.cx fr ⟨dst, .load t a, ty, pos, aft, g⟩ s = nOk x.cx fr ⟨dst, .load t a, ty, pos, aft, g⟩ s := by
  unfold wnOk
  rw [show wOk x.cx fr ⟨dst, .load t a, ty, pos, aft, g⟩ s = true by cases fr <;> rfl, Bool.true_and]
 rw [e]
 congr 1
 show gStep _ _ _ _ _ (match gcond _ s.ρ g with | none => none | some c => if headOut x.cx s.ρ (frL fr) (.load t a) = true then svop x.cx c ⟨dst, .load t a, ty, pos, aft, g⟩ s else none) = _
 cases gcond (os.map (·.dst)) s.ρ g with
 | none => cases headOut x.cx s.ρ (frL fr) (.load t a) <;> rfl
 | some c =>
  cases hh : headOut x.cx s.ρ (frL fr) (.load t a) with
  | true => simp only [if_true, hO_true]; exact gStep_svop
  | false => rfl
def ldQ (f : List Nat) (dst : Option Tmp) (_ : Option (Nat × Bool)) (r : Option (AV × Prop)) : Bool := dst.isNone || (!f.contains 888888 || flatO r)
theorem ldQ_some {f : List Nat} {d : Tmp} {r : Option (AV × Prop)} : ldQ f (some d) none r = (!f.contains 888888 || flatO r) := by simp [ldQ]
theorem ldQ_g {f : List Nat} {d : Tmp} {gg : Nat × Bool} {r : Option (AV × Prop)} : ldQ f (some d) (some gg) r = (!f.contains 888888 || flatO r) := by simp [ldQ]
theorem flatO_some {v : AV} {φ : Prop} : flatO (some (v, φ)) = flatV v := (rfl)
theorem ex_load {t : TypeId} {a : Operand} : (ex x (n + 1) (.o (none) os (⟨dst, .load t a, ty, pos, aft, g⟩ :: l)) k s = gLz (x.A.lz x.f) x n (none) os l k dst g ty (gcond (os.map (·.dst)) s.ρ g) s (hO (headOut x.cx s.ρ (frL (none)) (.load t a)) (gV x n (none) os l k dst g (gcond (os.map (·.dst)) s.ρ g) (allB x.cx s.ρ [a] = true) (vload x.cx.P s.H [] t (stripV (aev x.cx s.ρ a))) s))) /\
  (∀ f : List Nat, ex x (n + 1) (.o (some f) os (⟨dst, .load t a, ty, pos, aft, g⟩ :: l)) k s = gLz (x.A.lz x.f) x n (some f) os l k dst g ty (gcond (os.map (·.dst)) s.ρ g) s (hO (ldQ f dst g (vload x.cx.P s.H [] t (stripV (aev x.cx s.ρ a)))) (hO (headOut x.cx s.ρ (frL (some f)) (.load t a)) (gV x n (some f) os l k dst g (gcond (os.map (·.dst)) s.ρ g) (allB x.cx s.ρ [a] = true) (vload x.cx.P s.H [] t (stripV (aev x.cx s.ρ a))) s)))) := by
 constructor
 ·exact gLz_of (fr := none) rfl fun hgl => (ex_Ld (fr := none) hgl).trans (by rw [nOk_none]; rfl)
 ·intro f
  exact gLz_of (fr := some f) rfl fun hgl => ex_Ld (fr := some f) hgl
theorem ex_indexAddr {t : TypeId} {a b : Operand} : ex x (n + 1) (.o fr os (⟨dst, .indexAddr t a b, ty, pos, aft, g⟩ :: l)) k s = gLz (x.A.lz x.f) x n fr os l k dst g ty (gcond (os.map (·.dst)) s.ρ g) s (hO (headOut x.cx s.ρ (frL fr) (.indexAddr t a b)) (gV x n fr os l k dst g (gcond (os.map (·.dst)) s.ρ g) (allB x.cx s.ρ [a, b] = true) (vindexAddr x.cx.P s.H t (stripV (aev x.cx s.ρ a)) (stripV (aev x.cx s.ρ b))) s)) :=
 gLz_of rfl fun hgl => ex_Lo (fun _ _ => by cases fr <;> rfl) rfl (fun _ _ _ _ => rfl) (fun _ => nilQ_no' (by simp)) hgl
theorem ex_slice {t : TypeId} {a : Operand} {lo hi mx : Option Operand} : ex x (n + 1) (.o fr os (⟨dst, .slice t a lo hi mx, ty, pos, aft, g⟩ :: l)) k s = hO (headOut x.cx s.ρ (frL fr) (.slice t a lo hi mx)) (gV x n fr os l k dst g (gcond (os.map (·.dst)) s.ρ g) (allB x.cx s.ρ (a :: (lo.toList ++ hi.toList ++ mx.toList)) = true) (vop x.cx.P s.H [] (fun z => stripV (aev x.cx s.ρ z)) (.slice t a lo hi mx)) s) :=
 ex_Lo (fun _ _ => by cases fr <;> rfl) rfl (fun _ _ _ _ => rfl) (fun _ => nilQ_no' (by simp)) (glX_no rfl)
theorem ex_nilCheck {a : Operand} : ex x (n + 1) (.o fr os (⟨dst, .nilCheck a, ty, pos, aft, g⟩ :: l)) k s = gLz (x.A.lz x.f) x n fr os l k dst g ty (gcond (os.map (·.dst)) s.ρ g) s (gV x n fr os l k dst g (gcond (os.map (·.dst)) s.ρ g) (allB x.cx s.ρ [a] = true) (vop x.cx.P s.H [] (fun z => stripV (aev x.cx s.ρ z)) (.nilCheck a)) s) :=
 gLz_of rfl fun hgl => ex_P (fun _ _ => by cases fr <;> rfl) rfl (fun _ _ _ _ => rfl) (fun _ => nilQ_no' (by simp)) hgl
theorem ex_fieldAddr {t : TypeId} {a : Operand} {f : Nat} : ex x (n + 1) (.o fr os (⟨dst, .fieldAddr t a f, ty, pos, aft, g⟩ :: l)) k s = gLz (x.A.lz x.f) x n fr os l k dst g ty (gcond (os.map (·.dst)) s.ρ g) s (gV x n fr os l k dst g (gcond (os.map (·.dst)) s.ρ g) (allB x.cx s.ρ [a] = true) (vop x.cx.P s.H [] (fun z => stripV (aev x.cx s.ρ z)) (.fieldAddr t a f)) s) :=
 gLz_of rfl fun hgl => ex_P (fun _ _ => by cases fr <;> rfl) rfl (fun _ _ _ _ => rfl) (fun _ => nilQ_no' (by simp)) hgl
theorem ex_field {t : TypeId} {a : Operand} {f : Nat} : ex x (n + 1) (.o fr os (⟨dst, .field t a f, ty, pos, aft, g⟩ :: l)) k s = gV x n fr os l k dst g (gcond (os.map (·.dst)) s.ρ g) (allB x.cx s.ρ [a] = true) (vop x.cx.P s.H [] (fun z => stripV (aev x.cx s.ρ z)) (.field t a f)) s :=
 ex_P (fun _ _ => by cases fr <;> rfl) rfl (fun _ _ _ _ => rfl) (fun _ => nilQ_no' (by simp)) (glX_no rfl)
theorem ex_index {t : TypeId} {a b : Operand} : ex x (n + 1) (.o fr os (⟨dst, .index t a b, ty, pos, aft, g⟩ :: l)) k s = gV x n fr os l k dst g (gcond (os.map (·.dst)) s.ρ g) (allB x.cx s.ρ [a, b] = true) (vop x.cx.P s.H [] (fun z => stripV (aev x.cx s.ρ z)) (.index t a b)) s :=
 ex_P (fun _ _ => by cases fr <;> rfl) rfl (fun _ _ _ _ => rfl) (fun _ => nilQ_no' (by simp)) (glX_no rfl)
theorem ex_unOp {op : UnOp} {t : TypeId} {a : Operand} : ex x (n + 1) (.o fr os (⟨dst, .unOp op t a, ty, pos, aft, g⟩ :: l)) k s = gV x n fr os l k dst g (gcond (os.map (·.dst)) s.ρ g) (allB x.cx s.ρ [a] = true) (vop x.cx.P s.H [] (fun z => stripV (aev x.cx s.ρ z)) (.unOp op t a)) s :=
 ex_P (fun _ _ => by cases fr <;> rfl) rfl (fun _ _ _ _ => rfl) (fun _ => nilQ_no' (by simp)) (glX_no rfl)
theorem ex_convert {t u : TypeId} {a : Operand} : ex x (n + 1) (.o fr os (⟨dst, .convert t u a, ty, pos, aft, g⟩ :: l)) k s = gV x n fr os l k dst g (gcond (os.map (·.dst)) s.ρ g) (allB x.cx s.ρ [a] = true) (vop x.cx.P s.H [] (fun z => stripV (aev x.cx s.ρ z)) (.convert t u a)) s :=
 ex_P (fun _ _ => by cases fr <;> rfl) rfl (fun _ _ _ _ => rfl) (fun _ => nilQ_no' (by simp)) (glX_no rfl)
theorem ex_build {t : TypeId} {ps : Array (Nat × Operand)} : ex x (n + 1) (.o fr os (⟨dst, .build t ps, ty, pos, aft, g⟩ :: l)) k s = gV x n fr os l k dst g (gcond (os.map (·.dst)) s.ρ g) (allB x.cx s.ρ (ps.toList.map (·.2)) = true) (vop x.cx.P s.H [] (fun z => stripV (aev x.cx s.ρ z)) (.build t ps)) s :=
 ex_P (fun _ _ => by cases fr <;> rfl) rfl (fun _ _ _ _ => rfl) (fun _ => nilQ_no' (by simp)) (glX_no rfl)
theorem ex_extract {a : Operand} {i : Nat} : ex x (n + 1) (.o fr os (⟨dst, .extract a i, ty, pos, aft, g⟩ :: l)) k s = gV x n fr os l k dst g (gcond (os.map (·.dst)) s.ρ g) (allB x.cx s.ρ [a] = true) (vop x.cx.P s.H [] (fun z => stripV (aev x.cx s.ρ z)) (.extract a i)) s :=
 ex_P (fun _ _ => by cases fr <;> rfl) rfl (fun _ _ _ _ => rfl) (fun _ => nilQ_no' (by simp)) (glX_no rfl)
theorem ex_makeFunc {f : Fn} {a b : Array Operand} : ex x (n + 1) (.o fr os (⟨dst, .makeFunc f a b, ty, pos, aft, g⟩ :: l)) k s = gV x n fr os l k dst g (gcond (os.map (·.dst)) s.ρ g) (allB x.cx s.ρ (a.toList ++ b.toList) = true) (vop x.cx.P s.H [] (fun z => stripV (aev x.cx s.ρ z)) (.makeFunc f a b)) s :=
 ex_P (fun _ _ => by cases fr <;> rfl) rfl (fun _ _ _ _ => rfl) (fun _ => nilQ_no' (by simp)) (glX_no rfl)
theorem ex_toArray {t : TypeId} {a : Operand} : ex x (n + 1) (.o fr os (⟨dst, .sliceToArrayPointer t a, ty, pos, aft, g⟩ :: l)) k s = gV x n fr os l k dst g (gcond (os.map (·.dst)) s.ρ g) (allB x.cx s.ρ [a] = true) (vop x.cx.P s.H [] (fun z => stripV (aev x.cx s.ρ z)) (.sliceToArrayPointer t a)) s :=
 ex_P (fun _ _ => by cases fr <;> rfl) rfl (fun _ _ _ _ => rfl) (fun _ => nilQ_no' (by simp)) (glX_no rfl)
theorem ex_makeInterface {t : TypeId} {a : Operand} : ex x (n + 1) (.o fr os (⟨dst, .makeInterface t a, ty, pos, aft, g⟩ :: l)) k s = gV x n fr os l k dst g (gcond (os.map (·.dst)) s.ρ g) (allB x.cx s.ρ [a] = true) (vop x.cx.P s.H [] (fun z => stripV (aev x.cx s.ρ z)) (.makeInterface t a)) s :=
 ex_P (fun _ _ => by cases fr <;> rfl) rfl (fun _ _ _ _ => rfl) (fun _ => nilQ_no' (by simp)) (glX_no rfl)
theorem ex_len {as : Array Operand} {ts : Array TypeId} : ex x (n + 1) (.o fr os (⟨dst, .call ⟨.builtin .len, as, ts⟩, ty, pos, aft, g⟩ :: l)) k s = gV x n fr os l k dst g (gcond (os.map (·.dst)) s.ρ g) (allB x.cx s.ρ as.toList = true) (vbuiltin x.cx.P (fun z => stripV (aev x.cx s.ρ z)) .len as.toList ts.toList) s :=
 ex_P (fun _ _ => by cases fr <;> rfl) rfl (fun _ _ _ _ => rfl) (fun _ => nilQ_no' (by simp)) (glX_no rfl)
theorem ex_min {as : Array Operand} {ts : Array TypeId} : ex x (n + 1) (.o fr os (⟨dst, .call ⟨.builtin .min, as, ts⟩, ty, pos, aft, g⟩ :: l)) k s = gV x n fr os l k dst g (gcond (os.map (·.dst)) s.ρ g) (allB x.cx s.ρ as.toList = true) (vbuiltin x.cx.P (fun z => stripV (aev x.cx s.ρ z)) .min as.toList ts.toList) s :=
 ex_P (fun _ _ => by cases fr <;> rfl) rfl (fun _ _ _ _ => rfl) (fun _ => nilQ_no' (by simp)) (glX_no rfl)
theorem ex_max {as : Array Operand} {ts : Array TypeId} : ex x (n + 1) (.o fr os (⟨dst, .call ⟨.builtin .max, as, ts⟩, ty, pos, aft, g⟩ :: l)) k s = gV x n fr os l k dst g (gcond (os.map (·.dst)) s.ρ g) (allB x.cx s.ρ as.toList = true) (vbuiltin x.cx.P (fun z => stripV (aev x.cx s.ρ z)) .max as.toList ts.toList) s :=
 ex_P (fun _ _ => by cases fr <;> rfl) rfl (fun _ _ _ _ => rfl) (fun _ => nilQ_no' (by simp)) (glX_no rfl)
def gM (x : Xe R) (n : Nat) (fr : Option (List Nat)) (os l : List Oper) (k : List Fr) (dst : Option Tmp) (g : Option (Nat × Bool)) (c : Option Bool) (v : AV) (s : St) : Option (R × Prop) :=
 match c with
 | some c => ex x n (.o fr os l) k (putv s dst (wrapg g c v))
 | none => none
theorem gM_none {v : AV} {c : Bool} : gM x n fr os l k dst none (some c) v s = ex x n (.o fr os l) k (putv s dst v) := (rfl)
theorem gM_some {j : Nat} {b c : Bool} {v : AV} : gM x n fr os l k dst (some (j, b)) (some c) v s = ex x n (.o fr os l) k (putv s dst (.gd c v)) := (rfl)
theorem ex_M {op : Op} {a : Operand} (hw : ∀ (cx : Cx) (s : St), wnOk cx fr ⟨dst, op, ty, pos, aft, g⟩ s = true) (hcv : isCV ⟨dst, op, ty, pos, aft, g⟩ = false) (hst : ∀ cx fr ds s, sstep cx fr [] ds ⟨dst, op, ty, pos, aft, g⟩ s = (match gcond ds s.ρ g with | none => none | some c => some (putv s dst (wrapg g c (aev cx s.ρ a)), True)))
  (hq : fr = none -> nilQ x.cx ⟨dst, op, ty, pos, aft, g⟩ s = none) (hgl : glX (x.A.lz x.f) fr os ⟨dst, op, ty, pos, aft, g⟩ s = false) :
  ex x (n + 1) (.o fr os (⟨dst, op, ty, pos, aft, g⟩ :: l)) k s = gM x n fr os l k dst g (gcond (os.map (·.dst)) s.ρ g) (aev x.cx s.ρ a) s := by
 rw [ex_op hq hgl hcv (hw _ _), hst]
 cases gcond (os.map (·.dst)) s.ρ g with
 | none => rfl
 | some c =>
  show andP True _ = _
  rw [andP_true]
  rfl
theorem ex_lookup {t : TypeId} {a b : Operand} {ok : Bool} : ex x (n + 1) (.o fr os (⟨dst, .lookup t a b ok, ty, pos, aft, g⟩ :: l)) k s = hO (headOut x.cx s.ρ (frL fr) (.lookup t a b ok)) (gV x n fr os l k dst g (gcond (os.map (·.dst)) s.ρ g) (allB x.cx s.ρ [a, b] = true) (vlook x.cx.P s.H t (stripV (aev x.cx s.ρ a)) (stripV (aev x.cx s.ρ b)) ok) s) :=
 ex_Lo (fun _ _ => by cases fr <;> rfl) rfl (fun _ _ _ _ => rfl) (fun _ => nilQ_no' (by simp)) (glX_no rfl)
theorem ex_move {a : Operand} : ex x (n + 1) (.o fr os (⟨dst, .move a, ty, pos, aft, g⟩ :: l)) k s = gM x n fr os l k dst g (gcond (os.map (·.dst)) s.ρ g) (aev x.cx s.ρ a) s :=
 ex_M (fun _ _ => by cases fr <;> rfl) rfl (fun _ _ _ _ => rfl) (fun _ => nilQ_no' (by simp)) (glX_no rfl)
theorem ex_assign {a : Operand} : ex x (n + 1) (.o fr os (⟨dst, .assign a, ty, pos, aft, g⟩ :: l)) k s = gM x n fr os l k dst g (gcond (os.map (·.dst)) s.ρ g) (aev x.cx s.ρ a) s :=
 ex_M (fun _ _ => by cases fr <;> rfl) rfl (fun _ _ _ _ => rfl) (fun _ => nilQ_no' (by simp)) (glX_no rfl)
def gB (x : Xe R) (n : Nat) (fr : Option (List Nat)) (os l : List Oper) (k : List Fr) (dst : Option Tmp) (g : Option (Nat × Bool)) (c : Option Bool) (ψ : Prop) (q : Option (Bool × Nat)) (r : Option (AV × Prop)) (s : St) : Option (R × Prop) :=
 match fr, q with
 | none, some (neg, m) => andP ψ (if m = 0 then bothP (ex x n (.o none os l) k (putv s dst (.bool (!neg)))) (ex x n (.o none os l) k (putv s dst (.bool neg))) else ex x n (.o none os l) k (putv s dst (.bool neg)))
 | _, _ => gV x n fr os l k dst g c ψ r s
theorem gB_none {c : Option Bool} {ψ : Prop} {r : Option (AV × Prop)} : gB x n fr os l k dst g c ψ none r s = gV x n fr os l k dst g c ψ r s := by cases fr <;> rfl
theorem gB_some {c : Option Bool} {ψ : Prop} {r : Option (AV × Prop)} {neg : Bool} {m : Nat} : gB x n none os l k dst g c ψ (some (neg, m)) r s = andP ψ (if m = 0 then bothP (ex x n (.o none os l) k (putv s dst (.bool (!neg)))) (ex x n (.o none os l) k (putv s dst (.bool neg))) else ex x n (.o none os l) k (putv s dst (.bool neg))) := (rfl)
theorem gB_drawn {c : Option Bool} {ψ : Prop} {r : Option (AV × Prop)} {f : List Nat} {q : Option (Bool × Nat)} : gB x n (some f) os l k dst g c ψ q r s = gV x n (some f) os l k dst g c ψ r s := by cases q <;> rfl
theorem ex_binOp {op : BinOp} {t u : TypeId} {a b : Operand} : ex x (n + 1) (.o fr os (⟨dst, .binOp op t a b u, ty, pos, aft, g⟩ :: l)) k s =
  gB x n fr os l k dst g (gcond (os.map (·.dst)) s.ρ g) (allB x.cx s.ρ [a, b] = true) (nilR g op (tKind x.cx.P t) (stripV (aev x.cx s.ρ a)) (stripV (aev x.cx s.ρ b))) (binv x.cx.P op t (stripV (aev x.cx s.ρ a)) (stripV (aev x.cx s.ρ b))) s := by
 have hP : (fr = none -> nilQ x.cx ⟨dst, .binOp op t a b u, ty, pos, aft, g⟩ s = none) -> ex x (n + 1) (.o fr os (⟨dst, .binOp op t a b u, ty, pos, aft, g⟩ :: l)) k s = gV x n fr os l k dst g (gcond (os.map (·.dst)) s.ρ g) (allB x.cx s.ρ [a, b] = true) (binv x.cx.P op t (stripV (aev x.cx s.ρ a)) (stripV (aev x.cx s.ρ b))) s := fun hq =>
  ex_P (fun _ _ => by cases fr <;> rfl) rfl (fun _ _ _ _ => rfl) hq (glX_no rfl)
 have hqr : nilQ x.cx ⟨dst, .binOp op t a b u, ty, pos, aft, g⟩ s = nilR g op (tKind x.cx.P t) (stripV (aev x.cx s.ρ a)) (stripV (aev x.cx s.ρ b)) := by
  unfold nilQ nilR
  cases g <;> rfl
 cases fr with
 | some f => rw [gB_drawn]; exact hP (fun h => by cases h)
 | none =>
  cases hr : nilR g op (tKind x.cx.P t) (stripV (aev x.cx s.ρ a)) (stripV (aev x.cx s.ρ b)) with
  | none => rw [gB_none]; exact hP (fun _ => hqr.trans hr)
  | some r =>
   obtain ⟨neg, m⟩ := r
   rw [gB_some]
   rw [ex_gl (glX_no rfl)]
   show gOp x (ex x n) none os l k _ s (nilQ x.cx _ s) = _
   rw [hqr, hr]
   rfl
def gS (x : Xe R) (n : Nat) (fr : Option (List Nat)) (os l : List Oper) (k : List Fr) (r : Option (St × Prop)) : Option (R × Prop) := gStep (ex x n) fr os l k r
theorem gS_some {φ : Prop} : gS x n fr os l k (some (s, φ)) = andP φ (ex x n (.o fr os l) k s) := (rfl)
theorem ex_S {op : Op} {r : Bool -> Option (St × Prop)} (hw : ∀ (cx : Cx) (s : St), wnOk cx fr ⟨dst, op, ty, pos, aft, g⟩ s = true) (hcv : isCV ⟨dst, op, ty, pos, aft, g⟩ = false) (hst : ∀ ds, sstep x.cx (frL fr) [] ds ⟨dst, op, ty, pos, aft, g⟩ s = (match gcond ds s.ρ g with | none => none | some c => r c))
  (hq : fr = none -> nilQ x.cx ⟨dst, op, ty, pos, aft, g⟩ s = none) (hgl : glX (x.A.lz x.f) fr os ⟨dst, op, ty, pos, aft, g⟩ s = false) :
  ex x (n + 1) (.o fr os (⟨dst, op, ty, pos, aft, g⟩ :: l)) k s = gS x n fr os l k (match gcond (os.map (·.dst)) s.ρ g with | none => none | some c => r c) := by
 rw [ex_op hq hgl hcv (hw _ _), hst]
 rfl
theorem ex_store {t : TypeId} {a b : Operand} : ex x (n + 1) (.o fr os (⟨dst, .store t a b, ty, pos, aft, g⟩ :: l)) k s = hO (wnOk x.cx fr ⟨dst, .store t a b, ty, pos, aft, g⟩ s) (gS x n fr os l k (match gcond (os.map (·.dst)) s.ρ g with | none => none | some c => sstore x.cx c ⟨dst, .store t a b, ty, pos, aft, g⟩ t a b s)) := by
 rw [ex_opW (fun _ => nilQ_no' (by simp)) (glX_no rfl) rfl]
 rfl
theorem ex_pick {a b d : Operand} : ex x (n + 1) (.o fr os (⟨dst, .pick a b d, ty, pos, aft, g⟩ :: l)) k s = gS x n fr os l k (match gcond (os.map (·.dst)) s.ρ g with | none => none | some c => spick x.cx c ⟨dst, .pick a b d, ty, pos, aft, g⟩ a b d s) :=
 ex_S (fun _ _ => by cases fr <;> rfl) rfl (fun _ => rfl) (fun _ => nilQ_no' (by simp)) (glX_no rfl)
theorem ex_mapUpdate {t : TypeId} {a b c0 : Operand} : ex x (n + 1) (.o fr os (⟨dst, .mapUpdate t a b c0, ty, pos, aft, g⟩ :: l)) k s = gS x n fr os l k (match gcond (os.map (·.dst)) s.ρ g with | none => none | some c => smput x.cx c ⟨dst, .mapUpdate t a b c0, ty, pos, aft, g⟩ t a b c0 s) :=
 ex_S (fun _ _ => by cases fr <;> rfl) rfl (fun _ => rfl) (fun _ => nilQ_no' (by simp)) (glX_no rfl)
theorem ex_makeMap {t : TypeId} {r : Option Operand} : ex x (n + 1) (.o fr os (⟨dst, .makeMap t r, ty, pos, aft, g⟩ :: l)) k s = gS x n fr os l k (match gcond (os.map (·.dst)) s.ρ g with | none => none | some c => salloc x.cx c ⟨dst, .makeMap t r, ty, pos, aft, g⟩ s) :=
 ex_S (fun _ _ => by cases fr <;> rfl) rfl (fun _ => rfl) (fun _ => nilQ_no' (by simp)) (glX_no rfl)
theorem ex_alloc {t : TypeId} : ex x (n + 1) (.o fr os (⟨dst, .alloc t, ty, pos, aft, g⟩ :: l)) k s = gS x n fr os l k (match gcond (os.map (·.dst)) s.ρ g with | none => none | some c => salloc x.cx c ⟨dst, .alloc t, ty, pos, aft, g⟩ s) :=
 ex_S (fun _ _ => by cases fr <;> rfl) rfl (fun _ => rfl) (fun _ => nilQ_no' (by simp)) (glX_no rfl)
theorem ex_box {t : TypeId} {a : Operand} : ex x (n + 1) (.o fr os (⟨dst, .box t a, ty, pos, aft, g⟩ :: l)) k s = gS x n fr os l k (match gcond (os.map (·.dst)) s.ρ g with | none => none | some c => salloc x.cx c ⟨dst, .box t a, ty, pos, aft, g⟩ s) :=
 ex_S (fun _ _ => by cases fr <;> rfl) rfl (fun _ => rfl) (fun _ => nilQ_no' (by simp)) (glX_no rfl)
theorem ex_buildSlice {t : TypeId} {m : Nat} {ps : Array (Nat × Operand)} : ex x (n + 1) (.o fr os (⟨dst, .buildSlice t m ps, ty, pos, aft, g⟩ :: l)) k s = gS x n fr os l k (match gcond (os.map (·.dst)) s.ρ g with | none => none | some c => salloc x.cx c ⟨dst, .buildSlice t m ps, ty, pos, aft, g⟩ s) :=
 ex_S (fun _ _ => by cases fr <;> rfl) rfl (fun _ => rfl) (fun _ => nilQ_no' (by simp)) (glX_no rfl)
theorem ex_makeSlice {t : TypeId} {a b : Operand} : ex x (n + 1) (.o fr os (⟨dst, .makeSlice t a b, ty, pos, aft, g⟩ :: l)) k s = gS x n fr os l k (match gcond (os.map (·.dst)) s.ρ g with | none => none | some c => salloc x.cx c ⟨dst, .makeSlice t a b, ty, pos, aft, g⟩ s) :=
 ex_S (fun _ _ => by cases fr <;> rfl) rfl (fun _ => rfl) (fun _ => nilQ_no' (by simp)) (glX_no rfl)
theorem ex_Ap {as : Array Operand} {ts : Array TypeId} : ex x (n + 1) (.o fr os (⟨dst, .call ⟨.builtin .append, as, ts⟩, ty, pos, aft, g⟩ :: l)) k s = hO (nOk x.cx fr ⟨dst, .call ⟨.builtin .append, as, ts⟩, ty, pos, aft, g⟩ s) (gS x n fr os l k (match gcond (os.map (·.dst)) s.ρ g with | none => none | some c => sappend x.cx (frL fr) c ⟨dst, .call ⟨.builtin .append, as, ts⟩, ty, pos, aft, g⟩ as.toList ts.toList s)) := by
 rw [ex_opW (fun _ => nilQ_no' (by simp)) (glX_no rfl) rfl]
 have e : wnOk x.cx fr ⟨dst, .call ⟨.builtin .append, as, ts⟩, ty, pos, aft, g⟩ s = nOk x.cx fr ⟨dst, .call ⟨.builtin .append, as, ts⟩, ty, pos, aft, g⟩ s := by
  unfold wnOk
  rw [show wOk x.cx fr ⟨dst, .call ⟨.builtin .append, as, ts⟩, ty, pos, aft, g⟩ s = true by cases fr <;> rfl, Bool.true_and]
 rw [e]
 rfl
def apQ (f : List Nat) (g : Option (Nat × Bool)) : Option Nat -> Bool
 | some p => g.isSome || !f.contains (p + 600000)
 | none => true
def apL (cx : Cx) (ρ : Nat -> AV) : List Operand -> Option Nat
 | a :: _ => apV (stripV (aev cx ρ a))
 | [] => none
where
 apV : AV -> Option Nat
  | .sl o _ _ => some o
  | _ => none
theorem apQ_some {f : List Nat} {p : Nat} : apQ f none (some p) = !f.contains (p + 600000) := (rfl)
theorem apQ_g {f : List Nat} {p : Nat} {gg : Nat × Bool} : apQ f (some gg) (some p) = true := (rfl)
theorem apQ_none {f : List Nat} : apQ f g none = true := (rfl)
theorem apL_cons {cx : Cx} {ρ : Nat -> AV} {a : Operand} {r : List Operand} : apL cx ρ (a :: r) = apL.apV (stripV (aev cx ρ a)) := (rfl)
theorem apV_sl {o lo len : Nat} : apL.apV (.sl o lo len) = some o := (rfl)
theorem apV_nil : apL.apV .nilsl = none := (rfl)
theorem ap_nOk {f : List Nat} {as : Array Operand} {ts : Array TypeId} : nOk x.cx (some f) ⟨dst, .call ⟨.builtin .append, as, ts⟩, ty, pos, aft, g⟩ s = apQ f g (apL x.cx s.ρ as.toList) := by
 show apOk (some f) g (appO x.cx s.ρ (.call ⟨.builtin .append, as, ts⟩)) = _
 have : appO x.cx s.ρ (.call ⟨.builtin .append, as, ts⟩) = apL x.cx s.ρ as.toList := by
  simp only [appO]
  cases as.toList with
  | nil => rfl
  | cons a r =>
   simp only [apL, apL.apV]
   cases stripV (aev x.cx s.ρ a) <;> rfl
 rw [this]
 cases apL x.cx s.ρ as.toList with
 | none => simp [apOk, apQ]
 | some p => rfl
theorem ex_append {as : Array Operand} {ts : Array TypeId} : (ex x (n + 1) (.o (none) os (⟨dst, .call ⟨.builtin .append, as, ts⟩, ty, pos, aft, g⟩ :: l)) k s = gS x n (none) os l k (match gcond (os.map (·.dst)) s.ρ g with | none => none | some c => sappend x.cx (frL (none)) c ⟨dst, .call ⟨.builtin .append, as, ts⟩, ty, pos, aft, g⟩ as.toList ts.toList s)) /\
  (∀ f : List Nat, ex x (n + 1) (.o (some f) os (⟨dst, .call ⟨.builtin .append, as, ts⟩, ty, pos, aft, g⟩ :: l)) k s = hO (apQ f g (apL x.cx s.ρ as.toList)) (gS x n (some f) os l k (match gcond (os.map (·.dst)) s.ρ g with | none => none | some c => sappend x.cx (frL (some f)) c ⟨dst, .call ⟨.builtin .append, as, ts⟩, ty, pos, aft, g⟩ as.toList ts.toList s))) := by
 constructor
 ·rw [ex_Ap, nOk_none]; rfl
 ·intro f
  rw [ex_Ap, ap_nOk]
def gC (x : Xe R) (n : Nat) (fr : Option (List Nat)) (os l : List Oper) (k : List Fr) (o : Oper) (cl : Call) (f : Operand) (s : St) (q : Option FuncId) (c : Option Bool) : Option (R × Prop) :=
 match q with
 | some kk => match c with
  | some true => gS x n fr os l k (stP x.cx o cl kk s (qR x.S x.A s.H (o.dst.getD 0) kk (avOf x.cx s [] [] cl)))
  | some false => gS x n fr os l k (some (putv s o.dst (wrapg o.guard false (noV x.cx.P o.type)), True))
  | none => none
 | none => match c with
  | some true => gS x n fr os l k (stCall x.cx x.S x.A fr o cl f s (stripV (aev x.cx s.ρ f)))
  | some false => gS x n fr os l k (stNo x.cx fr o s)
  | none => none
theorem gC_true {o : Oper} {cl : Call} {f : Operand} : gC x n fr os l k o cl f s none (some true) = gS x n fr os l k (stCall x.cx x.S x.A fr o cl f s (stripV (aev x.cx s.ρ f))) := (rfl)
theorem gC_false {o : Oper} {cl : Call} {f : Operand} : gC x n fr os l k o cl f s none (some false) = gS x n fr os l k (stNo x.cx fr o s) := (rfl)
theorem gC_ptrue {o : Oper} {cl : Call} {f : Operand} {kk : FuncId} : gC x n fr os l k o cl f s (some kk) (some true) = gS x n fr os l k (stP x.cx o cl kk s (qR x.S x.A s.H (o.dst.getD 0) kk (avOf x.cx s [] [] cl))) := (rfl)
theorem gC_pfalse {o : Oper} {cl : Call} {f : Operand} {kk : FuncId} : gC x n fr os l k o cl f s (some kk) (some false) = gS x n fr os l k (some (putv s o.dst (wrapg o.guard false (noV x.cx.P o.type)), True)) := (rfl)
def pcF (A : An) (d : Bool) : Operand -> Option FuncId
 | .func k => if (A.pur k || A.bor k || A.ro k) = true /\ d = true then some k else none
 | _ => none
theorem pcF_func {A : An} {d : Bool} {kk : FuncId} : pcF A d (.func kk) = if (A.pur kk || A.bor kk || A.ro kk) = true /\ d = true then some kk else none := (rfl)
theorem pcF_tmp {A : An} {d : Bool} {t : Tmp} : pcF A d (.tmp t) = none := (rfl)
theorem stepX_gC {f : Operand} {as : Array Operand} {ts : Array TypeId} : gStep (ex x n) fr os l k (stepX x.cx x.S x.A fr (os.map (·.dst)) ⟨dst, .call ⟨.value f, as, ts⟩, ty, pos, aft, g⟩ s) = gC x n fr os l k ⟨dst, .call ⟨.value f, as, ts⟩, ty, pos, aft, g⟩ ⟨.value f, as, ts⟩ f s (pcF x.A dst.isSome f) (gcond (os.map (·.dst)) s.ρ g) := by
 have hpc : qId x.A ⟨dst, .call ⟨.value f, as, ts⟩, ty, pos, aft, g⟩ = pcF x.A dst.isSome f := by cases f <;> rfl
 rw [<- hpc]
 simp only [stepX, stX]
 cases hp : qId x.A ⟨dst, .call ⟨.value f, as, ts⟩, ty, pos, aft, g⟩ with
 | none => cases hg : gcond (os.map (·.dst)) s.ρ g with
  | none => rfl
  | some c => cases c <;> rfl
 | some k => cases hg : gcond (os.map (·.dst)) s.ρ g with
  | none => rfl
  | some c => cases c <;> rfl
def pcA (A : An) (fr : Option (List Nat)) (f : Operand) : Bool := match fr with
 | some _ => false
 | none => match f with
  | .func k => A.fra k
  | _ => false
theorem pcA_some {A : An} {fr : List Nat} {f : Operand} : pcA A (some fr) f = false := (rfl)
theorem pcA_func {A : An} {kk : FuncId} : pcA A none (.func kk) = A.fra kk := (rfl)
theorem pcA_tmp {A : An} {t : Tmp} : pcA A none (.tmp t) = false := (rfl)
def gA1 (x : Xe R) (n : Nat) (fr : Option (List Nat)) (os l : List Oper) (k : List Fr) (o : Oper) (cl : Call) (f : Operand) (q : Option FuncId) (r : Option (St × Prop)) : Option (R × Prop) := match r with
 | some (s1, φ) => andP φ (gC x n fr os l k o cl f s1 q (gcond (os.map (·.dst)) s1.ρ o.guard))
 | none => none
theorem gA1_some {o : Oper} {cl : Call} {f : Operand} {q : Option FuncId} {φ : Prop} : gA1 x n fr os l k o cl f q (some (s, φ)) = andP φ (gC x n fr os l k o cl f s q (gcond (os.map (·.dst)) s.ρ o.guard)) := (rfl)
def gA (x : Xe R) (n : Nat) (fr : Option (List Nat)) (os l : List Oper) (k : List Fr) (o : Oper) (cl : Call) (f : Operand) (q : Option FuncId) (s : St) (b : Bool) : Option (R × Prop) := match b with
 | false => gC x n fr os l k o cl f s q (gcond (os.map (·.dst)) s.ρ o.guard)
 | true => gA1 x n fr os l k o cl f q (frzR s (reach 500 s.H (AV.rl.rls (avOf x.cx s [] [] cl)) []))
theorem gA_false {o : Oper} {cl : Call} {f : Operand} {q : Option FuncId} : gA x n fr os l k o cl f q s false = gC x n fr os l k o cl f s q (gcond (os.map (·.dst)) s.ρ o.guard) := (rfl)
theorem gA_true {o : Oper} {cl : Call} {f : Operand} {q : Option FuncId} : gA x n fr os l k o cl f q s true = gA1 x n fr os l k o cl f q (frzR s (reach 500 s.H (AV.rl.rls (avOf x.cx s [] [] cl)) [])) := (rfl)
theorem frzR_some {l : List Nat} : frzR s (some l) = frzS l.reverse s := (rfl)
theorem frzS_nil : frzS [] s = some (s, True) := by rw [frzS]
theorem frzS_cons {o : Nat} {l : List Nat} : frzS (o :: l) s = frzS.frzO l s o (s.H o) := by rw [frzS]
theorem frzO_some {o : Nat} {l : List Nat} {ob : Ob} : frzS.frzO l s o (some ob) = frzS.frzP (immB ob = true) (frzS l ⟨fun t => frzA o ob (s.ρ t), frzH o ob s.H⟩) := by rw [frzS.frzO]
theorem frzP_some {φ ψ : Prop} : frzS.frzP φ (some (s, ψ)) = some (s, φ /\ ψ) := by rw [frzS.frzP]
theorem ex_call {f : Operand} {as : Array Operand} {ts : Array TypeId} : ex x (n + 1) (.o fr os (⟨dst, .call ⟨.value f, as, ts⟩, ty, pos, aft, g⟩ :: l)) k s = gA x n fr os l k ⟨dst, .call ⟨.value f, as, ts⟩, ty, pos, aft, g⟩ ⟨.value f, as, ts⟩ f (pcF x.A dst.isSome f) s (pcA x.A fr f) := by
 have : nilX x.cx fr ⟨dst, .call ⟨.value f, as, ts⟩, ty, pos, aft, g⟩ s = none := by cases fr with
  | none => exact nilQ_no' (by simp)
  | some f => rfl
 rw [ex_gl (glX_no rfl)]
 rw [this]
 show gPre _ _ _ _ _ _ _ _ (preX _ _ _ _ _) = _
 have two : ∀ s : St, gStep (ex x n) fr os l k (stepN x.cx x.S x.A fr (os.map (·.dst)) ⟨dst, .call ⟨.value f, as, ts⟩, ty, pos, aft, g⟩ s) = gC x n fr os l k ⟨dst, .call ⟨.value f, as, ts⟩, ty, pos, aft, g⟩ ⟨.value f, as, ts⟩ f s (pcF x.A dst.isSome f) (gcond (os.map (·.dst)) s.ρ g) := fun s => stepX_gC
 cases fr with
 | some fr => exact two s
 | none =>
  cases f with
  | func kk =>
   show gPre _ _ _ _ _ _ _ _ (if x.A.fra kk = true then _ else none) = gA _ _ _ _ _ _ _ _ _ _ _ (x.A.fra kk)
   cases x.A.fra kk with
   | false => exact two s
   | true =>
    rw [if_pos rfl, gA_true]
    cases frzR s (reach 500 s.H (AV.rl.rls (avOf x.cx s [] [] ⟨.value (.func kk), as, ts⟩)) []) with
    | none => rfl
    | some r => obtain ⟨s1, φ⟩ := r; show andP φ _ = andP φ _; rw [two s1]
  | tmp t => exact two s
  | const v => exact two s
  | global v => exact two s
theorem stCall_fn {cx : Cx} {S : Sig} {A : An} {o : Oper} {cl : Call} {f : Operand} {k : FuncId} {first cap : List AV} :
  stCall cx S A fr o cl f s (.fn (.func k) first cap) = if A.bor k = true then stB cx o cl f s (brwK S s.H k (avOf cx s first cap cl)) else stH cx fr o cl f s (hoK S s.H (o.dst.getD 0) k (avOf cx s first cap cl)) := rfl
theorem stB_some {cx : Cx} {o : Oper} {cl : Call} {f : Operand} {r : AV} {φ : Prop} : stB cx o cl f s (some (r, φ)) = some (putv s o.dst (wrapg o.guard true r), φ /\ allB cx s.ρ (f :: cl.args.toList) = true) := (rfl)
theorem stH_some {cx : Cx} {o : Oper} {cl : Call} {f : Operand} {h : HO} {φ : Prop} : stH cx fr o cl f s (some (h, φ)) = if clr fr s h = true then some (putv { (dropAll s h.lost) with H := newH h (dropAll s h.lost).H } o.dst (wrapg o.guard true (ren (tau h.τ) h.r)), φ /\ allB cx s.ρ (f :: cl.args.toList) = true) else none := (rfl)
theorem clr_none {h : HO} : clr none s h = true := (rfl)
theorem clr_some {g : List Nat} {h : HO} : clr (some g) s h = clearOf g s.ρ (h.badG g) := (rfl)
theorem stP_some {cx : Cx} {o : Oper} {cl : Call} {kk : FuncId} {r : AV} {φ : Prop} : stP cx o cl kk s (some (r, φ)) = some (putv s o.dst (wrapg o.guard true r), φ /\ allB cx s.ρ (.func kk :: cl.args.toList) = true) := (rfl)
theorem stP_ite {cx : Cx} {o : Oper} {cl : Call} {kk : FuncId} {c : Prop} [Decidable c] {a b : Option (AV × Prop)} : stP cx o cl kk s (if c then a else b) = if c then stP cx o cl kk s a else stP cx o cl kk s b := by split <;> rfl
theorem pcQ_some {pu : Bool} {r : AV} {l' : HL} {φ : Prop} : pcQ pu (some ((r, l'), φ)) = if (pu && r.pure) = true then some (r, φ) else none := (rfl)
theorem pcQ_ite {pu : Bool} {c : Prop} [Decidable c] {a b : Option ((AV × HL) × Prop)} : pcQ pu (if c then a else b) = if c then pcQ pu a else pcQ pu b := by split <;> rfl
theorem qR_eq {S : Sig} {A : An} {H : Hp} {d : Nat} {kk : FuncId} {av : List AV} : qR S A H d kk av = if A.pur kk = true then pcR S kk av else if A.bor kk = true then brwK S H kk av else roK S H d kk av := (rfl)
theorem roK_eq {S : Sig} {H : Hp} {d : Nat} {kk : FuncId} {av : List AV} : roK S H d kk av = roS S H d kk av (reach 500 H (AV.rl.rls av) []) := (rfl)
theorem roS_some {S : Sig} {H : Hp} {d : Nat} {kk : FuncId} {av : List AV} {seen : List Nat} : roS S H d kk av (some seen) = roR H d seen (S.F kk (av.map (ren (tau (nums 100000 seen)))) (obsOf H (nums 100000 seen) seen)) := (rfl)
theorem roR_some {H : Hp} {d : Nat} {seen : List Nat} {r : AV} {l' : HL} {φ : Prop} : roR H d seen (some ((r, l'), φ)) = if r.pure = true then some (r, φ /\ seen.length < 1000 /\ freE H (frN ((nums 100000 seen).map (·.2)) (50000 + 50 * d) l') /\ l' = obsOf H (nums 100000 seen) seen) else none := (rfl)
theorem roR_ite {H : Hp} {d : Nat} {seen : List Nat} {c : Prop} [Decidable c] {a b : Option ((AV × HL) × Prop)} : roR H d seen (if c then a else b) = if c then roR H d seen a else roR H d seen b := by split <;> rfl
theorem pcR_eq {S : Sig} {kk : FuncId} {av : List AV} : pcR S kk av = pcQ (AV.pure.pures av) (S.F kk av []) := (rfl)
-- the answer's ways
theorem stB_ite {cx : Cx} {o : Oper} {cl : Call} {f : Operand} {c : Prop} [Decidable c] {a b : Option (AV × Prop)} : stB cx o cl f s (if c then a else b) = if c then stB cx o cl f s a else stB cx o cl f s b := by split <;> rfl
theorem stH_ite {cx : Cx} {o : Oper} {cl : Call} {f : Operand} {c : Prop} [Decidable c] {a b : Option (HO × Prop)} : stH cx fr o cl f s (if c then a else b) = if c then stH cx fr o cl f s a else stH cx fr o cl f s b := by split <;> rfl
theorem hoR_ite {H : Hp} {d : Nat} {av : List AV} {seen : List Nat} {c : Prop} [Decidable c] {a b : Option ((AV × HL) × Prop)} : hoR H d av seen (if c then a else b) = if c then hoR H d av seen a else hoR H d av seen b := by split <;> rfl
theorem brwR_ite {pu : Bool} {φ : Prop} {c : Prop} [Decidable c] {a b : Option ((AV × HL) × Prop)} : brwR pu φ (if c then a else b) = if c then brwR pu φ a else brwR pu φ b := by split <;> rfl
theorem gS_ite {c : Prop} [Decidable c] {a b : Option (St × Prop)} : gS x n fr os l k (if c then a else b) = if c then gS x n fr os l k a else gS x n fr os l k b := by split <;> rfl
theorem andP_ite {φ : Prop} {c : Prop} [Decidable c] {a b : Option (R × Prop)} : andP φ (if c then a else b) = if c then andP φ a else andP φ b := by split <;> rfl
theorem hoR_some {H : Hp} {d : Nat} {av : List AV} {seen : List Nat} {r : AV} {l' : HL} {φ : Prop} : hoR H d av seen (some ((r, l'), φ)) = some (mkHO av seen H d r l', φ /\ seen.length < 1000 /\ freE H (frN ((nums 100000 seen).map (·.2)) (50000 + 50 * d) l')) := (rfl)
theorem hoS_some {S : Sig} {H : Hp} {d : Nat} {kk : FuncId} {av : List AV} {seen : List Nat} : hoS S H d kk av (some seen) = hoR H d av seen (S.F kk (av.map (ren (tau (nums 100000 seen)))) (obsOf H (nums 100000 seen) seen)) := (rfl)
theorem hoK_eq {S : Sig} {H : Hp} {d : Nat} {kk : FuncId} {av : List AV} : hoK S H d kk av = hoS S H d kk av (reach 500 H (AV.rl.rls av) []) := (rfl)
theorem brwK_eq {S : Sig} {H : Hp} {kk : FuncId} {av : List AV} : brwK S H kk av = brwS S H kk av (reach 500 H (AV.rl.rls av) []) := (rfl)
theorem brwS_some {S : Sig} {H : Hp} {kk : FuncId} {av : List AV} {seen : List Nat} : brwS S H kk av (some seen) = brwF S kk (frzL seen.reverse av H) := (rfl)
theorem brwF_some {S : Sig} {kk : FuncId} {av : List AV} {φ : Prop} : brwF S kk (some (av, φ)) = brwR (AV.pure.pures (av.map telE)) φ (S.F kk (av.map telE) []) := (rfl)
theorem brwR_some {pu : Bool} {φ ψ : Prop} {r : AV} {l' : HL} : brwR pu φ (some ((r, l'), ψ)) = if (pu && r.flat) = true then some (r, φ /\ ψ) else none := (rfl)
end
/-! regions that copy -/
section
variable {cx : Cx} {ds : List (Option Tmp)} {s s1 : St} {dst : Option Tmp} {ty : TypeId} {pos : String} {aft : Array Edge}
def srR (step : Oper -> St -> Option (St × Prop)) (r : List Oper) (x : Option (St × Prop)) : Option (St × Prop) := match x with
 | some (s1, φ1) => srR2 φ1 (srunG step r s1)
 | none => none
where
 srR2 (φ1 : Prop) (y : Option (St × Prop)) : Option (St × Prop) := match y with
  | some (s2, φ2) => some (s2, φ1 /\ φ2)
  | none => none
theorem srunG_nil {step : Oper -> St -> Option (St × Prop)} : srunG step [] s = some (s, True) := (rfl)
theorem srunG_cons {step : Oper -> St -> Option (St × Prop)} {o : Oper} {r : List Oper} : srunG step (o :: r) s = srR step r (step o s) := (rfl)
theorem srR_some {step : Oper -> St -> Option (St × Prop)} {r : List Oper} {φ : Prop} : srR step r (some (s, φ)) = srR.srR2 φ (srunG step r s) := (rfl)
theorem srR2_some {φ ψ : Prop} : srR.srR2 φ (some (s, ψ)) = some (s, φ /\ ψ) := (rfl)
def svC (cx : Cx) (dst : Option Tmp) (l : List Operand) (s : St) (x : Option (AV × Prop)) : Option (St × Prop) := match x with
 | some (v, φ) => some (putv s dst v, allB cx s.ρ l = true /\ φ)
 | none => none
theorem svC_some {l : List Operand} {v : AV} {φ : Prop} : svC cx dst l s (some (v, φ)) = some (putv s dst v, allB cx s.ρ l = true /\ φ) := (rfl)
theorem svop_C {op : Op} : svop cx true ⟨dst, op, ty, pos, aft, none⟩ s = (svC cx dst (opnds op) s (vop cx.P s.H [] (fun z => stripV (aev cx s.ρ z)) op)).map (fun p => (p.1, true = true -> p.2)) := by
 unfold svop svC
 simp only
 cases vop cx.P s.H [] (fun z => stripV (aev cx s.ρ z)) op with
 | none => rfl
 | some r => obtain ⟨v, φ⟩ := r; rfl
theorem map_tt {x : Option (St × Prop)} : x.map (fun p => (p.1, true = true -> p.2)) = x := by
 cases x with
 | none => rfl
 | some p => obtain ⟨a, b⟩ := p; simp
theorem stepC_move {a : Operand} : stepC cx ds ⟨dst, .move a, ty, pos, aft, none⟩ s = some (putv s dst (aev cx s.ρ a), True) := (rfl)
theorem stepC_assign {a : Operand} : stepC cx ds ⟨dst, .assign a, ty, pos, aft, none⟩ s = some (putv s dst (aev cx s.ρ a), True) := (rfl)
theorem stepC_binOp {b : BinOp} {t t2 : TypeId} {x y : Operand} : stepC cx ds ⟨dst, .binOp b t x y t2, ty, pos, aft, none⟩ s = svC cx dst [x, y] s (vop cx.P s.H [] (fun z => stripV (aev cx s.ρ z)) (.binOp b t x y t2)) := by
 show (if true = true then svop cx true ⟨dst, .binOp b t x y t2, ty, pos, aft, none⟩ s else none) = _
 rw [if_pos rfl, svop_C, map_tt]; rfl
theorem outside_nil {x : AV} : outside [] x = true := by unfold outside; split <;> rfl
theorem headOut_nil' {ρ : Nat -> AV} {op : Op} : headOut cx ρ [] op = true := by
 unfold headOut
 split
 ·exact outside_nil
 ·rfl
theorem stepC_slice {t : TypeId} {x : Operand} {lo hi mx : Option Operand} : stepC cx ds ⟨dst, .slice t x lo hi mx, ty, pos, aft, none⟩ s = svC cx dst (x :: (lo.toList ++ hi.toList ++ mx.toList)) s (vop cx.P s.H [] (fun z => stripV (aev cx s.ρ z)) (.slice t x lo hi mx)) := by
 show (if true = true then (if headOut cx s.ρ [] (.slice t x lo hi mx) = true then svop cx true ⟨dst, .slice t x lo hi mx, ty, pos, aft, none⟩ s else none) else none) = _
 rw [if_pos rfl, if_pos headOut_nil', svop_C, map_tt]; rfl
def scP (dst : Option Tmp) (s : St) (ψ : Prop) (x : Option (Hp × AV × Prop)) : Option (St × Prop) := match x with
 | some (H', v, φ) => some (putv { s with H := H' } dst v, φ /\ ψ)
 | none => none
theorem scP_some {H' : Hp} {v : AV} {φ ψ : Prop} : scP dst s ψ (some (H', v, φ)) = some (putv { s with H := H' } dst v, φ /\ ψ) := (rfl)
theorem stepC_copy {x y : Operand} {t t2 : TypeId} : stepC cx ds ⟨dst, .call ⟨.builtin .copy, #[x, y], #[t, t2]⟩, ty, pos, aft, none⟩ s = scP dst s (stripB (aev cx s.ρ x) = true /\ stripB (aev cx s.ρ y) = true) (vcopy cx.P s.H t (stripV (aev cx s.ρ x)) (stripV (aev cx s.ρ y))) := by
 show scpy cx _ false [x, y] [t, t2] s = _
 unfold scpy scP
 simp only
 cases vcopy cx.P s.H t (stripV (aev cx s.ρ x)) (stripV (aev cx s.ρ y)) <;> rfl
theorem stepC_clear {x : Operand} {t : TypeId} : stepC cx ds ⟨dst, .call ⟨.builtin .clear, #[x], #[t]⟩, ty, pos, aft, none⟩ s = scP dst s (stripB (aev cx s.ρ x) = true) (vclear cx.P s.H t (stripV (aev cx s.ρ x))) := by
 show scpy cx _ true [x] [t] s = _
 unfold scpy scP
 simp only
 cases vclear cx.P s.H t (stripV (aev cx s.ρ x)) <;> rfl
end
end Go.Aw

/- The interpreter, ready for evaluation. Own work. -/
namespace Go.Aw
open Go
set_option linter.unusedVariables false
def get2 {α : Type} (f k : Nat) : List (Nat × Nat × α) -> Option α
 | [] => none
 | (f', k', x) :: l => if f = f' /\ k = k' then some x else get2 f k l
def get1 {α : Type} (f : Nat) : List (Nat × α) -> Option α
 | [] => none
 | (f', x) :: l => if f = f' then some x else get1 f l
def has2 (f k : Nat) : List (Nat × Nat) -> Bool
 | [] => false
 | (f', k') :: l => (f == f' && k == k') || has2 f k l
theorem has2_nil {f k : Nat} : has2 f k [] = false := (rfl)
theorem has2_cons {f k a b : Nat} {l : List (Nat × Nat)} : has2 f k ((a, b) :: l) = ((f == a && k == b) || has2 f k l) := (rfl)
def fz2 (f k : Nat) : List (Nat × Nat × List Tmp) -> List Tmp
 | [] => []
 | (a, b, t) :: l => if (f == a && k == b) = true then t else fz2 f k l
theorem fz2_nil {f k : Nat} : fz2 f k [] = [] := (rfl)
theorem fz2_cons {f k a b : Nat} {t : List Tmp} {l : List (Nat × Nat × List Tmp)} : fz2 f k ((a, b, t) :: l) = if (f == a && k == b) = true then t else fz2 f k l := (rfl)
def mkAn (bor pur ro ok : List Nat) (keep : List (Nat × Nat × List Tmp)) (fix : List (Nat × Nat × List (Nat × List Nat × Nat))) (frl : List (Nat × Nat)) (res : List (Nat × List (Nat × List Nat × Nat))) (frz : List Nat) (dr : List (Nat × Nat × List Nat × Bool × List Tmp × List (Option Tmp))) (fra : List Nat) (cp : List (Nat × Nat)) (giv : FuncId -> List AV -> HL -> Option ((AV × HL) × Prop) := fun _ _ _ => none) (seq : FuncId -> List AV -> Option (List AV × Prop) := fun _ _ => none) (ord : List (Nat × Nat × OT) := []) (sty : List Nat := []) (lz : List Nat := []) (fzr : List (Nat × Nat × List Tmp) := []) : An :=
 {bor := fun k => bor.contains k, pur := fun k => pur.contains k, ro := fun k => ro.contains k, dr := fun f k => get2 f k dr, ok := fun k => ok.contains k, keep := fun f k => get2 f k keep, fix := fun f k => (get2 f k fix).getD [], frl := fun f k => has2 f k frl, res := fun f => (get1 f res).getD [], frz := fun k => frz.contains k, fra := fun k => fra.contains k, cp := fun f k => has2 f k cp, giv := giv, seq := seq, ord := fun f k => (get2 f k ord).getD .prog, sty := fun k => sty.contains k, lz := fun k => lz.contains k, fzr := fun f k => fz2 f k fzr }
section
variable {P : Program} {G : Nat -> AV} {A : An} {S : Sig} {f : FuncId} {a : List AV} {l : HL} {n : Nat} {rs : List ResultVar} {c : Code}
def xF (P : Program) (G : Nat -> AV) (A : An) (S : Sig) (f : FuncId) (a : List AV) (l : HL) (n : Nat) (rs : List ResultVar) : Xe (AV × HL) := ⟨cxE P G n, S, A, f, stayA A f a l, retK P G A f rs l (stayA A f a l)⟩
theorem xF_P : (xF P G A S f a l n rs).cx.P = P := rfl
theorem xF_G : (xF P G A S f a l n rs).cx.G = G := rfl
theorem xF_S : (xF P G A S f a l n rs).S = S := rfl
theorem xF_A : (xF P G A S f a l n rs).A = A := rfl
theorem xF_f : (xF P G A S f a l n rs).f = f := rfl
theorem xF_ps : (xF P G A S f a l n rs).ps = stayA A f a l := rfl
theorem xF_cx : (xF P G A S f a l n rs).cx = cxE P G n := rfl
theorem xF_ret {s : St} : (xF P G A S f a l n rs).K .ret s = rk1 A f l (stayA A f a l) s.H (resAs (cxE P G 0) s rs) := rfl
theorem xF_normal {s : St} : (xF P G A S f a l n rs).K .normal s = rk1 A f l (stayA A f a l) s.H (resAs (cxE P G 0) s rs) := rfl
theorem xF_exit {s : St} {id : Nat} : (xF P G A S f a l n rs).K (.exit id) s = none := rfl
def goX (P : Program) (G : Nat -> AV) (A : An) (S : Sig) (f : FuncId) (a : List AV) (l : HL) (n : Nat) (rs : List ResultVar) (c : Code) (b1 b2 : Bool) : Option ((AV × HL) × Prop) :=
 if b1 = true /\ b2 = true then ex (xF P G A S f a l n rs) 1000000 (.c c) [] (argsH a l) else none
theorem goX_true : goX P G A S f a l n rs c true true = ex (xF P G A S f a l n rs) 1000000 (.c c) [] (argsH a l) := (rfl)
theorem ev_fun {fn : Func} (hok : A.ok f = true) (hf : P.funcs[f]? = some fn) (hb : fn.body = some c) (hr : fn.results.toList = rs) (hn : fn.ntmps = n) (a : List AV) (l : HL) :
  (ev P G A).F f a l = goX P G A (ev P G A) f a l n rs c (decide (a.length ≤ n)) (inOk l) := by
 have hbf : bodyF P A f = some (n, c, rs) := by simp only [bodyF, if_pos hok, hf, hb, hr, hn]
 rw [ev_Fof hbf]
 simp only [goF', goX, decide_eq_true_iff]
 rfl
def xL (P : Program) (G : Nat -> AV) (A : An) (S : Sig) (f : FuncId) (key n : Nat) (keep : List Tmp) (l : HL) : Xe (Exit × List AV × HL) := ⟨cxE P G n, S, A, f, psL l, loopK A S f key keep (psL l)⟩
variable {key : Nat} {keep : List Tmp}
theorem xL_P : (xL P G A S f key n keep l).cx.P = P := rfl
theorem xL_G : (xL P G A S f key n keep l).cx.G = G := rfl
theorem xL_S : (xL P G A S f key n keep l).S = S := rfl
theorem xL_A : (xL P G A S f key n keep l).A = A := rfl
theorem xL_f : (xL P G A S f key n keep l).f = f := rfl
theorem xL_ps : (xL P G A S f key n keep l).ps = psL l := rfl
theorem xL_cx : (xL P G A S f key n keep l).cx = cxE P G n := rfl
theorem xL_ret {s : St} : (xL P G A S f key n keep l).K .ret s = lk2 .ret (canV 60000 (modeL (A.frl f key)) (A.fix f key) (psL l) (keep.map s.ρ) s.H) := rfl
theorem xL_normal {s : St} : (xL P G A S f key n keep l).K .normal s = lk1 S f key (canV 60000 (modeL (A.frl f key)) (A.fix f key) (psL l) (keep.map s.ρ) s.H) := rfl
theorem xL_exit {s : St} {id : Nat} : (xL P G A S f key n keep l).K (.exit id) s = lk2 (.exit id) (canV 60000 (modeL (A.frl f key)) (A.fix f key) (psL l) (keep.map s.ρ) s.H) := rfl
theorem ev_loop {fn : Func} {b : Code} (hok : A.ok f = true) (hf : P.funcs[f]? = some fn) (hb : fn.body = some c) (hn : fn.ntmps = n) (hl : findL key (loopsOf c) = some (.loop b)) (hk : A.keep f key = some keep) (v : List AV) (l : HL) :
  (ev P G A).L f key v l = ex (xL P G A (ev P G A) f key n keep l) 1000000 (.c b) [] (St.mk' (keep.zip v) l) := by
 have hbf : bodyF P A f = some (n, c, fn.results.toList) := by simp only [bodyF, if_pos hok, hf, hb, hn]
 have hbl : bodyL P A f key = some (n, .loop b, keep) := by simp only [bodyL, hbf, hl, hk]
 rw [ev_Lof hbl]
 rfl
end
theorem lk1_some {S : Sig} {f : FuncId} {key : Nat} {vals : List AV} {l : HL} {φ : Prop} : lk1 S f key (some ((vals, l), φ)) = andP φ (S.L f key vals l) := (rfl)
theorem lk2_some {e : Exit} {vals : List AV} {l : HL} {φ : Prop} : lk2 e (some ((vals, l), φ)) = some ((e, vals, l), φ) := (rfl)
theorem rk1_some {A : An} {f : FuncId} {l : HL} {ps : List Nat} {H : Hp} {vals : List AV} {φ : Prop} : rk1 A f l ps H (some (vals, φ)) = rk2 φ l (canV 200000 (modeF (A.frz f)) (A.res f) ps vals H) := (rfl)
theorem rk2_some {l : HL} {vals : List AV} {l' : HL} {φ ψ : Prop} : rk2 φ l (some ((vals, l'), ψ)) = some ((tupA vals, l'), φ /\ ψ /\ pinsC l l' (surv (dom l) l')) := (rfl)
theorem canM_some {fz : Bool} {base : Nat} {fixes : List (Nat × List Nat × Nat)} {ps : List Nat} {v1 : List AV} {H1 : Hp} {φ : Prop} : canM fz base fixes ps (some ((v1, H1), φ)) = canF base (!fixes.isEmpty) ps v1 H1 φ (fixA fz 0 fixes (v1, H1)) := (rfl)
theorem canF_eq {base : Nat} {fx : Bool} {ps : List Nat} {v1 v2 : List AV} {H1 H2 : Hp} {φ : Prop} : canF base fx ps v1 H1 φ (v2, H2) = canR base fx ps v1 H1 φ v2 H2 (reach 500 H2 (AV.rl.rls v2 ++ ltPs H2 ps) []) := (rfl)
theorem canR_some {base : Nat} {fx : Bool} {ps seen : List Nat} {v1 v2 : List AV} {H1 H2 : Hp} {φ : Prop} :
  canR base fx ps v1 H1 φ v2 H2 (some seen) = some ((v2.map (ren (tau (nmS base ps seen))), obsOf H2 (nmS base ps seen) seen), φ /\ seen.length < 1000 /\ (if fx = true then le.les (obs0 H2 seen) v1 v2 /\ heapX H1 (obs0 H2 seen) (obs0 H2 seen) else True)) := rfl
theorem heapX_nil {H : Hp} {l' : HL} : heapX H l' [] = True := (rfl)
theorem heapX_cons {H : Hp} {l' l : HL} {o : Nat} {ob : Ob} : heapX H l' ((o, ob) :: l) = (heapX.obX l' o (H o) ob /\ heapX H l' l) := (rfl)
theorem obX_some {l' : HL} {o : Nat} {b b' : Bool} {z z' : Nat} {e e' : List AV} : heapX.obX l' o (some ⟨b, z, e⟩) ⟨b', z', e'⟩ = (b = b' /\ z = z' /\ le.les l' e e') := (rfl)
theorem obX_none {l' : HL} {o : Nat} {b' : Bool} {z' : Nat} {e' : List AV} : heapX.obX l' o none ⟨b', z', e'⟩ = (b' = false /\ e' = [] /\ o < 100000) := (rfl)
theorem canV_eq {base mode : Nat} {fixes : List (Nat × List Nat × Nat)} {ps : List Nat} {vals : List AV} {H : Hp} : canV base mode fixes ps vals H = canS base mode fixes ps vals H fixes.isEmpty := (rfl)
theorem canS_true {base mode : Nat} {fixes : List (Nat × List Nat × Nat)} {ps : List Nat} {vals : List AV} {H : Hp} : canS base mode fixes ps vals H true = canM (decide (mode = 1)) base [] ps (frzM (frzW mode ps vals H) vals H) := (rfl)
theorem canS_false {base mode : Nat} {fixes : List (Nat × List Nat × Nat)} {ps : List Nat} {vals : List AV} {H : Hp} : canS base mode fixes ps vals H false = canU base mode ps vals H (fixA (decide (mode = 1)) 0 fixes (vals, H)) := (rfl)
theorem canU_eq {base mode : Nat} {ps : List Nat} {vals v2 : List AV} {H H2 : Hp} : canU base mode ps vals H (v2, H2) = canZ base mode ps vals H v2 H2 (reach 500 H2 (AV.rl.rls v2 ++ ltPs H2 ps) []) := (rfl)
theorem canZ_some {base mode : Nat} {ps : List Nat} {vals v2 : List AV} {H H2 : Hp} {seen : List Nat} : canZ base mode ps vals H v2 H2 (some seen) = canY (le.les (obs0 H2 seen) vals v2 /\ heapX H (obs0 H2 seen) (obs0 H2 seen)) (canM (decide (mode = 1)) base [] ps (frzM (frzW mode ps v2 (hp (obs0 H2 seen))) v2 (hp (obs0 H2 seen)))) := (rfl)
theorem canY_some {φ ψ : Prop} {r : List AV × HL} : canY φ (some (r, ψ)) = some (r, φ /\ ψ) := (rfl)
class RowF {α : Type} (f : α -> AV) : Prop where
 pure : ∀ x, (f x).pure = true
 imm : ∀ x, (f x).cells.all AV.isImm = true
theorem rl_pure {x : AV} (h : x.pure = true) : x.rl = [] := by
 have := (refs_rl (D := fun _ => false) x).1 (pure_refs h)
 cases hx : x.rl with
 | nil => rfl
 | cons o r => have := this o (by simp [hx]); cases this
section
variable {α : Type} {f : α -> AV} {l : List α}
theorem row_rl [h : RowF f] : AV.rl.rls (l.map f) = [] := by
 induction l with
 | nil => rfl
 | cons x l ih => simp only [List.map_cons, AV.rl.rls, rl_pure (h.pure x), ih, List.nil_append]
theorem ren_pure {τ : Nat -> Nat} {x : AV} (h : x.pure = true) : ren τ x = x := by
 have hl : ∀ l : List AV, (∀ x ∈ l, x.pure = true -> ren τ x = x) -> AV.pure.pures l = true -> ren.rens τ l = l := fun l => by
  induction l with
  | nil => intros; rfl
  | cons y l ihl =>
   intro ih h
   simp only [AV.pure.pures, Bool.and_eq_true] at h
   simp only [ren.rens]
   rw [ih y (by simp) h.1, ihl (fun x hx => ih x (by simp [hx])) h.2]
 induction x using AV.ind with
 | agg cs ih => simp only [ren]; rw [hl cs ih h]
 | tup cs ih => simp only [ren]; rw [hl cs ih h]
 | fn f a b iha ihb =>
  simp only [AV.pure, Bool.and_eq_true] at h
  simp only [ren]; rw [hl a iha h.1, hl b ihb h.2]
 | gd b v ih => simp only [ren]; rw [ih h]
 | ifc t v ih => simp only [ren]; rw [ih h]
 | leaf x hx => cases x <;> first | rfl | cases h | cases hx
theorem row_ren [h : RowF f] {τ : Nat -> Nat} : (l.map f).map (ren τ) = l.map f := by
 rw [List.map_map]; exact List.map_congr_left fun x _ => ren_pure (h.pure x)
theorem row_sub [h : RowF f] {o : Nat} {fs fp : Nat -> Nat -> AV} : (l.map f).map (sub o fs fp) = l.map f := by
 rw [List.map_map]; exact List.map_congr_left fun x _ => sub_pure (h.pure x)
theorem tel0_imm {x : AV} (h : x.isImm = true) : tel0 x = x := by
 cases x <;> first | rfl | cases h
theorem telE_imm {x : AV} (h : x.cells.all AV.isImm = true) : telE x = x := by
 cases x with
 | nilsl => simp [AV.cells, AV.isImm] at h
 | agg cs =>
  simp only [AV.cells, List.all_eq_true] at h
  show AV.agg (cs.map tel0) = _
  congr 1
  conv => rhs; rw [<- List.map_id cs]
  exact List.map_congr_left fun x hx => tel0_imm (h x hx)
 | _ => rfl
theorem row_telE [h : RowF f] : (l.map f).map telE = l.map f := by
 rw [List.map_map]
 exact List.map_congr_left fun x _ => telE_imm (h.imm x)
theorem row_tel0 [h : RowF f] : (l.map f).map tel0 = l.map f := by
 rw [List.map_map]
 refine List.map_congr_left fun x _ => ?_
 have := h.imm x
 show tel0 (f x) = f x
 cases hx : f x with
 | nilsl => rw [hx] at this; simp [AV.cells, AV.isImm] at this
 | _ => rfl
theorem telb : (∀ k n, telE (.int k n) = .int k n) /\ (∀ b, telE (.bool b) = .bool b) /\ (∀ s, telE (.str s) = .str s) /\ (telE .nilp = .nilp) /\ (∀ o i c, telE (.ptr o i c) = .ptr o i c) /\ (∀ e c, telE (.rop e c) = .rop e c) /\
  (telE .nilsl = .ro 1 []) /\ (∀ sz es, telE (.ro sz es) = .ro sz es) /\ (∀ o lo n, telE (.sl o lo n) = .sl o lo n) /\ (∀ cs, telE (.agg cs) = .agg (cs.map tel0)) /\ (∀ f a b, telE (.fn f a b) = .fn f a b) /\ (telE .nilf = .nilf) /\ (∀ t v, telE (.ifc t v) = .ifc t v) /\ (telE .nili = .nili) /\
  (∀ k n, tel0 (.int k n) = .int k n) /\ (∀ b, tel0 (.bool b) = .bool b) /\ (∀ s, tel0 (.str s) = .str s) /\ (tel0 .nilp = .nilp) /\ (∀ o i c, tel0 (.ptr o i c) = .ptr o i c) /\ (∀ e c, tel0 (.rop e c) = .rop e c) /\
  (tel0 .nilsl = .ro 1 []) /\ (∀ sz es, tel0 (.ro sz es) = .ro sz es) /\ (∀ o lo n, tel0 (.sl o lo n) = .sl o lo n) /\ (∀ cs, tel0 (.agg cs) = .agg cs) /\ (∀ f a b, tel0 (.fn f a b) = .fn f a b) /\ (tel0 .nilf = .nilf) /\ (∀ t v, tel0 (.ifc t v) = .ifc t v) /\ (tel0 .nili = .nili) /\ (∀ ob, telOb ob = ⟨ob.box, ob.sz, ob.es.map telE⟩) /\
  (∀ (n : Nat) (x : AV), (List.replicate n x).map telE = List.replicate n (telE x)) :=
 ⟨fun _ _ => rfl, fun _ => rfl, fun _ => rfl, rfl, fun _ _ _ => rfl, fun _ _ => rfl, rfl, fun _ _ => rfl, fun _ _ _ => rfl, fun _ => rfl, fun _ _ _ => rfl, rfl, fun _ _ => rfl, rfl,
  fun _ _ => rfl, fun _ => rfl, fun _ => rfl, rfl, fun _ _ _ => rfl, fun _ _ => rfl, rfl, fun _ _ => rfl, fun _ _ _ => rfl, fun _ => rfl, fun _ _ _ => rfl, rfl, fun _ _ => rfl, rfl, fun _ => rfl, fun _ _ => List.map_replicate⟩
theorem row_refs [h : RowF f] {D : Nat -> Bool} : (l.map f).all (·.refs D) = true := by
 rw [List.all_map, List.all_eq_true]; exact fun x _ => pure_refs (h.pure x)
theorem row_imm [h : RowF f] : (l.map f).all (fun e => e.cells.all AV.isImm) = true := by
 rw [List.all_map, List.all_eq_true]; exact fun x _ => h.imm x
theorem immB_eq {b : Bool} {z : Nat} {es : List AV} : immB ⟨b, z, es⟩ = es.all (fun e => e.cells.all AV.isImm) := rfl
theorem row_kill [h : RowF f] {o : Nat} : (∀ e ∈ l.map f, kill o e = e) = True := by
 refine eq_true fun e he => ?_
 obtain ⟨x, _, rfl⟩ := List.mem_map.1 he
 exact sub_pure (h.pure x)
theorem rls_app {a b : List AV} : AV.rl.rls (a ++ b) = AV.rl.rls a ++ AV.rl.rls b := by
 induction a with
 | nil => rfl
 | cons x a ih => simp only [List.cons_append, AV.rl.rls, ih, List.append_assoc]
theorem rls_nil : AV.rl.rls [] = [] := rfl
theorem rls_cons {x : AV} {r : List AV} : AV.rl.rls (x :: r) = x.rl ++ AV.rl.rls r := rfl
theorem ob_rl {b : Bool} {z : Nat} {es : List AV} : Ob.rl ⟨b, z, es⟩ = AV.rl.rls es := rfl
instance rf_str : RowF AV.str := ⟨fun _ => rfl, fun _ => rfl⟩
instance rf_int {k : IntKind} : RowF (AV.int k) := ⟨fun _ => rfl, fun _ => rfl⟩
instance rf_bool : RowF AV.bool := ⟨fun _ => rfl, fun _ => rfl⟩
theorem mem_app {p : AV -> Prop} {a b : List AV} : (∀ e ∈ a ++ b, p e) = ((∀ e ∈ a, p e) /\ ∀ e ∈ b, p e) := by
 simp only [List.mem_append, eq_iff_iff]
 exact ⟨fun h => ⟨fun e he => h e (.inl he), fun e he => h e (.inr he)⟩, fun h e he => he.elim (h.1 e) (h.2 e)⟩
theorem mem_one {p : AV -> Prop} {x : AV} : (∀ e ∈ [x], p e) = p x := by simp
theorem mem_nil' {p : AV -> Prop} : (∀ e ∈ ([] : List AV), p e) = True := by simp
theorem mem_cons' {p : AV -> Prop} {x : AV} {l : List AV} : (∀ e ∈ x :: l, p e) = (p x /\ ∀ e ∈ l, p e) := by simp
theorem wrap_id {x : Int} (h : -9223372036854775808 ≤ x) (h' : x ≤ 9223372036854775807) : IntKind.i64.wrap x = x := by
 rw [IntKind.wrap_i64]; omega
theorem ex_ob {b : Bool} {z : Nat} {es : List AV} : (∃ ob, some (⟨b, z, es⟩ : Ob) = some ob /\ ob.box = false) = (b = false) := by
 refine propext ⟨fun ⟨ob, h, h'⟩ => ?_, fun h => ⟨_, rfl, h⟩⟩
 cases h; exact h'
theorem imp_not {c : Bool} : (c = false -> (!c) = true) = True := by cases c <;> simp
theorem row_get {α : Type} {f : α -> AV} {l : List α} {i : Nat} (d : α) (h : i < l.length) : (l.map f).getD i .junk = f (l.getD i d) := by
 simp [List.getD_eq_getElem?_getD, List.getElem?_eq_getElem h]
end
theorem ev_fn {P : Program} {c : Code} (A : An) (G : Nat -> AV) (f n : Nat) (rs : List ResultVar) {fn : Func} (hok : A.ok f = true) (hf : P.funcs[f]? = some fn) (hb : fn.body = some c) (hr : fn.results.toList = rs) (hn : fn.ntmps = n) (a : List AV) (l : HL) :
  (ev P G A).F f a l = goX P G A (ev P G A) f a l n rs c (decide (a.length ≤ n)) (inOk l) := ev_fun hok hf hb hr hn a l
theorem ev_lp {P : Program} {c : Code} (A : An) (G : Nat -> AV) (f key n : Nat) (keep : List Tmp) {fn : Func} {b : Code} (hok : A.ok f = true) (hf : P.funcs[f]? = some fn) (hb : fn.body = some c) (hn : fn.ntmps = n) (hl : findL key (loopsOf c) = some (.loop b)) (hk : A.keep f key = some keep) (v : List AV) (l : HL) :
  (ev P G A).L f key v l = ex (xL P G A (ev P G A) f key n keep l) 1000000 (.c b) [] (St.mk' (keep.zip v) l) := ev_loop hok hf hb hn hl hk v l
end Go.Aw

/- What comes in, read as abstract values. Own work. -/
namespace Go.Aw
open Go Go.WideShapes Go.ChangeShapes
set_option linter.unusedVariables false
def PWL (R : AV -> Value -> Prop) (xs : List AV) (vs : List Value) : Prop := xs.length = vs.length /\ ∀ (j : Nat) (x : AV) (v : Value), xs[j]? = some x -> vs[j]? = some v -> R x v
theorem PWL.nil {R : AV -> Value -> Prop} : PWL R [] [] := ⟨rfl, fun _ _ _ h => by simp at h⟩
theorem PWL.one {R : AV -> Value -> Prop} {x : AV} {v : Value} (h : R x v) : PWL R [x] [v] := ⟨rfl, fun j x' v' h1 h2 => by
 cases j with
 | zero => cases h1; cases h2; exact h
 | succ j => simp at h1⟩
theorem PWL.app {R : AV -> Value -> Prop} {xs ys : List AV} {us vs : List Value} (h : PWL R xs us) (h' : PWL R ys vs) : PWL R (xs ++ ys) (us ++ vs) := by
 refine ⟨by rw [List.length_append, List.length_append, h.1, h'.1], fun j x v h1 h2 => ?_⟩
 rw [List.getElem?_append] at h1 h2
 rw [<- h.1] at h2
 split at h1
 ·rename_i hj; rw [if_pos hj] at h2; exact h.2 j x v h1 h2
 ·rename_i hj; rw [if_neg hj] at h2; exact h'.2 _ x v h1 h2
def isE (P : Program) (e : TypeId) (y : AV) : Prop :=
 match P.underlying e with
 | some (.struct _) | some (.array _ _) => ∃ cs, y = .agg cs
 | _ => y.cells = [y]
def typed (P : Program) : Nat -> TypeId -> List AV -> Prop
 | 0, _, _ => False
 | n + 1, t, xs => match P.underlying t with
  | some .bool => ∃ b, xs = [.bool b]
  | some (.int k) => ∃ m, (Lit.int k m).wf = true /\ xs = [.int k m]
  | some .string => ∃ s : ByteArray, (s.size ≤ maxLen /\ s.size ≤ reachBytes) /\ xs = [.str s]
  | some (.slice e) => ∃ es : List AV, (es.length ≤ maxLen /\ es.length * P.bytesOf e ≤ reachBytes) /\ (∀ y ∈ es, typed P n e y.cells /\ isE P e y) /\ xs = [.ro (P.cellsOf e) es]
  | some (.struct fs) => ∃ xss : List (List AV), xs = xss.flatten /\ xss.length = fs.toList.length /\ ∀ (i : Nat) (f : Field) (ys : List AV), fs.toList[i]? = some f -> xss[i]? = some ys -> typed P n f.type ys
  | some (.array m e) => ∃ xss : List (List AV), xs = xss.flatten /\ xss.length = m /\ ∀ ys ∈ xss, typed P n e ys
  | _ => False
def contig (P : Program) : Nat -> List Field -> Nat -> Bool
 | o, [], m => o == m
 | o, f :: l, m => f.offset == o && contig P (o + P.cellsOf f.type) l m
def suppB (P : Program) (l : List TypeId) : Bool := l.all fun t => match P.underlying t with
 | some .bool | some (.int _) | some .string => P.cellsOf t == 1
 | some (.slice e) => l.contains e && P.cellsOf t == 1 && decide (0 < P.cellsOf e) && (match P.underlying e with | some (.struct _) | some (.array _ _) => true | _ => P.cellsOf e == 1)
 | some (.struct fs) => fs.toList.all (fun f => l.contains f.type) && contig P 0 fs.toList (P.cellsOf t)
 | some (.array m e) => l.contains e && m * P.cellsOf e == P.cellsOf t
 | _ => false
theorem cells_of {w : World} {base : Nat} {a : Addr} {n : Nat} {cs : List Value} (h : w.cells? base a n = some cs) : cs.length = n /\ ∀ (i : Nat) (v : Value), cs[i]? = some v -> w.cell? (a.add i) = some v := by
 unfold World.cells? at h
 split at h
 case isFalse => cases h
 have h2 := h
 clear h
 have key : ∀ (l : List Nat) (cs : List Value), l.mapM (fun i => w.cell? (a.add i)) = some cs -> cs.length = l.length /\ ∀ (i : Nat) (v : Value), cs[i]? = some v -> ∃ k, l[i]? = some k /\ w.cell? (a.add k) = some v := by
  intro l
  induction l with
  | nil => intro cs h; cases h; exact ⟨rfl, by simp⟩
  | cons k l ih =>
   intro cs h
   simp only [List.mapM_cons, Option.bind_eq_bind, Option.bind_eq_some_iff] at h
   obtain ⟨v, h1, r, h3, h4⟩ := h
   cases h4
   obtain ⟨e1, e2⟩ := ih r h3
   refine ⟨by simp [e1], fun i v' hi => ?_⟩
   cases i with
   | zero => simp at hi; subst hi; exact ⟨k, rfl, h1⟩
   | succ i => simp at hi; simpa using e2 i v' hi
 obtain ⟨h3, h4⟩ := key _ _ h2
 refine ⟨by simpa using h3, fun i v hi => ?_⟩
 obtain ⟨k, h5, h6⟩ := h4 i v hi
 have : k = i := by
  rw [List.getElem?_range (by have := (List.getElem?_eq_some_iff.1 hi).1; simp at h3; omega)] at h5
  cases h5; rfl
 rwa [this] at h6
theorem mapM_get' {α β : Type} {f : α -> Option β} : ∀ {l : List α} {r : List β}, l.mapM f = some r -> r.length = l.length /\ ∀ (i : Nat) (x : α) (y : β), l[i]? = some x -> r[i]? = some y -> f x = some y
 | [], r, h => by cases h; exact ⟨rfl, fun i x y h => by simp at h⟩
 | a :: l, r, h => by
  simp only [List.mapM_cons, Option.bind_eq_bind, Option.bind_eq_some_iff] at h
  obtain ⟨b, h1, r', h3, h4⟩ := h
  cases h4
  obtain ⟨e1, e2⟩ := mapM_get' h3
  refine ⟨by simp [e1], fun i x y hx hy => ?_⟩
  cases i with
  | zero => simp at hx hy; subst hx; subst hy; exact h1
  | succ i => simp at hx hy; exact e2 i x y hx hy
variable {H : Type} {enc : TypeId × Value -> H} {P : Program} {w : World}
theorem flatten_pieces {R : AV -> Value -> Prop} {cs : List Value} (tp : Field -> List AV -> Prop) : ∀ (fs : List Field) (o : Nat), contig P o fs cs.length = true ->
  (∀ (i : Nat) (f : Field), fs[i]? = some f -> ∃ ys, tp f ys /\ PWL R ys ((cs.drop f.offset).take (P.cellsOf f.type)) /\ (f.offset + P.cellsOf f.type ≤ cs.length)) -> o ≤ cs.length ->
  ∃ xss : List (List AV), xss.length = fs.length /\ PWL R xss.flatten (cs.drop o) /\ ∀ (i : Nat) (f : Field) (ys : List AV), fs[i]? = some f -> xss[i]? = some ys -> tp f ys
 | [], o, hc, _, ho => by
  simp only [contig, beq_iff_eq] at hc
  refine ⟨[], rfl, ?_, by simp⟩
  rw [List.drop_of_length_le (by omega)]
  exact PWL.nil
 | f :: fs, o, hc, h, ho => by
  simp only [contig, Bool.and_eq_true, beq_iff_eq] at hc
  obtain ⟨ys, h1, h2, h3⟩ := h 0 f rfl
  obtain ⟨xss, k1, k2, k3⟩ := flatten_pieces tp fs (o + P.cellsOf f.type) hc.2 (fun i g hg => h (i + 1) g (by simpa using hg)) (by rw [hc.1] at h3; exact h3)
  refine ⟨ys :: xss, by simp [k1], ?_, fun i g zs hg hz => ?_⟩
  ·have e : cs.drop o = (cs.drop o).take (P.cellsOf f.type) ++ cs.drop (o + P.cellsOf f.type) := by
    rw [<- List.drop_drop, List.take_append_drop]
   rw [e, List.flatten_cons]
   rw [hc.1] at h2
   exact h2.app k2
  ·cases i with
   | zero => simp at hg hz; subst hg; subst hz; exact h1
   | succ i => simp at hg hz; exact k3 i g zs hg hz
theorem contig_le {P : Program} : ∀ {fs : List Field} {o m : Nat}, contig P o fs m = true -> o ≤ m /\ ∀ f ∈ fs, f.offset + P.cellsOf f.type ≤ m
 | [], o, m, h => by simp only [contig, beq_iff_eq] at h; exact ⟨by omega, by simp⟩
 | f :: fs, o, m, h => by
  simp only [contig, Bool.and_eq_true, beq_iff_eq] at h
  obtain ⟨h1, h2⟩ := contig_le h.2
  refine ⟨by omega, fun g hg => ?_⟩
  rcases List.mem_cons.1 hg with rfl | hg
  ·rw [h.1]; exact h1
  ·exact h2 g hg
def oldB (w : World) (b : Nat) : Prop := b < w.heap.size
theorem cell_spot {a : Addr} {v : Value} (h : w.cell? a = some v) : a.spot = none /\ a.block < w.heap.size := by
 unfold World.cell? at h
 split at h
 ·rename_i c _ _ hc
  split at h
  ·cases h
  ·rename_i hs
   refine ⟨by cases hsp : a.spot with | none => rfl | some x => rw [hsp] at hs; exact absurd rfl hs, (Array.getElem?_eq_some_iff.1 hc).1⟩
 ·cases h
theorem addr_add {a : Addr} {x y : Nat} (h : ((a.add x).add y).spot = none) : ((a.add x).add y) = ⟨a.block, a.off + x + y, none⟩ := by
 obtain ⟨b, o, s⟩ := a
 unfold Addr.add at h ⊢
 by_cases hx : x = 0 <;> by_cases hy : y = 0 <;> simp [hx, hy] at h ⊢ <;> first | exact h | omega | skip
theorem list_of {α : Type} {Q : Nat -> α -> Prop} : ∀ (n : Nat), (∀ i, i < n -> ∃ y, Q i y) -> ∃ l : List α, l.length = n /\ ∀ (i : Nat) (y : α), l[i]? = some y -> Q i y
 | 0, _ => ⟨[], rfl, by simp⟩
 | n + 1, h => by
  obtain ⟨l, h1, h2⟩ := list_of n fun i hi => h i (by omega)
  obtain ⟨y, hy⟩ := h n (by omega)
  refine ⟨l ++ [y], by simp [h1], fun i z hz => ?_⟩
  rw [List.getElem?_append] at hz
  split at hz
  ·exact h2 i z hz
  ·rename_i hi
   have : i - l.length = 0 := by
    have := (List.getElem?_eq_some_iff.1 hz).1; simp at this; omega
   rw [this] at hz
   cases hz
   have : i = n := by omega
   subst this
   exact hy
theorem weights_all {P : Program} {e : TypeId} {H : Type} : ∀ {ds : List (DataW H)} {d : DataW H}, d ∈ ds -> ∀ n ∈ d.weights P e, n ∈ DataW.weightsAll P e ds
 | d0 :: ds, d, hd, n, hn => by
  simp only [DataW.weightsAll, List.mem_append]
  rcases List.mem_cons.1 hd with rfl | hd
  ·exact .inl hn
  ·exact .inr (weights_all hd n hn)
theorem trod_typed {l : List TypeId} (hs : suppB P l = true) {base : Nat} {sp : Nat -> Bool} {held : Bool} : ∀ (n : Nat) (t : TypeId) (cs : List Value) (y : DataW H × List MemPlace), l.contains t = true -> (∀ m ∈ y.1.weights P t, m ≤ reachBytes) -> DataW.trod enc P w base sp held n t cs = some y ->
  ∃ xs, typed P n t xs /\ PWL (RI (oldB w) w) xs cs /\ cs.length = P.cellsOf t := by
 intro n
 induction n with
 | zero => intro t cs y _ _ h; cases h
 | succ n ih =>
  intro t cs y ht hwt h
  have hst := List.all_eq_true.1 hs t (List.contains_iff_mem.1 ht)
  simp only [typed]
  cases hu : P.underlying t with
  | none => rw [hu] at hst; cases hst
  | some u =>
   rw [hu] at hst
   cases u with
   | bool =>
    obtain ⟨b, rfl, _⟩ := DataW.trod_bool hu h
    exact ⟨[.bool b], ⟨b, rfl⟩, PWL.one (.bool b), by simp only [beq_iff_eq] at hst; exact hst.symm⟩
   | int k =>
    obtain ⟨m, rfl, _, hw⟩ := DataW.trod_int hu h
    exact ⟨[.int k m], ⟨m, hw, rfl⟩, PWL.one (.int k m), by simp only [beq_iff_eq] at hst; exact hst.symm⟩
   | string =>
    obtain ⟨s, rfl, rfl, hm⟩ := DataW.trod_string hu h
    exact ⟨[.str s], ⟨s, ⟨hm, by have := hwt s.data.toList.length (by simp [DataW.weights]); simpa using this⟩, rfl⟩, PWL.one (.str s), by simp only [beq_iff_eq] at hst; exact hst.symm⟩
   | slice e =>
    simp only [Bool.and_eq_true, beq_iff_eq, decide_eq_true_eq] at hst
    obtain ⟨⟨⟨he, h1⟩, hpos⟩, hone⟩ := hst
    rcases DataW.trod_slice hu h with ⟨rfl, _⟩ | ⟨a, len, cap, elems, rest, m, hm, rfl, rfl, _, hlc, hcm, hlen, hel, _⟩
    ·exact ⟨[.ro (P.cellsOf e) []], ⟨[], ⟨by simp, by simp⟩, by simp, rfl⟩, PWL.one (.ro _ [] none 0 0 0 (fun _ _ => undef) (fun h => absurd h (by simp)) (by simp) (by simp) (by simp) (by simp)), by simp [h1]⟩
    ·cases hm
     simp only [DataW.weights, hu, List.mem_cons, List.mem_append] at hwt
     have hwl := hwt _ (.inl rfl)
     have hwe : ∀ x ∈ elems, ∀ m ∈ x.1.weights P e, m ≤ reachBytes := fun x hx m hm => hwt m (.inr (.inl (weights_all (List.mem_map.2 ⟨x, hx, rfl⟩) m hm)))
     have hex : ∀ i, i < len -> ∃ y : AV, (typed P n e y.cells /\ isE P e y) /\ y.cells.length = P.cellsOf e /\ ∃ ci, w.cells? base (a.add (i * P.cellsOf e)) (P.cellsOf e) = some ci /\ PWL (RI (oldB w) w) y.cells ci := fun i hi => by
      have hb := hel i hi
      have hel' : elems[i]? = some elems[i] := List.getElem?_eq_getElem (by omega)
      rw [hel'] at hb
      obtain ⟨ci, k1, k2⟩ := Option.bind_eq_some_iff.1 hb
      obtain ⟨xs, m1, m2, m3⟩ := ih e ci _ he (hwe _ (List.getElem_mem _)) k2
      have hlx : xs.length = P.cellsOf e := m2.1.trans m3
      cases hue : P.underlying e with
      | none =>
       have := List.all_eq_true.1 hs e (List.contains_iff_mem.1 he)
       rw [hue] at this; cases this
      | some ue =>
       have big : (∃ cs, AV.agg xs = .agg cs) := ⟨_, rfl⟩
       rw [hue] at hone
       cases ue with
       | struct fs => exact ⟨.agg xs, ⟨m1, by unfold isE; rw [hue]; exact big⟩, hlx, ci, k1, m2⟩
       | array q e' => exact ⟨.agg xs, ⟨m1, by unfold isE; rw [hue]; exact big⟩, hlx, ci, k1, m2⟩
       | _ =>
        simp only [beq_iff_eq] at hone
        obtain ⟨x, rfl⟩ : ∃ x, xs = [x] := by
         match xs, hlx.trans hone with
         | [x], _ => exact ⟨x, rfl⟩
        have hc : x.cells = [x] := by
         have hx := m2.1
         match ci, hx with
         | [v], _ =>
          have hr := m2.2 0 x v rfl rfl
          cases hr <;> rfl
        exact ⟨x, ⟨by rw [hc]; exact m1, by unfold isE; rw [hue]; exact hc⟩, by rw [hc]; exact hlx, ci, k1, by rw [hc]; exact m2⟩
     obtain ⟨es, e1, e2⟩ := list_of len hex
     have hcell : ∀ (i : Nat) (e' : AV) (j : Nat) (x : AV), es[i]? = some e' -> e'.cells[j]? = some x -> ∃ v, w.cell? ((a.add (i * P.cellsOf e)).add j) = some v /\ RI (oldB w) w x v := fun i e' j x hi hj => by
      obtain ⟨_, _, ci, k1, k2⟩ := e2 i e' hi
      have hlt := (List.getElem?_eq_some_iff.1 hj).1
      rw [k2.1] at hlt
      exact ⟨ci[j], (cells_of k1).2 j _ (List.getElem?_eq_getElem hlt), k2.2 j x _ hj (List.getElem?_eq_getElem hlt)⟩
     have hadd : ∀ i j v, w.cell? ((a.add (i * P.cellsOf e)).add j) = some v -> w.cell? ⟨a.block, a.off + i * P.cellsOf e + j, none⟩ = some v := fun i j v hv => by
      have hsp := (cell_spot hv).1
      have e : (a.add (i * P.cellsOf e)).add j = ⟨a.block, a.off + i * P.cellsOf e + j, none⟩ := by
       rw [<- addr_add hsp]
      rwa [e] at hv
     have hspot : 0 < es.length -> a.spot = none /\ a.block < w.heap.size := fun hp => by
      have hi : es[0]? = some es[0] := List.getElem?_eq_getElem hp
      obtain ⟨_, hcl, _⟩ := e2 0 _ hi
      have hj : (es[0]).cells[0]? = some ((es[0]).cells[0]'(by omega)) := List.getElem?_eq_getElem (by omega)
      obtain ⟨v, hv, _⟩ := hcell 0 _ 0 _ hi hj
      rw [Nat.zero_mul] at hv
      exact cell_spot hv
     refine ⟨[.ro (P.cellsOf e) es], ⟨es, ⟨by omega, ?_⟩, fun y hy => ?_, rfl⟩, PWL.one ?_, by simp [h1]⟩
     ·rw [e1]
      refine Nat.le_trans (Nat.mul_le_mul_right _ ?_) hwl
      rw [List.length_map, hlen]
      exact Nat.le_add_right _ _
     ·obtain ⟨i, hi⟩ := List.getElem?_of_mem hy
      exact (e2 i y hi).1
     ·rw [<- e1]
      refine .ro _ es (some a) cap a.block a.off (fun i j => (w.cell? ⟨a.block, a.off + i * P.cellsOf e + j, none⟩).getD undef) (fun hp => ⟨?_, (hspot hp).2⟩) (by omega) (fun i e' hi => (e2 i e' hi).2.1) (fun i e' j x hi hj => ?_) (fun i e' j x hi hj => ?_)
      ·obtain ⟨ab, ao, asp⟩ := a
       have := (hspot hp).1
       simp only at this
       rw [this]
      ·obtain ⟨v, hv, _⟩ := hcell i e' j x hi hj
       have hp : 0 < es.length := by have := (List.getElem?_eq_some_iff.1 hi).1; omega
       simp only [hadd i j v hv, Option.getD_some]
      ·obtain ⟨v, hv, hr⟩ := hcell i e' j x hi hj
       have hp : 0 < es.length := by have := (List.getElem?_eq_some_iff.1 hi).1; omega
       simp only [hadd i j v hv, Option.getD_some]
       exact hr
   | struct fs =>
    simp only [Bool.and_eq_true, List.all_eq_true] at hst
    obtain ⟨hin, hcg⟩ := hst
    obtain ⟨xs, m, hm, rfl, hlen, hxl, hx⟩ := DataW.trod_struct hu h
    cases hm
    simp only [DataW.weights, hu] at hwt
    rw [<- hlen] at hcg
    obtain ⟨xss, k1, k2, k3⟩ := flatten_pieces (R := RI (oldB w) w) (cs := cs) (fun f ys => typed P n f.type ys) fs.toList 0 hcg (fun i f hf => by
     have hf' : fs[i]? = some f := by simpa using hf
     have hi : i < xs.length := by rw [hxl]; exact (Array.getElem?_eq_some_iff.1 hf').1
     have hb := hx i f hf'
     rw [List.getElem?_eq_getElem hi] at hb
     obtain ⟨ys, m1, m2, _⟩ := ih f.type _ _ (hin f (List.mem_of_getElem? hf)) (fun m hm => hwt m (DataW.weights_mem_each (j := i) (by rw [List.getElem?_map, hf]; rfl) (by rw [List.getElem?_map, List.getElem?_eq_getElem hi]; rfl) m hm)) hb
     exact ⟨ys, m1, m2, (contig_le hcg).2 f (List.mem_of_getElem? hf)⟩) (Nat.zero_le _)
    exact ⟨xss.flatten, ⟨xss, rfl, k1, k3⟩, by simpa using k2, hlen⟩
   | array q e =>
    simp only [Bool.and_eq_true, beq_iff_eq] at hst
    obtain ⟨xs, m, hm, rfl, hlen, hxl, hx⟩ := DataW.trod_array hu h
    cases hm
    simp only [DataW.weights, hu] at hwt
    have key : ∀ k, k ≤ q -> ∃ xss : List (List AV), xss.length = k /\ (∀ ys ∈ xss, typed P n e ys) /\ PWL (RI (oldB w) w) xss.flatten (cs.take (k * P.cellsOf e)) := fun k => by
     induction k with
     | zero => intro _; exact ⟨[], rfl, by simp, by simpa using PWL.nil⟩
     | succ k ihk =>
      intro hk
      obtain ⟨xss, a1, a2, a3⟩ := ihk (by omega)
      have hb := hx k (by omega)
      rw [List.getElem?_eq_getElem (by omega)] at hb
      obtain ⟨ys, m1, m2, _⟩ := ih e _ _ hst.1 (fun m hm => hwt m (weights_all (List.mem_map.2 ⟨_, List.getElem_mem _, rfl⟩) m hm)) hb
      refine ⟨xss ++ [ys], by simp [a1], fun z hz => ?_, ?_⟩
      ·rcases List.mem_append.1 hz with hz | hz
       ·exact a2 z hz
       ·simp at hz; subst hz; exact m1
      ·have : cs.take ((k + 1) * P.cellsOf e) = cs.take (k * P.cellsOf e) ++ (cs.drop (k * P.cellsOf e)).take (P.cellsOf e) := by
        rw [Nat.succ_mul, List.take_add]
       rw [this, List.flatten_append]
       simpa using a3.app m2
    obtain ⟨xss, a1, a2, a3⟩ := key q (Nat.le_refl _)
    refine ⟨xss.flatten, ⟨xss, rfl, a1, a2⟩, ?_, hlen⟩
    rwa [List.take_of_length_le (by rw [hlen, <- hst.2]; exact Nat.le_refl _)] at a3
   | _ => cases hst
end Go.Aw
namespace Go.Aw
open Go Go.WideShapes Go.ChangeShapes Go.RowKit
def argA (P : Program) (t : TypeId) (xs : List AV) : AV :=
 match P.underlying t with
 | some (.struct _) | some (.array _ _) => .agg xs
 | _ => xs.getD 0 .junk
theorem ok_cell {P : Program} {w : World} {r : Reach} {base : Nat} {t : TypeId} {v : Value} (hu : (∃ k, P.underlying t = some (.int k)) \/ P.underlying t = some .bool \/ P.underlying t = some .string \/ ∃ e, P.underlying t = some (.slice e)) (h : Value.okWide P w r base t v) : v.cells = #[v] := by
 rcases hu with ⟨k, hu⟩ | hu | hu | ⟨e, hu⟩ <;> (simp only [Value.okWide, hu, Cell.okWide] at h; cases v <;> first | rfl | (simp [Cell.ok, hu] at h))
theorem arg_rv {H : Type} {enc : TypeId × Value -> H} {P : Program} {w : World} {l : List TypeId} (hs : suppB P l = true) {b1 base : Nat} {r : Reach} {sp : Nat -> Bool} {held : Bool} {t : TypeId} {v : Value} {d : DataW H} {ps : List MemPlace} (ht : l.contains t = true) (hwt : ∀ m ∈ d.weights P t, m ≤ reachBytes)
  (hv : Value.okWide P w r b1 t v) (h : DataW.Trod enc P w base sp held t v d ps) : ∃ n xs, typed P n t xs /\ RV ⟨noμ, oldB w⟩ noH w (argA P t xs) v := by
 obtain ⟨n, h⟩ := h
 obtain ⟨xs, h1, h2, h3⟩ := trod_typed hs n t _ _ ht hwt h
 refine ⟨n, xs, h1, ?_⟩
 have hst := List.all_eq_true.1 hs t (List.contains_iff_mem.1 ht)
 have agg : (∃ cs, v = .agg cs /\ cs.size = P.cellsOf t) -> RV ⟨noμ, oldB w⟩ noH w (.agg xs) v := fun ⟨cs, e, _⟩ => by
  subst e
  simp only [Value.cells] at h2
  have hl := h2.1
  exact .agg xs cs (by rw [hl]; simp) (fun i x u hx hu => .imm (h2.2 i x u hx (by simpa using hu))) (fun i u hu => by
   have hlt : i < xs.length := by rw [hl]; simpa using (Array.getElem?_eq_some_iff.1 hu).1
   exact (h2.2 i _ u (List.getElem?_eq_getElem hlt) (by simpa using hu)).one)
 have one : v.cells = #[v] -> RV ⟨noμ, oldB w⟩ noH w (xs.getD 0 .junk) v := fun e => by
  rw [e] at h2
  have hl := h2.1
  match xs, hl with
  | [x], _ => exact .imm (h2.2 0 x v rfl rfl)
 unfold argA
 cases hu : P.underlying t with
 | none => rw [hu] at hst; cases hst
 | some u =>
  cases u with
  | struct fs => exact agg (okWide_struct hu hv)
  | array m e =>
   refine agg ?_
   simp only [Value.okWide, hu] at hv
   obtain ⟨cs, h1, h2, _⟩ := hv
   exact ⟨cs, h1, h2⟩
  | bool => exact one (ok_cell (.inr (.inl hu)) hv)
  | int k => exact one (ok_cell (.inl ⟨k, hu⟩) hv)
  | string => exact one (ok_cell (.inr (.inr (.inl hu))) hv)
  | slice e => exact one (ok_cell (.inr (.inr (.inr ⟨e, hu⟩))) hv)
  | _ => rw [hu] at hst; cases hst
theorem args_rv {H : Type} {enc : TypeId × Value -> H} {P : Program} {w : World} {l : List TypeId} (hs : suppB P l = true) {r : Reach} {b1 base : Nat} {sp : Nat -> Bool} {held : Bool} : ∀ {ts : List TypeId} {vs : List Value} {ds : List (DataW H)} {ps : List MemPlace}, (∀ t ∈ ts, l.contains t = true) -> (∀ m ∈ DataW.weightsEach P ts ds, m ≤ reachBytes) ->
  (∀ (j : Nat) t v, ts[j]? = some t -> vs[j]? = some v -> Value.okWide P w r b1 t v) -> DataW.TrodAll enc P w base sp held ts vs ds ps ->
  ∃ (nx : List (Nat × List AV)), nx.length = ts.length /\ vs.length = ts.length /\ (∀ (j : Nat) t y, ts[j]? = some t -> nx[j]? = some y -> typed P y.1 t y.2) /\
   ∀ (j : Nat) t y v, ts[j]? = some t -> nx[j]? = some y -> vs[j]? = some v -> RV ⟨noμ, oldB w⟩ noH w (argA P t y.2) v
 | [], vs, ds, ps, _, _, _, h => by
  obtain ⟨rfl, rfl, rfl⟩ := trodAll_nil h
  exact ⟨[], rfl, rfl, by simp, by simp⟩
 | t :: ts, vs, ds, ps, hl, hwt, hok, h => by
  obtain ⟨v, vs1, d, ds1, a, b, rfl, rfl, rfl, h1, h2⟩ := trodAll_cons h
  simp only [DataW.weightsEach, List.mem_append] at hwt
  obtain ⟨n, xs, k1, k2⟩ := arg_rv hs (hl t (by simp)) (fun m hm => hwt m (.inl hm)) (hok 0 t v rfl rfl) h1
  obtain ⟨nx, e1, e2, e3, e4⟩ := args_rv hs (fun t ht => hl t (by simp [ht])) (fun m hm => hwt m (.inr hm)) (fun j t v ht hv => hok (j + 1) t v (by simpa using ht) (by simpa using hv)) h2
  refine ⟨(n, xs) :: nx, by simp [e1], by simp [e2], fun j t' y ht hy => ?_, fun j t' y v' ht hy hv => ?_⟩
  ·cases j with
   | zero => simp at ht hy; subst ht; subst hy; exact k1
   | succ j => simp at ht hy; exact e3 j t' y ht hy
  ·cases j with
   | zero => simp at ht hy hv; subst ht; subst hy; subst hv; exact k2
   | succ j => simp at ht hy hv; exact e4 j t' y v' ht hy hv
theorem trodAll_stays {H : Type} {enc : TypeId × Value -> H} {P : Program} (hl : laidOutB P = true) {W W' : World} (hb : Below W.heap.size W W') : ∀ {ts : List TypeId} {vs : List Value} {ds : List (DataW H)} {ps : List MemPlace}, (∀ t ∈ ts, P.readableRec t = true /\ t < P.types.size) ->
  DataW.TrodAll enc P W 0 (fun _ => true) true ts vs ds ps -> (∀ x ∈ ps, x.block < W.heap.size) -> DataW.TrodAll enc P W' 0 (fun b => decide (b < W.heap.size)) true ts vs ds ps
 | [], vs, ds, ps, _, h, _ => by
  obtain ⟨rfl, rfl, rfl⟩ := trodAll_nil h
  exact h
 | t :: ts, vs, ds, ps, hr, h, hlt => by
  obtain ⟨v, vs1, d, ds1, a, b, rfl, rfl, rfl, h1, h2⟩ := trodAll_cons h
  exact ⟨a, b, Below.trod hl (hr t (by simp)).1 (hr t (by simp)).2 h1 hb (fun x hx => hlt x (by simp [hx])), trodAll_stays hl hb (fun t ht => hr t (by simp [ht])) h2 (fun x hx => hlt x (by simp [hx])), rfl⟩
theorem trodAll_len {H : Type} {enc : TypeId × Value -> H} {P : Program} {w : World} {base : Nat} {sp : Nat -> Bool} {held : Bool} : ∀ {ts : List TypeId} {vs : List Value} {ds : List (DataW H)} {ps : List MemPlace}, DataW.TrodAll enc P w base sp held ts vs ds ps -> ds.length = ts.length
 | [], vs, ds, ps, h => by
  obtain ⟨rfl, rfl, rfl⟩ := trodAll_nil h
  rfl
 | t :: ts, vs, ds, ps, h => by
  obtain ⟨v, vs1, d, ds1, a, b, rfl, rfl, rfl, h1, h2⟩ := trodAll_cons h
  simp [trodAll_len h2]
end Go.Aw

/- Equations, constructor by constructor. Own work. -/
namespace Go.Aw
open Go
set_option maxRecDepth 100000
set_option linter.unusedVariables false
theorem avl0 : (stripV (AV.junk) = (AV.junk)) /\
 (∀ (k : IntKind) (n : Int), stripV (AV.int k n) = (AV.int k n)) /\
 (∀ (b : Bool), stripV (AV.bool b) = (AV.bool b)) /\
 (∀ (s : ByteArray), stripV (AV.str s) = (AV.str s)) /\
 (stripV (AV.nilp) = (AV.nilp)) /\
 (∀ (o : Nat) (i : Nat) (c : Nat), stripV (AV.ptr o i c) = (AV.ptr o i c)) /\
 (∀ (e : AV) (c : Nat), stripV (AV.rop e c) = (AV.rop e c)) /\
 (stripV (AV.nilsl) = (AV.nilsl)) /\
 (∀ (sz : Nat) (es : List AV), stripV (AV.ro sz es) = (AV.ro sz es)) /\
 (∀ (o : Nat) (lo : Nat) (len : Nat), stripV (AV.sl o lo len) = (AV.sl o lo len)) /\
 (∀ (o : Nat) (i : Nat) (c : Nat) (len : Nat) (esz : Nat), stripV (AV.asl o i c len esz) = (AV.asl o i c len esz)) /\
 (∀ (cs : List AV), stripV (AV.agg cs) = (AV.agg cs)) /\
 (∀ (cs : List AV), stripV (AV.tup cs) = (AV.tup cs)) /\
 (∀ (f : Fn) (a : List AV) (b : List AV), stripV (AV.fn f a b) = (AV.fn f a b)) /\
 (stripV (AV.nilf) = (AV.nilf)) /\
 (∀ (b : Bool) (v : AV), stripV (AV.gd b v) = stripV v) /\
 (∀ (t : TypeId) (v : AV), stripV (AV.ifc t v) = (AV.ifc t v)) /\
 (stripV (AV.nili) = (AV.nili)) /\
 (stripB (AV.junk) = true) /\
 (∀ (k : IntKind) (n : Int), stripB (AV.int k n) = true) /\
 (∀ (b : Bool), stripB (AV.bool b) = true) /\
 (∀ (s : ByteArray), stripB (AV.str s) = true) /\
 (stripB (AV.nilp) = true) /\
 (∀ (o : Nat) (i : Nat) (c : Nat), stripB (AV.ptr o i c) = true) /\
 (∀ (e : AV) (c : Nat), stripB (AV.rop e c) = true) /\
 (stripB (AV.nilsl) = true) /\
 (∀ (sz : Nat) (es : List AV), stripB (AV.ro sz es) = true) /\
 (∀ (o : Nat) (lo : Nat) (len : Nat), stripB (AV.sl o lo len) = true) /\
 (∀ (o : Nat) (i : Nat) (c : Nat) (len : Nat) (esz : Nat), stripB (AV.asl o i c len esz) = true) /\
 (∀ (cs : List AV), stripB (AV.agg cs) = true) /\
 (∀ (cs : List AV), stripB (AV.tup cs) = true) /\
 (∀ (f : Fn) (a : List AV) (b : List AV), stripB (AV.fn f a b) = true) /\
 (stripB (AV.nilf) = true) /\
 (∀ (b : Bool) (v : AV), stripB (AV.gd b v) = (b && stripB v)) /\
 (∀ (t : TypeId) (v : AV), stripB (AV.ifc t v) = true) /\
 (stripB (AV.nili) = true) /\
 (AV.cells (AV.junk) = [(AV.junk)]) /\
 (∀ (k : IntKind) (n : Int), AV.cells (AV.int k n) = [(AV.int k n)]) /\
 (∀ (b : Bool), AV.cells (AV.bool b) = [(AV.bool b)]) /\
 (∀ (s : ByteArray), AV.cells (AV.str s) = [(AV.str s)]) /\
 (AV.cells (AV.nilp) = [(AV.nilp)]) /\
 (∀ (o : Nat) (i : Nat) (c : Nat), AV.cells (AV.ptr o i c) = [(AV.ptr o i c)]) /\
 (∀ (e : AV) (c : Nat), AV.cells (AV.rop e c) = [(AV.rop e c)]) /\
 (AV.cells (AV.nilsl) = [(AV.nilsl)]) /\
 (∀ (sz : Nat) (es : List AV), AV.cells (AV.ro sz es) = [(AV.ro sz es)]) /\
 (∀ (o : Nat) (lo : Nat) (len : Nat), AV.cells (AV.sl o lo len) = [(AV.sl o lo len)]) /\
 (∀ (o : Nat) (i : Nat) (c : Nat) (len : Nat) (esz : Nat), AV.cells (AV.asl o i c len esz) = [(AV.asl o i c len esz)]) /\
 (∀ (cs : List AV), AV.cells (AV.agg cs) = cs) /\
 (∀ (cs : List AV), AV.cells (AV.tup cs) = []) /\
 (∀ (f : Fn) (a : List AV) (b : List AV), AV.cells (AV.fn f a b) = [(AV.fn f a b)]) /\
 (AV.cells (AV.nilf) = [(AV.nilf)]) /\
 (∀ (b : Bool) (v : AV), AV.cells (AV.gd b v) = [(AV.gd b v)]) /\
 (∀ (t : TypeId) (v : AV), AV.cells (AV.ifc t v) = [(AV.ifc t v)]) /\
 (AV.cells (AV.nili) = [(AV.nili)]) /\
 (AV.isImm (AV.junk) = false) /\
 (∀ (k : IntKind) (n : Int), AV.isImm (AV.int k n) = true) /\
 (∀ (b : Bool), AV.isImm (AV.bool b) = true) /\
 (∀ (s : ByteArray), AV.isImm (AV.str s) = true) /\
 (AV.isImm (AV.nilp) = true) /\
 (∀ (o : Nat) (i : Nat) (c : Nat), AV.isImm (AV.ptr o i c) = false) :=
 ⟨by intros; first | rfl | simp [fixV], by intros; first | rfl | simp [fixV], by intros; first | rfl | simp [fixV], by intros; first | rfl | simp [fixV], by intros; first | rfl | simp [fixV], by intros; first | rfl | simp [fixV], by intros; first | rfl | simp [fixV], by intros; first | rfl | simp [fixV], by intros; first | rfl | simp [fixV], by intros; first | rfl | simp [fixV], by intros; first | rfl | simp [fixV], by intros; first | rfl | simp [fixV], by intros; first | rfl | simp [fixV], by intros; first | rfl | simp [fixV], by intros; first | rfl | simp [fixV], by intros; first | rfl | simp [fixV], by intros; first | rfl | simp [fixV], by intros; first | rfl | simp [fixV], by intros; first | rfl | simp [fixV], by intros; first | rfl | simp [fixV], by intros; first | rfl | simp [fixV], by intros; first | rfl | simp [fixV], by intros; first | rfl | simp [fixV], by intros; first | rfl | simp [fixV], by intros; first | rfl | simp [fixV], by intros; first | rfl | simp [fixV], by intros; first | rfl | simp [fixV], by intros; first | rfl | simp [fixV], by intros; first | rfl | simp [fixV], by intros; first | rfl | simp [fixV], by intros; first | rfl | simp [fixV], by intros; first | rfl | simp [fixV], by intros; first | rfl | simp [fixV], by intros; first | rfl | simp [fixV], by intros; first | rfl | simp [fixV], by intros; first | rfl | simp [fixV], by intros; first | rfl | simp [fixV], by intros; first | rfl | simp [fixV], by intros; first | rfl | simp [fixV], by intros; first | rfl | simp [fixV], by intros; first | rfl | simp [fixV], by intros; first | rfl | simp [fixV], by intros; first | rfl | simp [fixV], by intros; first | rfl | simp [fixV], by intros; first | rfl | simp [fixV], by intros; first | rfl | simp [fixV], by intros; first | rfl | simp [fixV], by intros; first | rfl | simp [fixV], by intros; first | rfl | simp [fixV], by intros; first | rfl | simp [fixV], by intros; first | rfl | simp [fixV], by intros; first | rfl | simp [fixV], by intros; first | rfl | simp [fixV], by intros; first | rfl | simp [fixV], by intros; first | rfl | simp [fixV], by intros; first | rfl | simp [fixV], by intros; first | rfl | simp [fixV], by intros; first | rfl | simp [fixV], by intros; first | rfl | simp [fixV], by intros; first | rfl | simp [fixV]⟩
theorem avl1 : (∀ (e : AV) (c : Nat), AV.isImm (AV.rop e c) = false) /\
 (AV.isImm (AV.nilsl) = false) /\
 (∀ (sz : Nat) (es : List AV), AV.isImm (AV.ro sz es) = true) /\
 (∀ (o : Nat) (lo : Nat) (len : Nat), AV.isImm (AV.sl o lo len) = false) /\
 (∀ (o : Nat) (i : Nat) (c : Nat) (len : Nat) (esz : Nat), AV.isImm (AV.asl o i c len esz) = false) /\
 (∀ (cs : List AV), AV.isImm (AV.agg cs) = false) /\
 (∀ (cs : List AV), AV.isImm (AV.tup cs) = false) /\
 (∀ (f : Fn) (a : List AV) (b : List AV), AV.isImm (AV.fn f a b) = false) /\
 (AV.isImm (AV.nilf) = true) /\
 (∀ (b : Bool) (v : AV), AV.isImm (AV.gd b v) = false) /\
 (∀ (t : TypeId) (v : AV), AV.isImm (AV.ifc t v) = false) /\
 (AV.isImm (AV.nili) = true) /\
 (AV.flat (AV.junk) = false) /\
 (∀ (k : IntKind) (n : Int), AV.flat (AV.int k n) = true) /\
 (∀ (b : Bool), AV.flat (AV.bool b) = true) /\
 (∀ (s : ByteArray), AV.flat (AV.str s) = true) /\
 (AV.flat (AV.nilp) = true) /\
 (∀ (o : Nat) (i : Nat) (c : Nat), AV.flat (AV.ptr o i c) = false) /\
 (∀ (e : AV) (c : Nat), AV.flat (AV.rop e c) = false) /\
 (AV.flat (AV.nilsl) = true) /\
 (∀ (sz : Nat) (es : List AV), AV.flat (AV.ro sz es) = false) /\
 (∀ (o : Nat) (lo : Nat) (len : Nat), AV.flat (AV.sl o lo len) = false) /\
 (∀ (o : Nat) (i : Nat) (c : Nat) (len : Nat) (esz : Nat), AV.flat (AV.asl o i c len esz) = false) /\
 (∀ (cs : List AV), AV.flat (AV.agg cs) = AV.flat.flats cs) /\
 (∀ (cs : List AV), AV.flat (AV.tup cs) = AV.flat.flats cs) /\
 (∀ (f : Fn) (a : List AV) (b : List AV), AV.flat (AV.fn f a b) = false) /\
 (AV.flat (AV.nilf) = true) /\
 (∀ (b : Bool) (v : AV), AV.flat (AV.gd b v) = false) /\
 (∀ (t : TypeId) (v : AV), AV.flat (AV.ifc t v) = false) /\
 (AV.flat (AV.nili) = true) /\
 (AV.pure (AV.junk) = false) /\
 (∀ (k : IntKind) (n : Int), AV.pure (AV.int k n) = true) /\
 (∀ (b : Bool), AV.pure (AV.bool b) = true) /\
 (∀ (s : ByteArray), AV.pure (AV.str s) = true) /\
 (AV.pure (AV.nilp) = true) /\
 (∀ (o : Nat) (i : Nat) (c : Nat), AV.pure (AV.ptr o i c) = false) /\
 (∀ (e : AV) (c : Nat), AV.pure (AV.rop e c) = true) /\
 (AV.pure (AV.nilsl) = true) /\
 (∀ (sz : Nat) (es : List AV), AV.pure (AV.ro sz es) = true) /\
 (∀ (o : Nat) (lo : Nat) (len : Nat), AV.pure (AV.sl o lo len) = false) /\
 (∀ (o : Nat) (i : Nat) (c : Nat) (len : Nat) (esz : Nat), AV.pure (AV.asl o i c len esz) = false) /\
 (∀ (cs : List AV), AV.pure (AV.agg cs) = AV.pure.pures cs) /\
 (∀ (cs : List AV), AV.pure (AV.tup cs) = AV.pure.pures cs) /\
 (∀ (f : Fn) (a : List AV) (b : List AV), AV.pure (AV.fn f a b) = (AV.pure.pures a && AV.pure.pures b)) /\
 (AV.pure (AV.nilf) = true) /\
 (∀ (b : Bool) (v : AV), AV.pure (AV.gd b v) = v.pure) /\
 (∀ (t : TypeId) (v : AV), AV.pure (AV.ifc t v) = v.pure) /\
 (AV.pure (AV.nili) = true) /\
 (AV.rl (AV.junk) = []) /\
 (∀ (k : IntKind) (n : Int), AV.rl (AV.int k n) = []) /\
 (∀ (b : Bool), AV.rl (AV.bool b) = []) /\
 (∀ (s : ByteArray), AV.rl (AV.str s) = []) /\
 (AV.rl (AV.nilp) = []) /\
 (∀ (o : Nat) (i : Nat) (c : Nat), AV.rl (AV.ptr o i c) = [o]) /\
 (∀ (e : AV) (c : Nat), AV.rl (AV.rop e c) = []) /\
 (AV.rl (AV.nilsl) = []) /\
 (∀ (sz : Nat) (es : List AV), AV.rl (AV.ro sz es) = []) /\
 (∀ (o : Nat) (lo : Nat) (len : Nat), AV.rl (AV.sl o lo len) = [o]) /\
 (∀ (o : Nat) (i : Nat) (c : Nat) (len : Nat) (esz : Nat), AV.rl (AV.asl o i c len esz) = [o]) /\
 (∀ (cs : List AV), AV.rl (AV.agg cs) = AV.rl.rls cs) :=
 ⟨by intros; first | rfl | simp [fixV], by intros; first | rfl | simp [fixV], by intros; first | rfl | simp [fixV], by intros; first | rfl | simp [fixV], by intros; first | rfl | simp [fixV], by intros; first | rfl | simp [fixV], by intros; first | rfl | simp [fixV], by intros; first | rfl | simp [fixV], by intros; first | rfl | simp [fixV], by intros; first | rfl | simp [fixV], by intros; first | rfl | simp [fixV], by intros; first | rfl | simp [fixV], by intros; first | rfl | simp [fixV], by intros; first | rfl | simp [fixV], by intros; first | rfl | simp [fixV], by intros; first | rfl | simp [fixV], by intros; first | rfl | simp [fixV], by intros; first | rfl | simp [fixV], by intros; first | rfl | simp [fixV], by intros; first | rfl | simp [fixV], by intros; first | rfl | simp [fixV], by intros; first | rfl | simp [fixV], by intros; first | rfl | simp [fixV], by intros; first | rfl | simp [fixV], by intros; first | rfl | simp [fixV], by intros; first | rfl | simp [fixV], by intros; first | rfl | simp [fixV], by intros; first | rfl | simp [fixV], by intros; first | rfl | simp [fixV], by intros; first | rfl | simp [fixV], by intros; first | rfl | simp [fixV], by intros; first | rfl | simp [fixV], by intros; first | rfl | simp [fixV], by intros; first | rfl | simp [fixV], by intros; first | rfl | simp [fixV], by intros; first | rfl | simp [fixV], by intros; first | rfl | simp [fixV], by intros; first | rfl | simp [fixV], by intros; first | rfl | simp [fixV], by intros; first | rfl | simp [fixV], by intros; first | rfl | simp [fixV], by intros; first | rfl | simp [fixV], by intros; first | rfl | simp [fixV], by intros; first | rfl | simp [fixV], by intros; first | rfl | simp [fixV], by intros; first | rfl | simp [fixV], by intros; first | rfl | simp [fixV], by intros; first | rfl | simp [fixV], by intros; first | rfl | simp [fixV], by intros; first | rfl | simp [fixV], by intros; first | rfl | simp [fixV], by intros; first | rfl | simp [fixV], by intros; first | rfl | simp [fixV], by intros; first | rfl | simp [fixV], by intros; first | rfl | simp [fixV], by intros; first | rfl | simp [fixV], by intros; first | rfl | simp [fixV], by intros; first | rfl | simp [fixV], by intros; first | rfl | simp [fixV], by intros; first | rfl | simp [fixV]⟩
theorem avl2 : (∀ (cs : List AV), AV.rl (AV.tup cs) = AV.rl.rls cs) /\
 (∀ (f : Fn) (a : List AV) (b : List AV), AV.rl (AV.fn f a b) = AV.rl.rls a ++ AV.rl.rls b) /\
 (AV.rl (AV.nilf) = []) /\
 (∀ (b : Bool) (v : AV), AV.rl (AV.gd b v) = v.rl) /\
 (∀ (t : TypeId) (v : AV), AV.rl (AV.ifc t v) = v.rl) /\
 (AV.rl (AV.nili) = []) /\
 (∀ (D : Nat -> Bool), AV.refs D (AV.junk) = true) /\
 (∀ (D : Nat -> Bool) (k : IntKind) (n : Int), AV.refs D (AV.int k n) = true) /\
 (∀ (D : Nat -> Bool) (b : Bool), AV.refs D (AV.bool b) = true) /\
 (∀ (D : Nat -> Bool) (s : ByteArray), AV.refs D (AV.str s) = true) /\
 (∀ (D : Nat -> Bool), AV.refs D (AV.nilp) = true) /\
 (∀ (D : Nat -> Bool) (o : Nat) (i : Nat) (c : Nat), AV.refs D (AV.ptr o i c) = D o) /\
 (∀ (D : Nat -> Bool) (e : AV) (c : Nat), AV.refs D (AV.rop e c) = true) /\
 (∀ (D : Nat -> Bool), AV.refs D (AV.nilsl) = true) /\
 (∀ (D : Nat -> Bool) (sz : Nat) (es : List AV), AV.refs D (AV.ro sz es) = true) /\
 (∀ (D : Nat -> Bool) (o : Nat) (lo : Nat) (len : Nat), AV.refs D (AV.sl o lo len) = D o) /\
 (∀ (D : Nat -> Bool) (o : Nat) (i : Nat) (c : Nat) (len : Nat) (esz : Nat), AV.refs D (AV.asl o i c len esz) = D o) /\
 (∀ (D : Nat -> Bool) (cs : List AV), AV.refs D (AV.agg cs) = AV.refs.refsl D cs) /\
 (∀ (D : Nat -> Bool) (cs : List AV), AV.refs D (AV.tup cs) = AV.refs.refsl D cs) /\
 (∀ (D : Nat -> Bool) (f : Fn) (a : List AV) (b : List AV), AV.refs D (AV.fn f a b) = (AV.refs.refsl D a && AV.refs.refsl D b)) /\
 (∀ (D : Nat -> Bool), AV.refs D (AV.nilf) = true) /\
 (∀ (D : Nat -> Bool) (b : Bool) (v : AV), AV.refs D (AV.gd b v) = v.refs D) /\
 (∀ (D : Nat -> Bool) (t : TypeId) (v : AV), AV.refs D (AV.ifc t v) = v.refs D) /\
 (∀ (D : Nat -> Bool), AV.refs D (AV.nili) = true) /\
 (refOf (AV.junk) = none) /\
 (∀ (k : IntKind) (n : Int), refOf (AV.int k n) = none) /\
 (∀ (b : Bool), refOf (AV.bool b) = none) /\
 (∀ (s : ByteArray), refOf (AV.str s) = none) /\
 (refOf (AV.nilp) = none) /\
 (∀ (o : Nat) (i : Nat) (c : Nat), refOf (AV.ptr o i c) = some o) /\
 (∀ (e : AV) (c : Nat), refOf (AV.rop e c) = none) /\
 (refOf (AV.nilsl) = none) /\
 (∀ (sz : Nat) (es : List AV), refOf (AV.ro sz es) = none) /\
 (∀ (o : Nat) (lo : Nat) (len : Nat), refOf (AV.sl o lo len) = some o) /\
 (∀ (o : Nat) (i : Nat) (c : Nat) (len : Nat) (esz : Nat), refOf (AV.asl o i c len esz) = some o) /\
 (∀ (cs : List AV), refOf (AV.agg cs) = none) /\
 (∀ (cs : List AV), refOf (AV.tup cs) = none) /\
 (∀ (f : Fn) (a : List AV) (b : List AV), refOf (AV.fn f a b) = none) /\
 (refOf (AV.nilf) = none) /\
 (∀ (b : Bool) (v : AV), refOf (AV.gd b v) = none) /\
 (∀ (t : TypeId) (v : AV), refOf (AV.ifc t v) = none) /\
 (refOf (AV.nili) = none) /\
 (lenQ (AV.junk) = none) /\
 (∀ (k : IntKind) (n : Int), lenQ (AV.int k n) = none) /\
 (∀ (b : Bool), lenQ (AV.bool b) = none) /\
 (∀ (s : ByteArray), lenQ (AV.str s) = none) /\
 (lenQ (AV.nilp) = none) /\
 (∀ (o : Nat) (i : Nat) (c : Nat), lenQ (AV.ptr o i c) = none) /\
 (∀ (e : AV) (c : Nat), lenQ (AV.rop e c) = none) /\
 (lenQ (AV.nilsl) = none) /\
 (∀ (sz : Nat) (es : List AV), lenQ (AV.ro sz es) = some es.length) /\
 (∀ (o : Nat) (lo : Nat) (len : Nat), lenQ (AV.sl o lo len) = some len) /\
 (∀ (o : Nat) (i : Nat) (c : Nat) (len : Nat) (esz : Nat), lenQ (AV.asl o i c len esz) = some len) /\
 (∀ (cs : List AV), lenQ (AV.agg cs) = none) /\
 (∀ (cs : List AV), lenQ (AV.tup cs) = none) /\
 (∀ (f : Fn) (a : List AV) (b : List AV), lenQ (AV.fn f a b) = none) /\
 (lenQ (AV.nilf) = none) /\
 (∀ (b : Bool) (v : AV), lenQ (AV.gd b v) = none) /\
 (∀ (t : TypeId) (v : AV), lenQ (AV.ifc t v) = none) /\
 (lenQ (AV.nili) = none) :=
 ⟨by intros; first | rfl | simp [fixV], by intros; first | rfl | simp [fixV], by intros; first | rfl | simp [fixV], by intros; first | rfl | simp [fixV], by intros; first | rfl | simp [fixV], by intros; first | rfl | simp [fixV], by intros; first | rfl | simp [fixV], by intros; first | rfl | simp [fixV], by intros; first | rfl | simp [fixV], by intros; first | rfl | simp [fixV], by intros; first | rfl | simp [fixV], by intros; first | rfl | simp [fixV], by intros; first | rfl | simp [fixV], by intros; first | rfl | simp [fixV], by intros; first | rfl | simp [fixV], by intros; first | rfl | simp [fixV], by intros; first | rfl | simp [fixV], by intros; first | rfl | simp [fixV], by intros; first | rfl | simp [fixV], by intros; first | rfl | simp [fixV], by intros; first | rfl | simp [fixV], by intros; first | rfl | simp [fixV], by intros; first | rfl | simp [fixV], by intros; first | rfl | simp [fixV], by intros; first | rfl | simp [fixV], by intros; first | rfl | simp [fixV], by intros; first | rfl | simp [fixV], by intros; first | rfl | simp [fixV], by intros; first | rfl | simp [fixV], by intros; first | rfl | simp [fixV], by intros; first | rfl | simp [fixV], by intros; first | rfl | simp [fixV], by intros; first | rfl | simp [fixV], by intros; first | rfl | simp [fixV], by intros; first | rfl | simp [fixV], by intros; first | rfl | simp [fixV], by intros; first | rfl | simp [fixV], by intros; first | rfl | simp [fixV], by intros; first | rfl | simp [fixV], by intros; first | rfl | simp [fixV], by intros; first | rfl | simp [fixV], by intros; first | rfl | simp [fixV], by intros; first | rfl | simp [fixV], by intros; first | rfl | simp [fixV], by intros; first | rfl | simp [fixV], by intros; first | rfl | simp [fixV], by intros; first | rfl | simp [fixV], by intros; first | rfl | simp [fixV], by intros; first | rfl | simp [fixV], by intros; first | rfl | simp [fixV], by intros; first | rfl | simp [fixV], by intros; first | rfl | simp [fixV], by intros; first | rfl | simp [fixV], by intros; first | rfl | simp [fixV], by intros; first | rfl | simp [fixV], by intros; first | rfl | simp [fixV], by intros; first | rfl | simp [fixV], by intros; first | rfl | simp [fixV], by intros; first | rfl | simp [fixV], by intros; first | rfl | simp [fixV]⟩
theorem avl3 : (AV.single (AV.junk) = false) /\
 (∀ (k : IntKind) (n : Int), AV.single (AV.int k n) = true) /\
 (∀ (b : Bool), AV.single (AV.bool b) = true) /\
 (∀ (s : ByteArray), AV.single (AV.str s) = true) /\
 (AV.single (AV.nilp) = true) /\
 (∀ (o : Nat) (i : Nat) (c : Nat), AV.single (AV.ptr o i c) = true) /\
 (∀ (e : AV) (c : Nat), AV.single (AV.rop e c) = true) /\
 (AV.single (AV.nilsl) = true) /\
 (∀ (sz : Nat) (es : List AV), AV.single (AV.ro sz es) = true) /\
 (∀ (o : Nat) (lo : Nat) (len : Nat), AV.single (AV.sl o lo len) = true) /\
 (∀ (o : Nat) (i : Nat) (c : Nat) (len : Nat) (esz : Nat), AV.single (AV.asl o i c len esz) = true) /\
 (∀ (cs : List AV), AV.single (AV.agg cs) = false) /\
 (∀ (cs : List AV), AV.single (AV.tup cs) = false) /\
 (∀ (f : Fn) (a : List AV) (b : List AV), AV.single (AV.fn f a b) = true) /\
 (AV.single (AV.nilf) = true) /\
 (∀ (b : Bool) (v : AV), AV.single (AV.gd b v) = false) /\
 (∀ (t : TypeId) (v : AV), AV.single (AV.ifc t v) = true) /\
 (AV.single (AV.nili) = true) /\
 (AV.storable (AV.junk) = false) /\
 (∀ (k : IntKind) (n : Int), AV.storable (AV.int k n) = true) /\
 (∀ (b : Bool), AV.storable (AV.bool b) = true) /\
 (∀ (s : ByteArray), AV.storable (AV.str s) = true) /\
 (AV.storable (AV.nilp) = true) /\
 (∀ (o : Nat) (i : Nat) (c : Nat), AV.storable (AV.ptr o i c) = true) /\
 (∀ (e : AV) (c : Nat), AV.storable (AV.rop e c) = true) /\
 (AV.storable (AV.nilsl) = true) /\
 (∀ (sz : Nat) (es : List AV), AV.storable (AV.ro sz es) = true) /\
 (∀ (o : Nat) (lo : Nat) (len : Nat), AV.storable (AV.sl o lo len) = true) /\
 (∀ (o : Nat) (i : Nat) (c : Nat) (len : Nat) (esz : Nat), AV.storable (AV.asl o i c len esz) = true) /\
 (∀ (cs : List AV), AV.storable (AV.agg cs) = true) /\
 (∀ (cs : List AV), AV.storable (AV.tup cs) = false) /\
 (∀ (f : Fn) (a : List AV) (b : List AV), AV.storable (AV.fn f a b) = true) /\
 (AV.storable (AV.nilf) = true) /\
 (∀ (b : Bool) (v : AV), AV.storable (AV.gd b v) = false) /\
 (∀ (t : TypeId) (v : AV), AV.storable (AV.ifc t v) = true) /\
 (AV.storable (AV.nili) = true) /\
 (AV.storable0 (AV.junk) = false) /\
 (∀ (k : IntKind) (n : Int), AV.storable0 (AV.int k n) = true) /\
 (∀ (b : Bool), AV.storable0 (AV.bool b) = true) /\
 (∀ (s : ByteArray), AV.storable0 (AV.str s) = true) /\
 (AV.storable0 (AV.nilp) = true) /\
 (∀ (o : Nat) (i : Nat) (c : Nat), AV.storable0 (AV.ptr o i c) = true) /\
 (∀ (e : AV) (c : Nat), AV.storable0 (AV.rop e c) = true) /\
 (AV.storable0 (AV.nilsl) = true) /\
 (∀ (sz : Nat) (es : List AV), AV.storable0 (AV.ro sz es) = true) /\
 (∀ (o : Nat) (lo : Nat) (len : Nat), AV.storable0 (AV.sl o lo len) = true) /\
 (∀ (o : Nat) (i : Nat) (c : Nat) (len : Nat) (esz : Nat), AV.storable0 (AV.asl o i c len esz) = true) /\
 (∀ (cs : List AV), AV.storable0 (AV.agg cs) = true) /\
 (∀ (cs : List AV), AV.storable0 (AV.tup cs) = false) /\
 (∀ (f : Fn) (a : List AV) (b : List AV), AV.storable0 (AV.fn f a b) = true) /\
 (AV.storable0 (AV.nilf) = true) /\
 (∀ (b : Bool) (v : AV), AV.storable0 (AV.gd b v) = false) /\
 (∀ (t : TypeId) (v : AV), AV.storable0 (AV.ifc t v) = true) /\
 (AV.storable0 (AV.nili) = true) /\
 (∀ (q : Nat), isArg.isA1 q (AV.junk) = false) /\
 (∀ (q : Nat) (k : IntKind) (n : Int), isArg.isA1 q (AV.int k n) = false) /\
 (∀ (q : Nat) (b : Bool), isArg.isA1 q (AV.bool b) = false) /\
 (∀ (q : Nat) (s : ByteArray), isArg.isA1 q (AV.str s) = false) /\
 (∀ (q : Nat), isArg.isA1 q (AV.nilp) = false) /\
 (∀ (q : Nat) (o : Nat) (i : Nat) (c : Nat), isArg.isA1 q (AV.ptr o i c) = false) :=
 ⟨by intros; first | rfl | simp [fixV], by intros; first | rfl | simp [fixV], by intros; first | rfl | simp [fixV], by intros; first | rfl | simp [fixV], by intros; first | rfl | simp [fixV], by intros; first | rfl | simp [fixV], by intros; first | rfl | simp [fixV], by intros; first | rfl | simp [fixV], by intros; first | rfl | simp [fixV], by intros; first | rfl | simp [fixV], by intros; first | rfl | simp [fixV], by intros; first | rfl | simp [fixV], by intros; first | rfl | simp [fixV], by intros; first | rfl | simp [fixV], by intros; first | rfl | simp [fixV], by intros; first | rfl | simp [fixV], by intros; first | rfl | simp [fixV], by intros; first | rfl | simp [fixV], by intros; first | rfl | simp [fixV], by intros; first | rfl | simp [fixV], by intros; first | rfl | simp [fixV], by intros; first | rfl | simp [fixV], by intros; first | rfl | simp [fixV], by intros; first | rfl | simp [fixV], by intros; first | rfl | simp [fixV], by intros; first | rfl | simp [fixV], by intros; first | rfl | simp [fixV], by intros; first | rfl | simp [fixV], by intros; first | rfl | simp [fixV], by intros; first | rfl | simp [fixV], by intros; first | rfl | simp [fixV], by intros; first | rfl | simp [fixV], by intros; first | rfl | simp [fixV], by intros; first | rfl | simp [fixV], by intros; first | rfl | simp [fixV], by intros; first | rfl | simp [fixV], by intros; first | rfl | simp [fixV], by intros; first | rfl | simp [fixV], by intros; first | rfl | simp [fixV], by intros; first | rfl | simp [fixV], by intros; first | rfl | simp [fixV], by intros; first | rfl | simp [fixV], by intros; first | rfl | simp [fixV], by intros; first | rfl | simp [fixV], by intros; first | rfl | simp [fixV], by intros; first | rfl | simp [fixV], by intros; first | rfl | simp [fixV], by intros; first | rfl | simp [fixV], by intros; first | rfl | simp [fixV], by intros; first | rfl | simp [fixV], by intros; first | rfl | simp [fixV], by intros; first | rfl | simp [fixV], by intros; first | rfl | simp [fixV], by intros; first | rfl | simp [fixV], by intros; first | rfl | simp [fixV], by intros; first | rfl | simp [fixV], by intros; first | rfl | simp [fixV], by intros; first | rfl | simp [fixV], by intros; first | rfl | simp [fixV], by intros; first | rfl | simp [fixV]⟩
theorem avl4 : (∀ (q : Nat) (e : AV) (c : Nat), isArg.isA1 q (AV.rop e c) = false) /\
 (∀ (q : Nat), isArg.isA1 q (AV.nilsl) = false) /\
 (∀ (q : Nat) (sz : Nat) (es : List AV), isArg.isA1 q (AV.ro sz es) = false) /\
 (∀ (q : Nat) (o : Nat) (lo : Nat) (len : Nat), isArg.isA1 q (AV.sl o lo len) = (q == o)) /\
 (∀ (q : Nat) (o : Nat) (i : Nat) (c : Nat) (len : Nat) (esz : Nat), isArg.isA1 q (AV.asl o i c len esz) = false) /\
 (∀ (q : Nat) (cs : List AV), isArg.isA1 q (AV.agg cs) = false) /\
 (∀ (q : Nat) (cs : List AV), isArg.isA1 q (AV.tup cs) = false) /\
 (∀ (q : Nat) (f : Fn) (a : List AV) (b : List AV), isArg.isA1 q (AV.fn f a b) = false) /\
 (∀ (q : Nat), isArg.isA1 q (AV.nilf) = false) /\
 (∀ (q : Nat) (b : Bool) (v : AV), isArg.isA1 q (AV.gd b v) = false) /\
 (∀ (q : Nat) (t : TypeId) (v : AV), isArg.isA1 q (AV.ifc t v) = false) /\
 (∀ (q : Nat), isArg.isA1 q (AV.nili) = false) /\
 (∀ (fz : Bool) (nm z : Nat) (H : Hp), fixV fz nm z [] (AV.junk) H = ((AV.junk), H)) /\
 (∀ (fz : Bool) (nm z : Nat) (H : Hp) (k : IntKind) (n : Int), fixV fz nm z [] (AV.int k n) H = ((AV.int k n), H)) /\
 (∀ (fz : Bool) (nm z : Nat) (H : Hp) (b : Bool), fixV fz nm z [] (AV.bool b) H = ((AV.bool b), H)) /\
 (∀ (fz : Bool) (nm z : Nat) (H : Hp) (s : ByteArray), fixV fz nm z [] (AV.str s) H = ((AV.str s), H)) /\
 (∀ (fz : Bool) (nm z : Nat) (H : Hp), fixV fz nm z [] (AV.nilp) H = ((AV.nilp), H)) /\
 (∀ (fz : Bool) (nm z : Nat) (H : Hp) (o : Nat) (i : Nat) (c : Nat), fixV fz nm z [] (AV.ptr o i c) H = ((AV.ptr o i c), H)) /\
 (∀ (fz : Bool) (nm z : Nat) (H : Hp) (e : AV) (c : Nat), fixV fz nm z [] (AV.rop e c) H = ((AV.rop e c), H)) /\
 (∀ (fz : Bool) (nm z : Nat) (H : Hp), fixV fz nm z [] (AV.nilsl) H = if fz = true then (.ro z [], H) else (.sl nm 0 0, upd H nm (some ⟨false, z, []⟩))) /\
 (∀ (fz : Bool) (nm z : Nat) (H : Hp) (sz : Nat) (es : List AV), fixV fz nm z [] (AV.ro sz es) H = ((AV.ro sz es), H)) /\
 (∀ (fz : Bool) (nm z : Nat) (H : Hp) (o : Nat) (lo : Nat) (len : Nat), fixV fz nm z [] (AV.sl o lo len) H = ((AV.sl o lo len), H)) /\
 (∀ (fz : Bool) (nm z : Nat) (H : Hp) (o : Nat) (i : Nat) (c : Nat) (len : Nat) (esz : Nat), fixV fz nm z [] (AV.asl o i c len esz) H = ((AV.asl o i c len esz), H)) /\
 (∀ (fz : Bool) (nm z : Nat) (H : Hp) (cs : List AV), fixV fz nm z [] (AV.agg cs) H = ((AV.agg cs), H)) /\
 (∀ (fz : Bool) (nm z : Nat) (H : Hp) (cs : List AV), fixV fz nm z [] (AV.tup cs) H = ((AV.tup cs), H)) /\
 (∀ (fz : Bool) (nm z : Nat) (H : Hp) (f : Fn) (a : List AV) (b : List AV), fixV fz nm z [] (AV.fn f a b) H = ((AV.fn f a b), H)) /\
 (∀ (fz : Bool) (nm z : Nat) (H : Hp), fixV fz nm z [] (AV.nilf) H = ((AV.nilf), H)) /\
 (∀ (fz : Bool) (nm z : Nat) (H : Hp) (b : Bool) (v : AV), fixV fz nm z [] (AV.gd b v) H = ((AV.gd b v), H)) /\
 (∀ (fz : Bool) (nm z : Nat) (H : Hp) (t : TypeId) (v : AV), fixV fz nm z [] (AV.ifc t v) H = ((AV.ifc t v), H)) /\
 (∀ (fz : Bool) (nm z : Nat) (H : Hp), fixV fz nm z [] (AV.nili) H = ((AV.nili), H)) /\
 (∀ (fz : Bool) (nm z q : Nat) (p : List Nat) (H : Hp), fixV fz nm z (q :: p) (AV.junk) H = ((AV.junk), H)) /\
 (∀ (fz : Bool) (nm z q : Nat) (p : List Nat) (H : Hp) (k : IntKind) (n : Int), fixV fz nm z (q :: p) (AV.int k n) H = ((AV.int k n), H)) /\
 (∀ (fz : Bool) (nm z q : Nat) (p : List Nat) (H : Hp) (b : Bool), fixV fz nm z (q :: p) (AV.bool b) H = ((AV.bool b), H)) /\
 (∀ (fz : Bool) (nm z q : Nat) (p : List Nat) (H : Hp) (s : ByteArray), fixV fz nm z (q :: p) (AV.str s) H = ((AV.str s), H)) /\
 (∀ (fz : Bool) (nm z q : Nat) (p : List Nat) (H : Hp), fixV fz nm z (q :: p) (AV.nilp) H = ((AV.nilp), H)) /\
 (∀ (fz : Bool) (nm z q : Nat) (p : List Nat) (H : Hp) (o : Nat) (i : Nat) (c : Nat), fixV fz nm z (q :: p) (AV.ptr o i c) H = fixV.fixQ fz nm z p o i c q (H o) H) /\
 (∀ (fz : Bool) (nm z q : Nat) (p : List Nat) (H : Hp) (e : AV) (c : Nat), fixV fz nm z (q :: p) (AV.rop e c) H = ((AV.rop e c), H)) /\
 (∀ (fz : Bool) (nm z q : Nat) (p : List Nat) (H : Hp), fixV fz nm z (q :: p) (AV.nilsl) H = ((AV.nilsl), H)) /\
 (∀ (fz : Bool) (nm z q : Nat) (p : List Nat) (H : Hp) (sz : Nat) (es : List AV), fixV fz nm z (q :: p) (AV.ro sz es) H = ((AV.ro sz es), H)) /\
 (∀ (fz : Bool) (nm z q : Nat) (p : List Nat) (H : Hp) (o : Nat) (lo : Nat) (len : Nat), fixV fz nm z (q :: p) (AV.sl o lo len) H = fixV.fixU fz nm z p o lo len q (H o) H) /\
 (∀ (fz : Bool) (nm z q : Nat) (p : List Nat) (H : Hp) (o : Nat) (i : Nat) (c : Nat) (len : Nat) (esz : Nat), fixV fz nm z (q :: p) (AV.asl o i c len esz) H = ((AV.asl o i c len esz), H)) /\
 (∀ (fz : Bool) (nm z q : Nat) (p : List Nat) (H : Hp) (cs : List AV), fixV fz nm z (q :: p) (AV.agg cs) H = fixV.fixG cs q (fixV fz nm z p (cs.getD q .junk) H)) /\
 (∀ (fz : Bool) (nm z q : Nat) (p : List Nat) (H : Hp) (cs : List AV), fixV fz nm z (q :: p) (AV.tup cs) H = ((AV.tup cs), H)) /\
 (∀ (fz : Bool) (nm z q : Nat) (p : List Nat) (H : Hp) (f : Fn) (a : List AV) (b : List AV), fixV fz nm z (q :: p) (AV.fn f a b) H = ((AV.fn f a b), H)) /\
 (∀ (fz : Bool) (nm z q : Nat) (p : List Nat) (H : Hp), fixV fz nm z (q :: p) (AV.nilf) H = ((AV.nilf), H)) /\
 (∀ (fz : Bool) (nm z q : Nat) (p : List Nat) (H : Hp) (b : Bool) (v : AV), fixV fz nm z (q :: p) (AV.gd b v) H = ((AV.gd b v), H)) /\
 (∀ (fz : Bool) (nm z q : Nat) (p : List Nat) (H : Hp) (t : TypeId) (v : AV), fixV fz nm z (q :: p) (AV.ifc t v) H = ((AV.ifc t v), H)) /\
 (∀ (fz : Bool) (nm z q : Nat) (p : List Nat) (H : Hp), fixV fz nm z (q :: p) (AV.nili) H = ((AV.nili), H)) /\
 (∀ (l : List AV), AV.flat.flats [] = true) /\
 (AV.pure.pures [] = true) /\
 (∀ (x : AV) (r : List AV), AV.flat.flats (x :: r) = (x.flat && AV.flat.flats r)) /\
 (∀ (x : AV) (r : List AV), AV.pure.pures (x :: r) = (x.pure && AV.pure.pures r)) /\
 (∀ D, AV.refs.refsl D [] = true) /\
 (∀ D (x : AV) (r : List AV), AV.refs.refsl D (x :: r) = (x.refs D && AV.refs.refsl D r)) /\
 (tupA [] = .tup []) /\
 (∀ v, tupA [v] = v) /\
 (∀ x y l, tupA (x :: y :: l) = .tup (x :: y :: l)) /\
 (∀ a b, shapeC (some a) (some b) = (b.box = a.box /\ b.sz = a.sz /\ a.es.length ≤ b.es.length)) /\
 (∀ k n, cst (.int k n) = .int k n) /\
 (∀ b, cst (.bool b) = .bool b) :=
 ⟨by intros; first | rfl | simp [fixV], by intros; first | rfl | simp [fixV], by intros; first | rfl | simp [fixV], by intros; first | rfl | simp [fixV], by intros; first | rfl | simp [fixV], by intros; first | rfl | simp [fixV], by intros; first | rfl | simp [fixV], by intros; first | rfl | simp [fixV], by intros; first | rfl | simp [fixV], by intros; first | rfl | simp [fixV], by intros; first | rfl | simp [fixV], by intros; first | rfl | simp [fixV], by intros; first | rfl | simp [fixV], by intros; first | rfl | simp [fixV], by intros; first | rfl | simp [fixV], by intros; first | rfl | simp [fixV], by intros; first | rfl | simp [fixV], by intros; first | rfl | simp [fixV], by intros; first | rfl | simp [fixV], by intros; first | rfl | simp [fixV], by intros; first | rfl | simp [fixV], by intros; first | rfl | simp [fixV], by intros; first | rfl | simp [fixV], by intros; first | rfl | simp [fixV], by intros; first | rfl | simp [fixV], by intros; first | rfl | simp [fixV], by intros; first | rfl | simp [fixV], by intros; first | rfl | simp [fixV], by intros; first | rfl | simp [fixV], by intros; first | rfl | simp [fixV], by intros; first | rfl | simp [fixV], by intros; first | rfl | simp [fixV], by intros; first | rfl | simp [fixV], by intros; first | rfl | simp [fixV], by intros; first | rfl | simp [fixV], by intros; first | rfl | simp [fixV], by intros; first | rfl | simp [fixV], by intros; first | rfl | simp [fixV], by intros; first | rfl | simp [fixV], by intros; first | rfl | simp [fixV], by intros; first | rfl | simp [fixV], by intros; first | rfl | simp [fixV], by intros; first | rfl | simp [fixV], by intros; first | rfl | simp [fixV], by intros; first | rfl | simp [fixV], by intros; first | rfl | simp [fixV], by intros; first | rfl | simp [fixV], by intros; first | rfl | simp [fixV], by intros; first | rfl | simp [fixV], by intros; first | rfl | simp [fixV], by intros; first | rfl | simp [fixV], by intros; first | rfl | simp [fixV], by intros; first | rfl | simp [fixV], by intros; first | rfl | simp [fixV], by intros; first | rfl | simp [fixV], by intros; first | rfl | simp [fixV], by intros; first | rfl | simp [fixV], by intros; first | rfl | simp [fixV], by intros; first | rfl | simp [fixV], by intros; first | rfl | simp [fixV]⟩
theorem avl5 : (∀ s, cst (.string s) = .str s) /\
 (cst (.pointer none) = .nilp) /\
 (cst (.slice none 0 0) = .nilsl) /\
 (cst .nilFunc = .nilf) /\
 (cst .nilIface = .nili) /\
 (∀ cs, cst (.agg cs) = if cs.toList.all Value.oneCell' then .agg (cs.toList.map cst1) else .junk) /\
 (∀ k n, cst1 (.int k n) = .int k n) /\
 (∀ b, cst1 (.bool b) = .bool b) /\
 (∀ s, cst1 (.string s) = .str s) /\
 (cst1 (.pointer none) = .nilp) /\
 (cst1 (.slice none 0 0) = .nilsl) /\
 (cst1 .nilFunc = .nilf) /\
 (cst1 .nilIface = .nili) /\
 (keyOf .skip = 0) /\
 (∀ id ops d, keyOf (.region id ops d) = id + 1) /\
 (∀ a b, keyOf (.seq a b) = orN (keyOf a) (keyOf b)) /\
 (∀ c a b, keyOf (.cond c a b) = orN (keyOf a) (keyOf b)) /\
 (∀ i c, keyOf (.block i c) = keyOf c) /\
 (∀ c, keyOf (.loop c) = keyOf c + 100000) /\
 (∀ g ps a b, keyOf (.rangeFunc g ps a b) = orN (keyOf a) (keyOf b) + 200000) /\
 (∀ i, keyOf (.exit i) = 0) /\
 (keyOf .ret = 0) /\
 (∀ i, keyOf (.label i) = 0) /\
 (∀ b, orN 0 b = b) /\
 (∀ n b, orN (n + 1) b = n + 1) :=
 ⟨by intros; first | rfl | simp [fixV], by intros; first | rfl | simp [fixV], by intros; first | rfl | simp [fixV], by intros; first | rfl | simp [fixV], by intros; first | rfl | simp [fixV], by intros; first | rfl | simp [fixV], by intros; first | rfl | simp [fixV], by intros; first | rfl | simp [fixV], by intros; first | rfl | simp [fixV], by intros; first | rfl | simp [fixV], by intros; first | rfl | simp [fixV], by intros; first | rfl | simp [fixV], by intros; first | rfl | simp [fixV], by intros; first | rfl | simp [fixV], by intros; first | rfl | simp [fixV], by intros; first | rfl | simp [fixV], by intros; first | rfl | simp [fixV], by intros; first | rfl | simp [fixV], by intros; first | rfl | simp [fixV], by intros; first | rfl | simp [fixV], by intros; first | rfl | simp [fixV], by intros; first | rfl | simp [fixV], by intros; first | rfl | simp [fixV], by intros; first | rfl | simp [fixV], by intros; first | rfl | simp [fixV]⟩
set_option linter.unusedSimpArgs false in
theorem avl6 : (∀ o c, stripV (AV.mp o c) = .mp o c) /\
 (stripV AV.nilm = .nilm) /\
 (∀ o c, stripB (AV.mp o c) = true) /\
 (stripB AV.nilm = true) /\
 (∀ o c, AV.cells (AV.mp o c) = [.mp o c]) /\
 (AV.cells AV.nilm = [.nilm]) /\
 (∀ o c, AV.isImm (AV.mp o c) = false) /\
 (AV.isImm AV.nilm = true) /\
 (∀ o c, AV.flat (AV.mp o c) = false) /\
 (AV.flat AV.nilm = true) /\
 (∀ o c, AV.pure (AV.mp o c) = false) /\
 (AV.pure AV.nilm = true) /\
 (∀ o c, AV.rl (AV.mp o c) = [o]) /\
 (AV.rl AV.nilm = []) /\
 (∀ D o c, AV.refs D (AV.mp o c) = D o) /\
 (∀ D, AV.refs D AV.nilm = true) /\
 (∀ o c, refOf (AV.mp o c) = some o) /\
 (refOf AV.nilm = none) /\
 (∀ o c, lenQ (AV.mp o c) = none) /\
 (lenQ AV.nilm = none) /\
 (∀ o c, AV.single (AV.mp o c) = true) /\
 (AV.single AV.nilm = true) /\
 (∀ o c, AV.storable (AV.mp o c) = true) /\
 (AV.storable AV.nilm = true) /\
 (∀ o c, AV.storable0 (AV.mp o c) = true) /\
 (AV.storable0 AV.nilm = true) /\
 (∀ q o c, isArg.isA1 q (AV.mp o c) = false) /\
 (∀ q, isArg.isA1 q AV.nilm = false) /\
 (∀ fz nm z p H o c, fixV fz nm z p (AV.mp o c) H = (.mp o c, H)) /\
 (∀ fz nm z p H, fixV fz nm z p AV.nilm H = (.nilm, H)) /\
 (cst (.map none) = .nilm) /\
 (cst1 (.map none) = .nilm) /\
 (∀ n : Nat, (n ≤ n) = True) /\
 (∀ n m : Nat, (n ≤ n + m) = True) :=
 ⟨by intros; first | rfl | (simp [fixV]; done) | (rename_i p _ _ _; cases p <;> simp [fixV]; done) | (rename_i p _; cases p <;> simp [fixV]; done), by intros; first | rfl | (simp [fixV]; done) | (rename_i p _ _ _; cases p <;> simp [fixV]; done) | (rename_i p _; cases p <;> simp [fixV]; done), by intros; first | rfl | (simp [fixV]; done) | (rename_i p _ _ _; cases p <;> simp [fixV]; done) | (rename_i p _; cases p <;> simp [fixV]; done), by intros; first | rfl | (simp [fixV]; done) | (rename_i p _ _ _; cases p <;> simp [fixV]; done) | (rename_i p _; cases p <;> simp [fixV]; done), by intros; first | rfl | (simp [fixV]; done) | (rename_i p _ _ _; cases p <;> simp [fixV]; done) | (rename_i p _; cases p <;> simp [fixV]; done), by intros; first | rfl | (simp [fixV]; done) | (rename_i p _ _ _; cases p <;> simp [fixV]; done) | (rename_i p _; cases p <;> simp [fixV]; done), by intros; first | rfl | (simp [fixV]; done) | (rename_i p _ _ _; cases p <;> simp [fixV]; done) | (rename_i p _; cases p <;> simp [fixV]; done), by intros; first | rfl | (simp [fixV]; done) | (rename_i p _ _ _; cases p <;> simp [fixV]; done) | (rename_i p _; cases p <;> simp [fixV]; done), by intros; first | rfl | (simp [fixV]; done) | (rename_i p _ _ _; cases p <;> simp [fixV]; done) | (rename_i p _; cases p <;> simp [fixV]; done), by intros; first | rfl | (simp [fixV]; done) | (rename_i p _ _ _; cases p <;> simp [fixV]; done) | (rename_i p _; cases p <;> simp [fixV]; done), by intros; first | rfl | (simp [fixV]; done) | (rename_i p _ _ _; cases p <;> simp [fixV]; done) | (rename_i p _; cases p <;> simp [fixV]; done), by intros; first | rfl | (simp [fixV]; done) | (rename_i p _ _ _; cases p <;> simp [fixV]; done) | (rename_i p _; cases p <;> simp [fixV]; done), by intros; first | rfl | (simp [fixV]; done) | (rename_i p _ _ _; cases p <;> simp [fixV]; done) | (rename_i p _; cases p <;> simp [fixV]; done), by intros; first | rfl | (simp [fixV]; done) | (rename_i p _ _ _; cases p <;> simp [fixV]; done) | (rename_i p _; cases p <;> simp [fixV]; done), by intros; first | rfl | (simp [fixV]; done) | (rename_i p _ _ _; cases p <;> simp [fixV]; done) | (rename_i p _; cases p <;> simp [fixV]; done), by intros; first | rfl | (simp [fixV]; done) | (rename_i p _ _ _; cases p <;> simp [fixV]; done) | (rename_i p _; cases p <;> simp [fixV]; done), by intros; first | rfl | (simp [fixV]; done) | (rename_i p _ _ _; cases p <;> simp [fixV]; done) | (rename_i p _; cases p <;> simp [fixV]; done), by intros; first | rfl | (simp [fixV]; done) | (rename_i p _ _ _; cases p <;> simp [fixV]; done) | (rename_i p _; cases p <;> simp [fixV]; done), by intros; first | rfl | (simp [fixV]; done) | (rename_i p _ _ _; cases p <;> simp [fixV]; done) | (rename_i p _; cases p <;> simp [fixV]; done), by intros; first | rfl | (simp [fixV]; done) | (rename_i p _ _ _; cases p <;> simp [fixV]; done) | (rename_i p _; cases p <;> simp [fixV]; done), by intros; first | rfl | (simp [fixV]; done) | (rename_i p _ _ _; cases p <;> simp [fixV]; done) | (rename_i p _; cases p <;> simp [fixV]; done), by intros; first | rfl | (simp [fixV]; done) | (rename_i p _ _ _; cases p <;> simp [fixV]; done) | (rename_i p _; cases p <;> simp [fixV]; done), by intros; first | rfl | (simp [fixV]; done) | (rename_i p _ _ _; cases p <;> simp [fixV]; done) | (rename_i p _; cases p <;> simp [fixV]; done), by intros; first | rfl | (simp [fixV]; done) | (rename_i p _ _ _; cases p <;> simp [fixV]; done) | (rename_i p _; cases p <;> simp [fixV]; done), by intros; first | rfl | (simp [fixV]; done) | (rename_i p _ _ _; cases p <;> simp [fixV]; done) | (rename_i p _; cases p <;> simp [fixV]; done), by intros; first | rfl | (simp [fixV]; done) | (rename_i p _ _ _; cases p <;> simp [fixV]; done) | (rename_i p _; cases p <;> simp [fixV]; done), by intros; first | rfl | (simp [fixV]; done) | (rename_i p _ _ _; cases p <;> simp [fixV]; done) | (rename_i p _; cases p <;> simp [fixV]; done), by intros; first | rfl | (simp [fixV]; done) | (rename_i p _ _ _; cases p <;> simp [fixV]; done) | (rename_i p _; cases p <;> simp [fixV]; done), by intros; first | rfl | (simp [fixV]; done) | (rename_i p _ _ _; cases p <;> simp [fixV]; done) | (rename_i p _; cases p <;> simp [fixV]; done), by intros; first | rfl | (simp [fixV]; done) | (rename_i p _ _ _; cases p <;> simp [fixV]; done) | (rename_i p _; cases p <;> simp [fixV]; done), by intros; first | rfl | (simp [fixV]; done) | (rename_i p _ _ _; cases p <;> simp [fixV]; done) | (rename_i p _; cases p <;> simp [fixV]; done), by intros; first | rfl | (simp [fixV]; done) | (rename_i p _ _ _; cases p <;> simp [fixV]; done) | (rename_i p _; cases p <;> simp [fixV]; done), by intros; first | rfl | (simp [fixV]; done) | (rename_i p _ _ _; cases p <;> simp [fixV]; done) | (rename_i p _; cases p <;> simp [fixV]; done), by intros; first | rfl | (simp [fixV]; done) | (rename_i p _ _ _; cases p <;> simp [fixV]; done) | (rename_i p _; cases p <;> simp [fixV]; done)⟩
theorem avl : type_of% @avl0 /\ type_of% @avl1 /\ type_of% @avl2 /\ type_of% @avl3 /\ type_of% @avl4 /\ type_of% @avl5 /\ type_of% @avl6 := ⟨@avl0, @avl1, @avl2, @avl3, @avl4, @avl5, @avl6⟩
end Go.Aw

/- Types of what comes in, taken apart. Own work. -/
namespace Go.Aw
open Go
def typedL (P : Program) (n : Nat) : List TypeId -> List AV -> Prop
 | [], xs => xs = []
 | t :: ts, xs => ∃ y r, xs = y ++ r /\ typed P n t y /\ typedL P n ts r
theorem typedL_of {P : Program} {n : Nat} : ∀ {fs : List Field} {xss : List (List AV)}, xss.length = fs.length -> (∀ (i : Nat) (f : Field) (ys : List AV), fs[i]? = some f -> xss[i]? = some ys -> typed P n f.type ys) -> typedL P n (fs.map (·.type)) xss.flatten
 | [], xss, h, _ => by
  have : xss = [] := List.eq_nil_of_length_eq_zero h
  subst this; rfl
 | f :: fs, [], h, _ => by cases h
 | f :: fs, y :: xss, h, ht => ⟨y, xss.flatten, rfl, ht 0 f y rfl rfl, typedL_of (by simpa using h) fun i g ys hg hy => ht (i + 1) g ys (by simpa using hg) (by simpa using hy)⟩
theorem typed_int {P : Program} {n : Nat} {t : TypeId} {k : IntKind} {xs : List AV} (hu : P.underlying t = some (.int k)) (h : typed P n t xs) : ∃ m : Int, (Lit.int k m).wf = true /\ xs = [.int k m] := by
 cases n with
 | zero => exact h.elim
 | succ n => simp only [typed, hu] at h; exact h
theorem typed_string {P : Program} {n : Nat} {t : TypeId} {xs : List AV} (hu : P.underlying t = some .string) (h : typed P n t xs) : ∃ s : ByteArray, s.size ≤ maxLen /\ s.size ≤ reachBytes /\ xs = [.str s] := by
 cases n with
 | zero => exact h.elim
 | succ n =>
  simp only [typed, hu] at h
  obtain ⟨s, ⟨h1, h2⟩, h3⟩ := h
  exact ⟨s, h1, h2, h3⟩
theorem isE_struct {P : Program} {e : TypeId} {fs : Array Field} {y : AV} (hu : P.underlying e = some (.struct fs)) (h : isE P e y) : ∃ cs, y = .agg cs := by
 unfold isE at h; rw [hu] at h; exact h
theorem list_map_of {α : Type} {f : α -> AV} {Q : α -> Prop} : ∀ {es : List AV}, (∀ y ∈ es, ∃ a, Q a /\ y = f a) -> ∃ l : List α, (∀ a ∈ l, Q a) /\ es = l.map f
 | [], _ => ⟨[], by simp, rfl⟩
 | y :: es, h => by
  obtain ⟨a, h1, rfl⟩ := h y (by simp)
  obtain ⟨l, h2, rfl⟩ := list_map_of (es := es) fun z hz => h z (by simp [hz])
  exact ⟨a :: l, by simpa using ⟨h1, h2⟩, rfl⟩
end Go.Aw

/- More words for evaluation. Own work. -/
namespace Go.Aw
open Go
set_option linter.unusedVariables false
section
variable {α : Type} {f : α -> AV} {l : List α}
theorem row_sub1 [h : RowF f] {o : Nat} {fs fp : Nat -> Nat -> AV} : (∀ e ∈ l.map f, sub o fs fp e = e) = True := by
 refine eq_true fun e he => ?_
 obtain ⟨x, _, rfl⟩ := List.mem_map.1 he
 exact sub_pure (h.pure x)
theorem getD_map {i : Nat} {x : α} (h : l[i]? = some x) : (l.map f).getD i .junk = f x := by
 simp [List.getD_eq_getElem?_getD, h]
theorem some_true {x : α} {φ : Prop} (h : φ) : (some (x, φ) : Option (α × Prop)) = some (x, True) := by rw [eq_true h]
theorem row_take1 {x : AV} : List.take (l.length + 1) (l.map f ++ [x]) = l.map f ++ [x] := List.take_of_length_le (by simp)
end
end Go.Aw

/- The equations of the interpreter, in one bundle. Own work. -/
namespace Go.Aw
open Go
theorem ivb : type_of% @avl /\ type_of% @aw /\ type_of% @stdl /\ type_of% @awe /\ type_of% @aws /\ type_of% @ex_skip_nil /\ type_of% @ex_skip_code /\ type_of% @ex_skip_blk /\ type_of% @ex_label /\ type_of% @ex_ret /\ type_of% @ex_seq /\ type_of% @ex_block /\ type_of% @ex_exit /\ type_of% @gExit_some /\ type_of% @gExit_none /\ type_of% @unw_nil /\ type_of% @unw_code /\ type_of% @unw_blk /\ type_of% @ex_cond /\ type_of% @ex_condC /\ type_of% @ex_scope /\ type_of% @gCond_bool /\ type_of% @ex_region /\ type_of% @ex_drawn /\ type_of% @gDr_some /\ type_of% @wX_false /\ type_of% @wX_true /\ type_of% @refsT_nil /\ type_of% @refsT_cons /\ type_of% @refT_some /\ type_of% @refT_none /\ type_of% @ex_loop /\ type_of% @gLoop_some /\ type_of% @gL1_some /\ type_of% @gL2_exit /\ type_of% @gL2_ret /\ type_of% @gL2_ite /\ type_of% @ex_o_nil /\ type_of% @andP_some' /\ type_of% @andP_none /\ type_of% @andP_true /\ type_of% @andP_and /\ type_of% @bothP_some' /\ type_of% @andP_ite /\ type_of% @gV_some /\ type_of% @gV_none /\ type_of% @hO_true /\ type_of% @wOk_none /\ type_of% @wOk_some /\ type_of% @wOq_some /\ type_of% @ex_load /\ type_of% @gLz_none /\ type_of% @gLz_drawn /\ type_of% @gLz_true /\ type_of% @gLz_false /\ type_of% @ex_indexAddr /\ type_of% @ex_slice /\ type_of% @ex_nilCheck /\ type_of% @ex_fieldAddr /\ type_of% @ex_field /\ type_of% @ex_index /\ type_of% @ex_unOp /\ type_of% @ex_convert /\ type_of% @ex_build /\ type_of% @ex_extract /\ type_of% @ex_makeFunc /\ type_of% @ex_toArray /\ type_of% @ex_makeInterface /\ type_of% @ex_len /\ type_of% @ex_min /\ type_of% @ex_max /\ type_of% @gM_none /\ type_of% @gM_some /\ type_of% @ex_move /\ type_of% @ex_assign /\ type_of% @gB_none /\ type_of% @gB_some /\ type_of% @gB_drawn /\ type_of% @ex_binOp /\ type_of% @gS_some /\ type_of% @ex_store /\ type_of% @ex_pick /\ type_of% @ex_alloc /\ type_of% @ex_box /\ type_of% @ex_buildSlice /\ type_of% @ex_makeSlice /\ type_of% @ex_append /\ type_of% @gS_ite /\ type_of% @gC_true /\ type_of% @gC_false /\ type_of% @gC_ptrue /\ type_of% @gC_pfalse /\ type_of% @pcF_func /\ type_of% @pcF_tmp /\ type_of% @ex_call /\ type_of% @stB_some /\ type_of% @stH_some /\ type_of% @clr_none /\ type_of% @clr_some /\ type_of% @stB_ite /\ type_of% @stH_ite /\ type_of% @hoR_ite /\ type_of% @brwR_ite /\ type_of% @stP_some /\ type_of% @stP_ite /\ type_of% @pcQ_some /\ type_of% @pcQ_ite /\ type_of% @pcR_eq /\ type_of% @qR_eq /\ type_of% @roK_eq /\ type_of% @roS_some /\ type_of% @roR_some /\ type_of% @roR_ite /\ type_of% @hoR_some /\ type_of% @hoS_some /\ type_of% @hoK_eq /\ type_of% @brwK_eq /\ type_of% @brwS_some /\ type_of% @brwF_some /\ type_of% @brwR_some /\ type_of% @goX_true /\ type_of% @lk1_some /\ type_of% @lk2_some /\ type_of% @rk1_some /\ type_of% @rk2_some /\ type_of% @canM_some /\ type_of% @canF_eq /\ type_of% @heapX_nil /\ type_of% @heapX_cons /\ type_of% @obX_some /\ type_of% @obX_none /\ type_of% @canV_eq /\ type_of% @srunG_nil /\ type_of% @srunG_cons /\ type_of% @srR_some /\ type_of% @srR2_some /\ type_of% @svC_some /\ type_of% @stepC_move /\ type_of% @stepC_assign /\ type_of% @stepC_binOp /\ type_of% @stepC_slice /\ type_of% @scP_some /\ type_of% @stepC_copy /\ type_of% @gRg_reg /\ type_of% @gRg_cp /\ type_of% @gCp_some /\ type_of% @has2_nil /\ type_of% @has2_cons /\ type_of% @pcA_some /\ type_of% @pcA_func /\ type_of% @pcA_tmp /\ type_of% @gA1_some /\ type_of% @gA_false /\ type_of% @gA_true /\ type_of% @frzR_some /\ type_of% @frzS_nil /\ type_of% @frzS_cons /\ type_of% @frzO_some /\ type_of% @frzP_some /\ type_of% @canS_true /\ type_of% @canS_false /\ type_of% @canU_eq /\ type_of% @canZ_some /\ type_of% @canY_some /\ type_of% @rls_app /\ type_of% @row_rl /\ type_of% @row_ren /\ type_of% @row_sub /\ type_of% @row_refs /\ type_of% @row_imm /\ type_of% @row_kill /\ type_of% @mem_app /\ type_of% @mem_one /\ type_of% @mem_nil' /\ type_of% @mem_cons' /\ type_of% @headOut_nil /\ type_of% @decide_true /\ type_of% @decide_false /\ type_of% @decide_eq_true_eq /\ type_of% @Bool.not_eq_true /\ type_of% @Bool.and_self /\ type_of% @Bool.not_true /\ type_of% @Bool.not_false /\ type_of% @Bool.and_true /\ type_of% @Bool.true_and /\ type_of% @Bool.and_false /\ type_of% @Bool.false_and /\ type_of% @Bool.or_true /\ type_of% @Bool.or_false /\ type_of% @Bool.true_or /\ type_of% @Bool.false_or /\ type_of% @true_and /\ type_of% @and_true /\ type_of% @and_self /\ type_of% @Bool.false_eq_true /\ type_of% @not_false_eq_true /\ type_of% @not_true_eq_false /\ type_of% @ex_ob /\ type_of% @imp_not /\ type_of% @wrap_id /\ type_of% @row_sub1 /\ type_of% @row_take1 :=
 ⟨@avl, @aw, @stdl, @awe, @aws, @ex_skip_nil, @ex_skip_code, @ex_skip_blk, @ex_label, @ex_ret, @ex_seq, @ex_block, @ex_exit, @gExit_some, @gExit_none, @unw_nil, @unw_code, @unw_blk, @ex_cond, @ex_condC, @ex_scope, @gCond_bool, @ex_region, @ex_drawn, @gDr_some, @wX_false, @wX_true, @refsT_nil, @refsT_cons, @refT_some, @refT_none, @ex_loop, @gLoop_some, @gL1_some, @gL2_exit, @gL2_ret, @gL2_ite, @ex_o_nil, @andP_some', @andP_none, @andP_true, @andP_and, @bothP_some', @andP_ite, @gV_some, @gV_none, @hO_true, @wOk_none, @wOk_some, @wOq_some, @ex_load, @gLz_none, @gLz_drawn, @gLz_true, @gLz_false, @ex_indexAddr, @ex_slice, @ex_nilCheck, @ex_fieldAddr, @ex_field, @ex_index, @ex_unOp, @ex_convert, @ex_build, @ex_extract, @ex_makeFunc, @ex_toArray, @ex_makeInterface, @ex_len, @ex_min, @ex_max, @gM_none, @gM_some, @ex_move, @ex_assign, @gB_none, @gB_some, @gB_drawn, @ex_binOp, @gS_some, @ex_store, @ex_pick, @ex_alloc, @ex_box, @ex_buildSlice, @ex_makeSlice, @ex_append, @gS_ite, @gC_true, @gC_false, @gC_ptrue, @gC_pfalse, @pcF_func, @pcF_tmp, @ex_call, @stB_some, @stH_some, @clr_none, @clr_some, @stB_ite, @stH_ite, @hoR_ite, @brwR_ite, @stP_some, @stP_ite, @pcQ_some, @pcQ_ite, @pcR_eq, @qR_eq, @roK_eq, @roS_some, @roR_some, @roR_ite, @hoR_some, @hoS_some, @hoK_eq, @brwK_eq, @brwS_some, @brwF_some, @brwR_some, @goX_true, @lk1_some, @lk2_some, @rk1_some, @rk2_some, @canM_some, @canF_eq, @heapX_nil, @heapX_cons, @obX_some, @obX_none, @canV_eq, @srunG_nil, @srunG_cons, @srR_some, @srR2_some, @svC_some, @stepC_move, @stepC_assign, @stepC_binOp, @stepC_slice, @scP_some, @stepC_copy, @gRg_reg, @gRg_cp, @gCp_some, @has2_nil, @has2_cons, @pcA_some, @pcA_func, @pcA_tmp, @gA1_some, @gA_false, @gA_true, @frzR_some, @frzS_nil, @frzS_cons, @frzO_some, @frzP_some, @canS_true, @canS_false, @canU_eq, @canZ_some, @canY_some, @rls_app, @row_rl, @row_ren, @row_sub, @row_refs, @row_imm, @row_kill, @mem_app, @mem_one, @mem_nil', @mem_cons', @headOut_nil, @decide_true, @decide_false, @decide_eq_true_eq, @Bool.not_eq_true, @Bool.and_self, @Bool.not_true, @Bool.not_false, @Bool.and_true, @Bool.true_and, @Bool.and_false, @Bool.false_and, @Bool.or_true, @Bool.or_false, @Bool.true_or, @Bool.false_or, @true_and, @and_true, @and_self, @Bool.false_eq_true, @not_false_eq_true, @not_true_eq_false, @ex_ob, @imp_not, @wrap_id, @row_sub1, @row_take1⟩
end Go.Aw

