/- ColourTables: Grow, Table and Pack of any world, colours, class and entries return the results of the reference, or its errors; for worlds and lists as the statement’s guard lets them in. The package's table math/bits.deBruijn64tab is as the program's text lays it. -/
import Derived.Test.YtikppcfabnnhfaaDoorC5
/- The reference's Grow: loops. -/
namespace Go.Proofs.YtikppcfabnnhfaaDoor
open Go Go.Aw
set_option linter.unusedSimpArgs false
set_option linter.unusedVariables false
set_option maxRecDepth 100000
set_option maxHeartbeats 40000000
def partF (F : List Int) (j : Nat) : List Int := F.take j ++ zs (F.length - j)
theorem partF_len {F : List Int} {j : Nat} (h : j ≤ F.length) : (partF F j).length = F.length := by
 rw [partF, List.length_append, zs_len, List.length_take]
 omega
theorem partF_set {F : List Int} {j : Nat} (h : j < F.length) : (partF F j).set j (F.getD j 0) = partF F (j + 1) := by
 unfold partF
 have e1 : (F.take j).length = j := by rw [List.length_take]; omega
 rw [List.set_append_right _ _ (by omega), e1, Nat.sub_self]
 rw [show F.length - j = (F.length - (j + 1)) + 1 by omega]
 rw [show zs ((F.length - (j + 1)) + 1) = 0 :: zs (F.length - (j + 1)) from rfl, List.set_cons_zero]
 rw [show F.take (j + 1) = F.take j ++ [F.getD j 0] from by rw [List.take_add_one, List.getD_eq_getElem?_getD, List.getElem?_eq_getElem h]; rfl, List.append_assoc]
 rfl
theorem partF_all {F : List Int} : partF F F.length = F := by
 unfold partF
 rw [List.take_length, Nat.sub_self]
 exact List.append_nil F
theorem setI {l : List Int} {i : Nat} {x : Int} : (l.map (AV.int .i64)).set i (.int .i64 x) = (l.set i x).map (AV.int .i64) := List.map_set.symm
def nxH (X : Wd) (F : List Int) : HL := [(60000, ⟨true, 3, [wdV X]⟩), (60001, iR F)]
theorem nx_loop {X : Wd} {cs F : List Int} {C : List AV} (hF : F.length ≤ 1000) (hcl : cs.length ≤ F.length) (h1 : ∀ i : Nat, i < F.length -> F.getD i 0 = if i < cs.length then cs.getD i 0 else -1) : ∀ (k j : Nat), j + k = F.length ->
  EL.L 18 11 [.ro 1 (cs.map (AV.int .i64)), .ro 2 C, .ptr 60000 0 0, .sl 60001 0 F.length, .int .i64 j] (nxH X (partF F j)) = some ((.exit 0, [.ro 1 (cs.map (AV.int .i64)), .ro 2 C, .ptr 60000 0 0, .sl 60001 0 F.length, .int .i64 F.length], nxH X F), True) := by
 intro k
 induction k with
 | zero =>
  intro j h
  have hj : j = F.length := by omega
  subst hj
  have q : ((F.length : Int) < F.length) = False := eq_false (by omega)
  rw [l18_11L, partF_all]
  simp (maxSteps := 100000000) only [ivc, vlen, vbuiltin, nilR, eq_self, Nat.reduceEqDiff, Nat.reduceLT, Nat.reduceLeDiff, Nat.reduceAdd, Nat.reduceBEq, Int.reduceNeg, reduceCtorEq, ↓reduceIte, anfL, tyb, nxH, iR, wdV, q]
 | succ k ih =>
  intro j h
  have q : ((j : Int) < F.length) = True := eq_true (by omega)
  have q2 : (0 ≤ (j : Int)) = True := eq_true (by omega)
  have hw : IntKind.i64.wrap ((j : Int) + 1) = j + 1 := wrap_id (by omega) (by omega)
  have pl := partF_len (F := F) (j := j) (by omega)
  have ps := partF_set (F := F) (j := j) (by omega)
  have hf := h1 j (by omega)
  have ih' := ih (j + 1) (by omega)
  have g1 := getI (l := partF F j) (i := j) (by omega)
  rw [hf] at ps
  by_cases b : j < cs.length
  ·rw [if_pos b] at ps
   have b' : ((j : Int) < cs.length) = True := eq_true (by omega)
   have gc := getI (l := cs) (i := j) b
   have g2 := getI (l := (partF F j).set j (-1)) (i := j) (by rw [List.length_set]; omega)
   have s2 : ((partF F j).set j (-1)).set j (cs.getD j 0) = partF F (j + 1) := by rw [List.set_set]; exact ps
   generalize partF F (j + 1) = P1 at ih' ps s2
   generalize partF F j = P at g1 g2 s2 pl ⊢
   simp only [Int.natCast_add, Int.cast_ofNat_Int, nxH, iR, wdV] at ih'
   rw [l18_11L]
   simp (maxSteps := 100000000) only [ivc, vlen, vbuiltin, nilR, eq_self, Nat.reduceEqDiff, Nat.reduceLT, Nat.reduceLeDiff, Nat.reduceAdd, Nat.reduceBEq, Int.reduceNeg, reduceCtorEq, ↓reduceIte, anfL, tyb, nxH, iR, wdV, q, q2, hw, b', g1, g2, gc, setI, s2, ih']
   try exact some_true (by omega)
  ·rw [if_neg b] at ps
   have b' : ((j : Int) < cs.length) = False := eq_false (by omega)
   generalize partF F (j + 1) = P1 at ih' ps
   generalize partF F j = P at g1 ps pl ⊢
   simp only [Int.natCast_add, Int.cast_ofNat_Int, nxH, iR, wdV] at ih'
   rw [l18_11L]
   simp (maxSteps := 100000000) only [ivc, vlen, vbuiltin, nilR, eq_self, Nat.reduceEqDiff, Nat.reduceLT, Nat.reduceLeDiff, Nat.reduceAdd, Nat.reduceBEq, Int.reduceNeg, reduceCtorEq, ↓reduceIte, anfL, tyb, nxH, iR, wdV, q, q2, hw, b', g1, setI, ps, ih']
   try exact some_true (by omega)
def rgI (X : Wd) (out chg : List Int) : HL := [(60000, ⟨true, 3, [wdV X]⟩), (60001, iR out), (60002, iR chg)]
/-- Is the colour one of an entry ahead? -/
theorem cl23_loop {X : Wd} {cl : List Et} {out chg : List Int} {i : Nat} {s : Int} (hcl : cl.length ≤ 1000) (hi : i ≤ cl.length) (hs : ∀ e ∈ cl, 0 ≤ e.s /\ e.s < out.length) (h0 : 0 ≤ s /\ s < out.length) : ∀ (r m : List Et) (b : Bool), cl.take i = m ++ r ->
  EL.L 18 23 [.ro 2 (cl.map enV), .ptr 60000 0 0, .sl 60001 0 out.length, .sl 60002 0 chg.length, .int .i64 i, .int .i64 s, .bool b, .int .i64 m.length] (rgI X out chg)
  = some ((.exit 4, [.ro 2 (cl.map enV), .ptr 60000 0 0, .sl 60001 0 out.length, .sl 60002 0 chg.length, .int .i64 i, .int .i64 s, .bool (b || r.any fun e => colAt out e.s == colAt out s), .int .i64 i], rgI X out chg), True) := by
 have q5 := eq_true h0
 have k5 := getI (l := out) (i := s.toNat) (by omega)
 intro r
 induction r with
 | nil =>
  intro m b h
  rw [List.append_nil] at h
  have e : m.length = i := by rw [<- h, List.length_take]; omega
  have q : ((i : Int) < i) = False := eq_false (by omega)
  rw [e, l18_23L]
  simp (maxSteps := 100000000) only [ivc, nilR, eq_self, Nat.reduceEqDiff, Nat.reduceLT, Nat.reduceLeDiff, Nat.reduceAdd, Nat.reduceBEq, reduceCtorEq, ↓reduceIte, anfL, tyb, rgI, iR, wdV, q, List.any_nil]
 | cons x r ih =>
  intro m b h
  have hl : m.length + (r.length + 1) = i := by
   have := congrArg List.length h
   rw [List.length_take, List.length_append, List.length_cons] at this
   omega
  have hm : cl[m.length]? = some x := by
   have : (cl.take i)[m.length]? = some x := by rw [h]; simp
   rw [List.getElem?_take] at this
   rw [if_pos (by omega)] at this
   exact this
  have hi' : ((m.length : Int) < i) = True := eq_true (by omega)
  have hg := getD_map (f := enV) hm
  have hx := hs x (List.mem_of_getElem? hm)
  have q := eq_true hx
  have k1 := getI (l := out) (i := x.s.toNat) (by omega)
  have hw : IntKind.i64.wrap ((m.length : Int) + 1) = m.length + 1 := wrap_id (by omega) (by omega)
  have hc : (0 ≤ (m.length : Int) /\ (m.length : Int) < cl.length) = True := eq_true (by omega)
  have ih' := ih (m ++ [x]) (b || (colAt out x.s == colAt out s)) (by simp [h])
  rw [Bool.or_assoc] at ih'
  rw [List.any_cons]
  simp only [List.length_append, List.length_cons, List.length_nil, Nat.zero_add, Int.natCast_add, Int.cast_ofNat_Int, rgI, iR, wdV] at ih'
  rw [show colAt out x.s = out.getD x.s.toNat 0 from rfl, show colAt out s = out.getD s.toNat 0 from rfl] at ih' ⊢
  cases b with
  | true =>
   simp only [Bool.true_or] at ih' ⊢
   rw [l18_23L]
   simp (maxSteps := 100000000) only [ivc, vop, nilR, eq_self, Nat.reduceEqDiff, Nat.reduceLT, Nat.reduceLeDiff, Nat.reduceAdd, Nat.reduceBEq, reduceCtorEq, ↓reduceIte, anfL, tyb, rgI, iR, wdV, enV, hi', hg, q, q5, k1, k5, hw, hc, ih']
   try exact some_true (by omega)
  | false =>
   simp only [Bool.false_or] at ih' ⊢
   rw [l18_23L]
   simp (maxSteps := 100000000) only [ivc, vop, nilR, eq_self, Nat.reduceEqDiff, Nat.reduceLT, Nat.reduceLeDiff, Nat.reduceAdd, Nat.reduceBEq, reduceCtorEq, ↓reduceIte, anfL, tyb, rgI, iR, wdV, enV, hi', hg, q, q5, k1, k5, hw, hc, ih']
   try exact some_true (by omega)
def tkB (X : Wd) (out : List Int) (s c : Int) (t : Nat) : Bool := (out.getD t 0 == c) && cfB X s t
theorem tk32_loop {X : Wd} {C : List AV} {out chg : List Int} {i s c : Int} (hl : X.classes.length ≤ 1000) (hs : ∀ c ∈ X.classes, c.length ≤ 1000) (ho : out.length ≤ 1000) : ∀ (k j : Nat) (b : Bool), j + k = out.length ->
  EL.L 18 32 [.ro 2 C, .ptr 60000 0 0, .sl 60001 0 out.length, .sl 60002 0 chg.length, .int .i64 i, .int .i64 s, .int .i64 c, .bool b, .int .i64 j] (rgI X out chg)
  = some ((.exit 8, [.ro 2 C, .ptr 60000 0 0, .sl 60001 0 out.length, .sl 60002 0 chg.length, .int .i64 i, .int .i64 s, .int .i64 c, .bool (b || anyF (tkB X out s c) k j), .int .i64 out.length], rgI X out chg), True) := by
 intro k
 induction k with
 | zero =>
  intro j b h
  have hj : j = out.length := by omega
  subst hj
  have q : ((out.length : Int) < out.length) = False := eq_false (by omega)
  rw [l18_32L]
  simp (maxSteps := 100000000) only [ivc, vlen, vbuiltin, nilR, eq_self, Nat.reduceEqDiff, Nat.reduceLT, Nat.reduceLeDiff, Nat.reduceAdd, Nat.reduceBEq, reduceCtorEq, ↓reduceIte, anfL, tyb, rgI, iR, wdV, q, anyF]
 | succ k ih =>
  intro j b h
  have q : ((j : Int) < out.length) = True := eq_true (by omega)
  have q2 : (0 ≤ (j : Int)) = True := eq_true (by omega)
  have hw : IntKind.i64.wrap ((j : Int) + 1) = j + 1 := wrap_id (by omega) (by omega)
  have g1 := getI (l := out) (i := j) (by omega)
  have cv := conflict_ev (w := X) (a := s) (b := j) hl hs
  have ih' := ih (j + 1) (b || tkB X out s c j) (by omega)
  rw [Bool.or_assoc] at ih'
  rw [anyF]
  simp only [Int.natCast_add, Int.cast_ofNat_Int, rgI, iR, wdV] at ih'
  simp only [wdV] at cv
  have te : tkB X out s c j = ((out.getD j 0 == c) && cfB X s j) := rfl
  cases b with
  | true =>
   simp only [Bool.true_or] at ih' ⊢
   rw [l18_32L]
   simp (maxSteps := 100000000) only [ivc, vlen, vbuiltin, nilR, eq_self, Nat.reduceEqDiff, Nat.reduceLT, Nat.reduceLeDiff, Nat.reduceAdd, Nat.reduceBEq, reduceCtorEq, ↓reduceIte, anfL, tyb, rgI, iR, wdV, q, q2, hw, g1, ih']
   try exact some_true (by omega)
  | false =>
   simp only [Bool.false_or] at ih' ⊢
   cases b1 : (out.getD j 0 == c) with
   | true =>
    rw [te, b1, Bool.true_and] at ih' ⊢
    rw [l18_32L]
    simp (maxSteps := 100000000) only [ivc, vlen, vbuiltin, nilR, eq_self, Nat.reduceEqDiff, Nat.reduceLT, Nat.reduceLeDiff, Nat.reduceAdd, Nat.reduceBEq, reduceCtorEq, ↓reduceIte, anfL, tyb, gv54L, rgI, iR, wdV, q, q2, hw, g1, b1, cv, ih']
    try exact some_true (by omega)
   | false =>
    rw [te, b1, Bool.false_and] at ih' ⊢
    rw [l18_32L]
    simp (maxSteps := 100000000) only [ivc, vlen, vbuiltin, nilR, eq_self, Nat.reduceEqDiff, Nat.reduceLT, Nat.reduceLeDiff, Nat.reduceAdd, Nat.reduceBEq, reduceCtorEq, ↓reduceIte, anfL, tyb, rgI, iR, wdV, q, q2, hw, g1, b1, ih']
    try exact some_true (by omega)
theorem tk29_loop {X : Wd} {C : List AV} {out chg : List Int} {i s L : Int} (hl : X.classes.length ≤ 1000) (hs : ∀ c ∈ X.classes, c.length ≤ 1000) (ho : out.length ≤ 1000) (hL : L ≤ 1000)
  (h1 : ∀ c : Int, 0 ≤ c -> c < L -> anyF (tkB X out s c) out.length 0 = true) (h2 : anyF (tkB X out s L) out.length 0 = false) : ∀ (k : Nat) (c : Int), 0 ≤ c -> c + k = L ->
  EL.L 18 29 [.ro 2 C, .ptr 60000 0 0, .sl 60001 0 out.length, .sl 60002 0 chg.length, .int .i64 i, .int .i64 s, .int .i64 c, .bool true] (rgI X out chg)
  = some ((.exit 6, [.ro 2 C, .ptr 60000 0 0, .sl 60001 0 out.length, .sl 60002 0 chg.length, .int .i64 i, .int .i64 s, .int .i64 L, .bool false], rgI X out chg), True) := by
 have done : EL.L 18 29 [.ro 2 C, .ptr 60000 0 0, .sl 60001 0 out.length, .sl 60002 0 chg.length, .int .i64 i, .int .i64 s, .int .i64 L, .bool false] (rgI X out chg)
  = some ((.exit 6, [.ro 2 C, .ptr 60000 0 0, .sl 60001 0 out.length, .sl 60002 0 chg.length, .int .i64 i, .int .i64 s, .int .i64 L, .bool false], rgI X out chg), True) := by
  rw [l18_29L]
  simp (maxSteps := 100000000) only [ivc, eq_self, Nat.reduceEqDiff, Nat.reduceLT, Nat.reduceLeDiff, Nat.reduceAdd, Nat.reduceBEq, reduceCtorEq, ↓reduceIte, anfL, rgI, iR, wdV]
 intro k
 induction k with
 | zero =>
  intro c h0 h
  have e : c = L := by omega
  subst e
  have lp := tk32_loop (C := C) (i := i) (s := s) (c := c) (chg := chg) hl hs ho out.length 0 false (by omega)
  rw [h2] at lp
  simp only [Int.natCast_zero, Bool.or_false, rgI, iR, wdV] at lp done
  rw [l18_29L]
  simp (maxSteps := 100000000) only [ivc, eq_self, Nat.reduceEqDiff, Nat.reduceLT, Nat.reduceLeDiff, Nat.reduceAdd, Nat.reduceBEq, reduceCtorEq, ↓reduceIte, anfL, rgI, iR, wdV, lp, done]
  try exact some_true (by omega)
 | succ k ih =>
  intro c h0 h
  have lp := tk32_loop (C := C) (i := i) (s := s) (c := c) (chg := chg) hl hs ho out.length 0 false (by omega)
  rw [h1 c h0 (by omega)] at lp
  have hw : IntKind.i64.wrap (c + 1) = c + 1 := wrap_id (by omega) (by omega)
  have ih' := ih (c + 1) (by omega) (by omega)
  simp only [Int.natCast_zero, Bool.or_true, rgI, iR, wdV] at lp ih'
  rw [l18_29L]
  simp (maxSteps := 100000000) only [ivc, nilR, eq_self, Nat.reduceEqDiff, Nat.reduceLT, Nat.reduceLeDiff, Nat.reduceAdd, Nat.reduceBEq, reduceCtorEq, ↓reduceIte, anfL, tyb, rgI, iR, wdV, lp, hw, ih']
  try exact some_true (by omega)
end Go.Proofs.YtikppcfabnnhfaaDoor

/- ColourGrows: the walk. -/
namespace Go.Proofs.YtikppcfabnnhfaaDoor
open Go Go.Aw
set_option linter.unusedSimpArgs false
set_option linter.unusedVariables false
set_option maxRecDepth 100000
set_option maxHeartbeats 40000000
end Go.Proofs.YtikppcfabnnhfaaDoor

/- ColourGrows: all. -/
namespace Go.Proofs.YtikppcfabnnhfaaDoor
open Go Go.Aw
set_option linter.unusedSimpArgs false
set_option linter.unusedVariables false
set_option maxRecDepth 100000
set_option maxHeartbeats 40000000
theorem gw_chg {g : List Int} : ∀ {r p : List Et} {out chg o' c' : List Int}, gwM g r p out chg = some (o', c') -> c'.length ≤ chg.length + r.length
 | [], p, out, chg, o', c', h => by cases h; simp
 | x :: r, p, out, chg, o', c', h => by
  rw [gwM] at h
  rw [List.length_cons]
  split at h
  ·have := gw_chg h
   omega
  ·split at h
   ·cases h
   ·have := gw_chg h
    split at this
    ·rw [List.length_append] at this
     simp only [List.length_cons, List.length_nil] at this
     omega
    ·omega
end Go.Proofs.YtikppcfabnnhfaaDoor

/- The reference's Grow: all. -/
namespace Go.Proofs.YtikppcfabnnhfaaDoor
open Go Go.Aw
set_option linter.unusedSimpArgs false
set_option linter.unusedVariables false
set_option maxRecDepth 100000
set_option maxHeartbeats 40000000
theorem tk_tak {X : Wd} (g : Good X) {out : List Int} {s c : Int} (hs : selN s) (ho : out.length ≤ 500) (hc : ∀ c ∈ out, c < 512) (hm : 0 ≤ c /\ c < 512) : anyF (tkB X out s c) out.length 0 = hasW (takW (graphW X) s out) 0 c := by
 refine Bool.eq_iff_iff.2 ?_
 rw [anyF_iff, takenW hm hc]
 constructor
 ·rintro ⟨i, _, h2, h3⟩
  simp only [tkB, Bool.and_eq_true, beq_iff_eq] at h3
  have hi : i < out.length := by omega
  refine ⟨i, hi, ?_, ?_⟩
  ·rw [<- h3.1, List.getD_eq_getElem?_getD, List.getElem?_eq_getElem hi]
   rfl
  ·rw [<- cfB_near g hs ⟨by omega, by omega⟩]
   exact h3.2
 ·rintro ⟨i, hi, h2, h3⟩
  refine ⟨i, by omega, by omega, ?_⟩
  simp only [tkB, Bool.and_eq_true, beq_iff_eq]
  refine ⟨?_, ?_⟩
  ·rw [<- h2, List.getD_eq_getElem?_getD, List.getElem?_eq_getElem hi]
   rfl
  ·rw [cfB_near g hs ⟨by omega, by omega⟩]
   exact h3
def rgV (cl : List Et) (n i k : Nat) : List AV := [.ro 2 (cl.map enV), .ptr 60000 0 0, .sl 60001 0 n, .sl 60002 0 k, .int .i64 i]
def rgH (X : Wd) (out chg : List Int) : HL := rgI X out chg
theorem rg_main {X : Wd} {cl : List Et} (g : Good X) (hcl : cl.length ≤ 100) : ∀ (r m : List Et) (out chg : List Int), cl = m ++ r -> out.length ≤ 500 -> (∀ c ∈ out, c < 500) -> (∀ e ∈ cl, 0 ≤ e.s /\ e.s < out.length) -> chg.length ≤ m.length ->
  ∀ o' c', gwM (graphW X) r m out chg = some (o', c') -> EL.L 18 18 (rgV cl out.length m.length chg.length) (rgH X out chg) = some ((.exit 2, rgV cl out.length cl.length c'.length, rgH X o' c'), True) := by
 have gn := g.nc
 have gl : ∀ c ∈ X.classes, c.length ≤ 1000 := fun c hc => by have := g.len c hc; omega
 intro r
 induction r with
 | nil =>
  intro m out chg h ho hc hs hl o' c' hr
  cases hr
  rw [List.append_nil] at h
  have q : ((cl.length : Int) < cl.length) = False := eq_false (by omega)
  rw [<- h, l18_18L]
  simp (maxSteps := 100000000) only [ivc, vlen, vbuiltin, nilR, eq_self, Nat.reduceEqDiff, Nat.reduceLT, Nat.reduceLeDiff, Nat.reduceAdd, Nat.reduceBEq, reduceCtorEq, ↓reduceIte, anfL, tyb, rgV, rgH, rgI, iR, wdV, q]
 | cons x r ih =>
  intro m out chg h ho hc hs hl o' c' hr
  have hn : m.length + (r.length + 1) = cl.length := by rw [h]; simp
  have hi' : (m.length : Int) < cl.length := by omega
  have hg0 := getD_map (f := enV) (show cl[m.length]? = some x by rw [h]; simp)
  have hw : IntKind.i64.wrap ((m.length : Int) + 1) = m.length + 1 := wrap_id (by omega) (by omega)
  have hc0 : (0 ≤ (m.length : Int) /\ (m.length : Int) < cl.length) = True := eq_true (by omega)
  have hx := hs x (by rw [h]; simp)
  have q := eq_true hx
  have k1 := getI (l := out) (i := x.s.toNat) (by omega)
  have lp := fun b => cl23_loop (X := X) (cl := cl) (out := out) (chg := chg) (i := m.length) (s := x.s) (by omega) (by omega) hs hx m [] b (by rw [h]; simp)
  rw [gwM] at hr
  by_cases b1 : 0 ≤ colAt out x.s /\ (m.any fun e => colAt out e.s == colAt out x.s) = false
  ·rw [if_pos b1] at hr
   have ih' := ih (m ++ [x]) out chg (by simp [h]) ho hc hs (by simp; omega) o' c' hr
   simp only [List.length_append, List.length_cons, List.length_nil, Nat.zero_add, Int.natCast_add, Int.cast_ofNat_Int, rgV, rgH, rgI, iR, wdV] at ih'
   have b11 : ¬ colAt out x.s < 0 := by omega
   have lp' := lp false
   rw [b1.2] at lp'
   simp only [List.length_nil, Int.natCast_zero, Bool.or_false, rgI, iR, wdV] at lp'
   simp only [colAt] at b11
   rw [l18_18L]
   simp (maxSteps := 100000000) only [ivc, vop, vlen, vbuiltin, nilR, eq_self, Nat.reduceEqDiff, Nat.reduceLT, Nat.reduceLeDiff, Nat.reduceAdd, Nat.reduceBEq, reduceCtorEq, ↓reduceIte, anfL, tyb, rgV, rgH, rgI, iR, wdV, enV, hi', hg0, hw, q, k1, b11, lp', ih']
   try exact some_true (by omega)
  ·rw [if_neg b1] at hr
   split at hr
   ·cases hr
   rename_i b2
   have hsel : selN x.s := ⟨hx.1, by omega⟩
   have hc5 : ∀ c ∈ out, c < 512 := fun c h => by have := hc c h; omega
   have lk := least_ok (T := takW (graphW X) x.s out) takW_r takW_len
   have t1 : ∀ c : Int, 0 ≤ c -> c < leastL (takW (graphW X) x.s out) 0 -> anyF (tkB X out x.s c) out.length 0 = true := fun c h0 h1 => by
    rw [tk_tak g hsel ho hc5 ⟨h0, by omega⟩]
    exact lk.2.1 c h0 h1
   have t2 : anyF (tkB X out x.s (leastL (takW (graphW X) x.s out) 0)) out.length 0 = false := by
    rw [tk_tak g hsel ho hc5 (by omega)]
    exact lk.2.2 (by omega)
   have lk1 := lk.1
   generalize leastL (takW (graphW X) x.s out) 0 = n at hr b2 t1 t2 lk1
   have l2 := tk29_loop (X := X) (C := cl.map enV) (out := out) (chg := chg) (i := m.length) (s := x.s) (L := n) (by omega) gl (by omega) (by omega) t1 t2 n.toNat 0 (by omega) (by omega)
   have ih' := ih (m ++ [x]) (out.set x.s.toNat n) (if 0 ≤ colAt out x.s then chg ++ [x.s] else chg) (by simp [h]) (by rw [List.length_set]; exact ho) (fun c hcc => by
    rcases List.mem_or_eq_of_mem_set hcc with hcc | hcc
    ·exact hc c hcc
    ·omega) (by rw [List.length_set]; exact hs) (by split <;> simp <;> omega) o' c' hr
   have b5 : (499 < n) = False := eq_false (by omega)
   simp only [rgI, iR, wdV] at l2
   by_cases b3 : 0 ≤ colAt out x.s
   ·have b4 : (m.any fun e => colAt out e.s == colAt out x.s) = true := by
     cases hh : (m.any fun e => colAt out e.s == colAt out x.s) with
     | true => rfl
     | false => exact absurd ⟨b3, hh⟩ b1
    rw [if_pos b3] at ih'
    simp only [List.length_append, List.length_cons, List.length_nil, Nat.zero_add, Int.natCast_add, Int.cast_ofNat_Int, rgV, rgH, rgI, iR, wdV, List.map_nil, List.length_set, List.map_append, List.map_cons] at ih'
    have b11 : ¬ colAt out x.s < 0 := by omega
    have lp' := lp false
    rw [b4] at lp'
    simp only [List.length_nil, Int.natCast_zero, Bool.or_true, rgI, iR, wdV] at lp'
    simp only [colAt] at b11 b3
    rw [l18_18L]
    simp (maxSteps := 100000000) only [ivc, vop, vlen, vbuiltin, nilR, salloc, sappend, eq_self, Nat.reduceEqDiff, Nat.reduceLT, Nat.reduceLeDiff, Nat.reduceAdd, Nat.reduceBEq, reduceCtorEq, ↓reduceIte, anfL, tyb, rgV, rgH, rgI, iR, wdV, enV, hi', hg0, hw, q, k1, b11, b3, lp', l2, b5, setI, ih']
    try exact some_true (by omega)
   ·rw [if_neg b3] at ih'
    simp only [List.length_append, List.length_cons, List.length_nil, Nat.zero_add, Int.natCast_add, Int.cast_ofNat_Int, rgV, rgH, rgI, iR, wdV, List.length_set] at ih'
    have b11 : colAt out x.s < 0 := by omega
    have lp' := lp true
    simp only [List.length_nil, Int.natCast_zero, Bool.true_or, rgI, iR, wdV] at lp'
    simp only [colAt] at b11 b3
    rw [l18_18L]
    simp (maxSteps := 100000000) only [ivc, vop, vlen, vbuiltin, nilR, eq_self, Nat.reduceEqDiff, Nat.reduceLT, Nat.reduceLeDiff, Nat.reduceAdd, Nat.reduceBEq, reduceCtorEq, ↓reduceIte, anfL, tyb, rgV, rgH, rgI, iR, wdV, enV, hi', hg0, hw, q, k1, b11, b3, lp', l2, b5, setI, ih']
    try exact some_true (by omega)
/-- What Grow says. -/
def growR (w : Wd) (cs : List Int) (cl : List Et) : List Int × List Int × Int := if ccM w cs = 0 then if ckM (moreW w cl) = 0 then match gwM (graphW (moreW w cl)) cl [] (ms0 w cl cs) [] with
 | some (o, c) => (o, c, 0)
 | none => ([], [], 8) else ([], [], ckM (moreW w cl)) else ([], [], ccM w cs)
def gV (p : List Int × List Int × Int) : AV := .tup [.ro 1 (p.1.map (AV.int .i64)), .ro 1 (p.2.1.map (AV.int .i64)), .int .i64 p.2.2]
theorem zs_map {n : Nat} : List.replicate n (AV.int .i64 0) = (zs n).map (AV.int .i64) := by simp [zs]
theorem rgrow_ev {w : Wd} {cs : List Int} {cl : List Et} (hwl : w.classes.length ≤ 1000) : EL.F 18 [wdV w, .ro 1 (cs.map (AV.int .i64)), .ro 2 (cl.map enV)] [] = some ((gV (growR w cs cl), []), True) := by
 have a1 := rcc_ev' (w := w) (cs := cs)
 unfold growR
 by_cases h : ccM w cs = 0
 case neg =>
  rw [if_neg h]
  have h' : (ccM w cs != 0) = true := bne_iff_ne.2 h
  generalize ccM w cs = e at a1 h' ⊢
  simp only [wdV] at a1
  rw [e18L]
  simp (maxSteps := 100000000) only [ivc, nilR, salloc, eq_self, Nat.reduceEqDiff, Nat.reduceLT, Nat.reduceLeDiff, Nat.reduceAdd, Int.reduceNeg, ↓reduceIte, anfL, tyb, gv27L, wdV, gV, a1, h']
 rw [if_pos h]
 rw [h] at a1
 have a2 := grown_ev (cl := cl) hwl
 have a3 := rcheck_ev (w := moreW w cl)
 by_cases h3 : ckM (moreW w cl) = 0
 case neg =>
  rw [if_neg h3]
  have h' : (ckM (moreW w cl) != 0) = true := bne_iff_ne.2 h3
  generalize ckM (moreW w cl) = e at a3 h' ⊢
  generalize moreW w cl = X at a2 a3
  simp only [wdV] at a1 a2 a3
  rw [e18L]
  simp (maxSteps := 100000000) only [ivc, nilR, salloc, eq_self, Nat.reduceEqDiff, Nat.reduceLT, Nat.reduceLeDiff, Nat.reduceAdd, Nat.reduceMul, Int.reduceNeg, ↓reduceIte, anfL, tyb, gv27L, gv30L, wdV, gV, a1, a2, a3, h']
 rw [if_pos h3]
 rw [h3] at a3
 obtain ⟨g, ok, hc⟩ := hc_of h
 have gx := good_of h3
 obtain ⟨nx, ch, gr, okx, I⟩ := grow_law g gx ok
 rw [gr]
 have gs : ∀ c ∈ (moreW w cl).classes, c.length ≤ 1000 /\ ∀ e ∈ c, 0 ≤ e.s /\ e.s < 500 := fun c hc => ⟨by have := gx.len c hc; omega, fun e he => (gx.ent c hc e he).1⟩
 have gn := gx.nc
 have a4 := most_ev (w := moreW w cl) (by omega) gs
 rw [moM_sz gx] at a4
 have hz := szM_le (graphW (moreW w cl)) 500
 have hml := ms0_len g gx ok
 have hup := sz_up g gx
 have hlen := ok.len
 have hmem : cl ∈ (moreW w cl).classes := moreW_cls.2 (.inr rfl)
 have hcl := gx.len cl hmem
 have hsel := fun e he => (clsok_of gx cl hmem).1 e he
 have hsz : ∀ e ∈ cl, 0 ≤ e.s /\ e.s < (ms0 w cl cs).length := fun e he => by
  have h1 := hsel e he
  have kn := (knownW h1 (clsok_of gx)).2 ⟨cl, hmem, List.mem_map.2 ⟨e, he, rfl⟩⟩
  have h2 := h1.1
  have h3 := h1.2
  have := szM_lt (n := 500) (m := e.s.toNat) (by rw [show ((e.s.toNat : Nat) : Int) = e.s by omega]; exact kn) (by omega)
  omega
 have nl := nx_loop (X := moreW w cl) (cs := cs) (F := ms0 w cl cs) (C := cl.map enV) (by omega) (by omega) (fun i hi => by
  rw [ms0_get, if_pos hi]) (ms0 w cl cs).length 0 (by omega)
 have lp := rg_main gx hcl cl [] (ms0 w cl cs) [] rfl (by omega) (fun c hc => by
  rcases List.mem_append.1 hc with hc | hc
  ·exact (ok.bd c hc).2
  ·have := List.eq_of_mem_replicate hc
   omega) hsz (Nat.le_refl _) nx ch gr
 have hzs : partF (ms0 w cl cs) 0 = zs (ms0 w cl cs).length := rfl
 rw [hzs] at nl
 rw [<- hml] at a4
 generalize ms0 w cl cs = F at nl lp a4 hml hsz
 have hF : F.length ≤ 500 := by omega
 have nxl : nx.length = F.length := by rw [okx.len, hml]
 generalize moreW w cl = X at a2 a3 a4 nl lp
 have chl : ch.length ≤ 1000000 := by
  have := gw_chg gr
  simp only [List.length_nil] at this
  omega
 have tk1 : (nx.map (AV.int .i64)).take F.length = nx.map (AV.int .i64) := List.take_of_length_le (by simp [nxl])
 have tk2 : (ch.map (AV.int .i64)).take ch.length = ch.map (AV.int .i64) := List.take_of_length_le (by simp)
 simp only [nxH, iR, rgV, rgH, rgI, wdV, List.length_nil, List.map_nil, Int.natCast_zero] at a1 a2 a3 a4 nl lp
 rw [e18L]
 simp (maxSteps := 100000000) only [ivc, nilR, salloc, eq_self, Nat.reduceEqDiff, Nat.reduceLT, Nat.reduceLeDiff, Nat.reduceAdd, Nat.reduceMul, Nat.reduceBEq, Int.reduceNeg, reduceCtorEq, ↓reduceIte, anfL, tyb, gv27L, gv30L, gv53L, wdV, gV, zs_map, a1, a2, a3, a4, nl, lp, tk1, tk2]
 try exact some_true (by omega)
theorem grow_ev' {w : Wd} {cs : List Int} {cl : List Et} (hwl : w.classes.length ≤ 1000) : E.F 17 [wdV w, .ro 1 (cs.map (AV.int .i64)), .ro 2 (cl.map enV)] [] = some ((gV (growR w cs cl), []), True) := by
 unfold growR
 by_cases h : ccM w cs = 0
 case neg =>
  rw [if_neg h]
  exact grow_bad1 h
 rw [if_pos h]
 by_cases h3 : ckM (moreW w cl) = 0
 case neg =>
  rw [if_neg h3]
  exact grow_bad2 hwl h h3
 rw [if_pos h3]
 obtain ⟨g, ok, hc⟩ := hc_of h
 have gx := good_of h3
 obtain ⟨nx, ch, gr, okx, I⟩ := grow_law g gx ok
 rw [gr]
 exact grow_good g gx ok gr
end Go.Proofs.YtikppcfabnnhfaaDoor

/- ColourTables: all. -/
namespace Go.Proofs.YtikppcfabnnhfaaDoor
open Go Go.Aw
set_option linter.unusedSimpArgs false
set_option linter.unusedVariables false
set_option maxRecDepth 100000
set_option maxHeartbeats 40000000
theorem lenS_mem : ∀ {cs : List (List Et)} {c : List Et}, c ∈ cs -> (c.length : Int) ≤ lenS cs
 | x :: cs, c, h => by
  have h0 : 0 ≤ lenS cs := by
   clear h
   induction cs with
   | nil => exact Int.le_refl _
   | cons y cs ih => rw [lenS]; omega
  rw [lenS]
  rcases List.mem_cons.1 h with rfl | h
  ·omega
  ·have := lenS_mem h
   omega
theorem small_len {w : Wd} (h : smallM w = true) : w.classes.length ≤ 210 /\ w.bodies.length ≤ 510 /\ ∀ c ∈ w.classes, c.length ≤ 500 := by
 unfold smallM at h
 split at h
 ·cases h
 rename_i n
 refine ⟨by omega, by omega, fun c hc => ?_⟩
 have hm := lenS_mem hc
 split at h
 ·simp only [Bool.and_eq_true, decide_eq_true_eq] at h
  omega
 ·simp only [Bool.and_eq_true, decide_eq_true_eq] at h
  omega
theorem growR_len {w : Wd} {cs : List Int} {cl : List Et} : (growR w cs cl).1.length ≤ 500 /\ (growR w cs cl).2.1.length ≤ 1000 := by
 unfold growR
 by_cases h : ccM w cs = 0
 case neg =>
  rw [if_neg h]
  simp
 rw [if_pos h]
 by_cases h3 : ckM (moreW w cl) = 0
 case neg =>
  rw [if_neg h3]
  simp
 rw [if_pos h3]
 obtain ⟨g, ok, hc⟩ := hc_of h
 have gx := good_of h3
 obtain ⟨nx, ch, gr, okx, I⟩ := grow_law g gx ok
 rw [gr]
 have h1 := gw_chg gr
 have h2 := gx.len cl (moreW_cls.2 (.inr rfl))
 have h4 := szM_le (graphW (moreW w cl)) 500
 have h5 := okx.len
 simp only [List.length_nil] at h1
 exact ⟨by show nx.length ≤ 500; omega, by show ch.length ≤ 1000; omega⟩
theorem tabM_len {w : Wd} {cs : List Int} {k : Int} : (tabM w cs k).1.length ≤ 500 := by
 unfold tabM
 split
 ·rename_i h
  obtain ⟨g, ok, hc⟩ := hc_of h
  split
  ·rename_i hk
   have hk' : w.classes[k.toNat]? = some (w.classes.getD k.toNat []) := by
    rw [List.getD_eq_getElem?_getD, List.getElem?_eq_getElem (by omega)]
    rfl
   exact tbl_len (hc _ (List.mem_of_getElem? hk')).2
  ·simp
 ·simp
def packR (w : Wd) (cs : List Int) : List Et × List Int × Int := if ccM w cs = 0 then ((packM cs w.classes ([], [])).1, (packM cs w.classes ([], [])).2, 0) else ([], [], ccM w cs)
def kV (p : List Et × List Int × Int) : AV := .tup [.ro 2 (p.1.map enV), .ro 1 (p.2.1.map (AV.int .i64)), .int .i64 p.2.2]
theorem rpack_ev' {w : Wd} {cs : List Int} : E.F 25 [wdV w, .ro 1 (cs.map (AV.int .i64))] [] = some ((kV (packR w cs), []), True) := by
 rw [rpack_ev]
 unfold packR kV
 split <;> rfl
theorem pack_ev' {w : Wd} {cs : List Int} : EP.F 24 [wdV w, .ro 1 (cs.map (AV.int .i64))] [] = some ((kV (packR w cs), []), True) := by
 have h := pack_ev (w := w) (cs := cs) okW_of (fun h1 h2 => by
  have hz : ccM w cs = 0 := by unfold ccM; rw [if_pos h1, h2]
  exact fun c hc => ((hc_of hz).2.2 c hc).2)
 rw [h]
 unfold packR kV ccM
 by_cases h1 : ckM w = 0
 ·simp only [if_pos h1]
  split <;> rfl
 ·simp only [if_neg h1]
  rfl
theorem packM_o : ∀ {cs : List Int} {r : List (List Et)} {p : List Et × List Int}, (packM cs r p).2.length = p.2.length + r.length
 | _, [], p => rfl
 | cs, c :: r, p => by
  rw [packM, packM_o, List.length_append, List.length_cons, List.length_cons, List.length_nil]
  omega
theorem packR_len {w : Wd} {cs : List Int} : (packR w cs).1.length ≤ 1000000 /\ (packR w cs).2.1.length ≤ 1000000 := by
 unfold packR
 by_cases h : ccM w cs = 0
 ·rw [if_pos h]
  obtain ⟨g, ok, hc⟩ := hc_of h
  have gn := g.nc
  have h1 := pk_top (cs := cs) (r := w.classes) (v := []) (o := []) (fun c hcc => (hc c hcc).2)
  have h2 := (top_fold (offs := (packM cs w.classes ([], [])).2) (n := ((packM cs w.classes ([], [])).1.length : Int))).1
  change _ ≤ topM (packM cs w.classes ([], [])).2 (packM cs w.classes ([], [])).1 at h2
  have h3 := packM_o (cs := cs) (r := w.classes) (p := ([], []))
  have h4 : topM [] [] = 0 := rfl
  simp only [List.length_nil] at h3
  refine ⟨?_, ?_⟩
  ·show (packM cs w.classes ([], [])).1.length ≤ 1000000
   omega
  ·show (packM cs w.classes ([], [])).2.length ≤ 1000000
   omega
 ·rw [if_neg h]
  simp
theorem tables_ev {w : Wd} {l : List Int} {k : Int} {mo : List Et} (hw : inpW w) : EL.F 5 [wdV w, .ro 1 (l.map (AV.int .i64)), .int .i64 k, clV mo] [] = some ((.bool true, []), True) := by
 have aw := awake_ev
 have sm := small_ev hw
 rw [e5L]
 cases hs : smallM w with
 | false =>
  rw [hs] at sm
  simp only [wdV] at sm
  simp (maxSteps := 100000000) only [ivc, vop, vlen, vbuiltin, nilR, salloc, eq_self, Nat.reduceEqDiff, Nat.reduceLT, Nat.reduceLeDiff, Nat.reduceAdd, Nat.reduceMul, reduceCtorEq, ↓reduceIte, anfL, gv14L, tyb, wdV, clV, sm, aw]
 | true =>
 rw [hs] at sm
 obtain ⟨s1, s2, s3⟩ := small_len hs
 by_cases h1 : (520 : Int) < l.length
 ·simp only [wdV] at sm
  simp (maxSteps := 100000000) only [ivc, vop, vlen, vbuiltin, nilR, salloc, eq_self, Nat.reduceEqDiff, Nat.reduceLT, Nat.reduceLeDiff, Nat.reduceAdd, Nat.reduceMul, reduceCtorEq, ↓reduceIte, anfL, gv14L, tyb, wdV, clV, sm, h1, aw]
 by_cases h2 : (20 : Int) < mo.length /\ (mo.length : Int) ≤ 100
 ·simp only [wdV] at sm
  have h21 := h2.1
  have h22 := h2.2
  simp (maxSteps := 100000000) only [ivc, vop, vlen, vbuiltin, nilR, salloc, eq_self, Nat.reduceEqDiff, Nat.reduceLT, Nat.reduceLeDiff, Nat.reduceAdd, Nat.reduceMul, reduceCtorEq, ↓reduceIte, anfL, gv14L, tyb, wdV, clV, sm, h1, h21, h22, aw]
 by_cases h3 : (110 : Int) < mo.length
 ·simp only [wdV] at sm
  have h21 : (20 : Int) < mo.length := by omega
  have h22 : ¬ (mo.length : Int) ≤ 100 := by omega
  simp (maxSteps := 100000000) only [ivc, vop, vlen, vbuiltin, nilR, salloc, eq_self, Nat.reduceEqDiff, Nat.reduceLT, Nat.reduceLeDiff, Nat.reduceAdd, Nat.reduceMul, reduceCtorEq, ↓reduceIte, anfL, gv14L, tyb, wdV, clV, sm, h1, h21, h22, h3, aw]
 have v1 := world_ev (w := w) (by omega) (by omega) (fun c hc => by have := s3 c hc; omega)
 have v2 := grow_ev' (w := w) (cs := l) (cl := mo) (by omega)
 have v3 := entries_ev (l := mo) (by omega)
 have v4 := rgrow_ev (w := w) (cs := l) (cl := mo) (by omega)
 have v5 := tab_ev (w := w) (cs := l) (k := k)
 have v6 := rtab_ev (w := w) (cs := l) (k := k)
 have v7 := pack_ev' (w := w) (cs := l)
 have v8 := rpack_ev' (w := w) (cs := l)
 obtain ⟨g1, g2⟩ := growR_len (w := w) (cs := l) (cl := mo)
 have g3 := tabM_len (w := w) (cs := l) (k := k)
 obtain ⟨g4, g5⟩ := packR_len (w := w) (cs := l)
 generalize growR w l mo = A at v2 v4 g1 g2
 generalize tabM w l k = B at v5 v6 g3
 generalize packR w l = C at v7 v8 g4 g5
 have u1 := same_ev (a := A.1) (b := A.1) (by omega)
 have u2 := same_ev (a := A.2.1) (b := A.2.1) (by omega)
 have u3 := slots_ev (a := B.1) (by omega)
 have u4 := slots_ev (a := C.1) (by omega)
 have u5 := same_ev (a := C.2.1) (b := C.2.1) (by omega)
 rw [beq_self_eq_true] at u1 u2 u5
 have n1 : ∀ y : Int, (y != y) = false := fun y => by simp
 have n2 : ∀ y : Int, (y == y) = true := fun y => by simp
 have h20 : (20 : Int) < mo.length /\ ¬ (mo.length : Int) ≤ 100 \/ ¬ (20 : Int) < mo.length := by omega
 simp only [wdV, gV, kV] at sm v1 v2 v4 v5 v6 v7 v8
 rcases h20 with ⟨h21, h22⟩ | h21
 ·simp (maxSteps := 100000000) only [ivc, vop, vlen, vbuiltin, nilR, salloc, eq_self, Nat.reduceEqDiff, Nat.reduceLT, Nat.reduceLeDiff, Nat.reduceAdd, Nat.reduceMul, Nat.reduceSub, Nat.reduceBEq, reduceCtorEq, ↓reduceIte, anfL, gv14L, gv17L, gv20L, gv21L, gv22L, gv23L, gv24L, gv25L, tyb, wdV, clV, sm, h1, h21, h22, h3, v1, v2, v3, v4, v5, v6, v7, v8, u1, u2, u3, u4, u5, aw]
  try exact some_true (by omega)
 ·simp (maxSteps := 100000000) only [ivc, vop, vlen, vbuiltin, nilR, salloc, eq_self, Nat.reduceEqDiff, Nat.reduceLT, Nat.reduceLeDiff, Nat.reduceAdd, Nat.reduceMul, Nat.reduceSub, Nat.reduceBEq, reduceCtorEq, ↓reduceIte, anfL, gv14L, gv17L, gv20L, gv21L, gv22L, gv23L, gv24L, gv25L, tyb, wdV, clV, sm, h1, h21, h3, v1, v2, v3, v4, v5, v6, v7, v8, u1, u2, u3, u4, u5, aw]
  try exact some_true (by omega)
end Go.Proofs.YtikppcfabnnhfaaDoor

namespace Go.Proofs.YtikppcfabnnhfaaDoor
open Go Go.Aw
set_option linter.unusedSimpArgs false
set_option linter.unusedVariables false
set_option maxRecDepth 100000
theorem tbs_lifted (os : Os) (started : os.Started) (H : Type) (enc : TypeId × Value -> H) :
  ReturnsInHanded {} Tryd.checked os 5 .any (fun w args => (Rows.colourTablesSpec.pre enc Tryd.prog Tryd.f5 [] false w args /\ laidMetH Tryd.prog laidL w) /\ sizedMet enc Tryd.prog Tryd.f5 (OpenSpec.ofChange Rows.colourTablesSpec) false w args)
   (Rows.colourTablesSpec.post enc Tryd.prog Tryd.f5 false true false false) := by
 refine returnsInHanded_of_change_and (C := Tryd.checked) (X := fun w _ => laidMetH Tryd.prog laidL w) (fun _ _ _ hh h => h.of_heap hh) own started (by kernel_rfl) Tryd.func5
  (ChangeSpec.witness_shaped (enc := enc) (C := Tryd.checked) (os := os) (X := fun w _ => laidMetH Tryd.prog laidL w) false (World.doorLaid Tryd.prog 400 os) #[.agg #[.slice none 0 0, .slice none 0 0, .slice none 0 0], .slice none 0 0, .int .i64 0, .slice none 0 0] 8 rfl (World.shaped_of_RefB (by kernel_rfl) (by kernel_rfl)) (by kernel_rfl) (by kernel_rfl) (by kernel_rfl) (door_met os _)) ?_
 intro W base args ds gs before hval hW _ hsz hL _
 refine law_contractG (G := G) (A := ANL) evokL laidOut (fn := Tryd.f5) (l := [35, 32, 33, 23, 36, 71, 83, 3, 5]) (by kernel_rfl) (ts := [35, 23, 3, 36]) (by rw [Tryd.params5]) (by kernel_rfl) (by kernel_rfl) (tb := 4) (by kernel_rfl) Tryd.underlying4 rfl (tab_laid hL) hval hW hsz (fun ds h => ?_) fun nx hl ht => ?_
 ·match ds, h with
  | [a, b, c, d], _ => exact ⟨rfl, rfl, rfl⟩
 ·match nx, hl with
  | [a, b, c, d], _ =>
   obtain ⟨wa, hia, hra, ha⟩ := world_of (ht 0 35 a rfl rfl)
   obtain ⟨lb, rb, _, nb, hb⟩ := ints_of (ht 1 23 b rfl rfl)
   obtain ⟨lc, rc, hc⟩ := int_of (ht 2 3 c rfl rfl)
   obtain ⟨ld, rd, _, nd, hd⟩ := pairs_of Tryd.underlying36 Tryd.underlying71 rfl (by kernel_rfl) (by kernel_rfl) (ht 3 36 d rfl rfl)
   refine ⟨[], ?_⟩
   have := tables_ev (l := lb) (k := lc) (mo := ld) hia
   show EL.F 5 [argA Tryd.prog 35 a.2, argA Tryd.prog 23 b.2, argA Tryd.prog 3 c.2, argA Tryd.prog 36 d.2] [] = _
   rw [hb, hc, hd]
   simp only [argA, Tryd.underlying3, Tryd.underlying23, Tryd.underlying35, Tryd.underlying36, List.getD_cons_zero]
   rw [ha]
   exact this
theorem tbs_holds : Rows.ColourTablesSaid :=
 OpenClaim.holds_of_wide 5 Tryd.f5 rfl rfl rfl rfl rfl rfl rfl ⟨rfl, rfl, rfl, rfl, rfl⟩ rfl rfl rfl rfl rfl (by kernel_rfl) Tryd.func5 (by kernel_rfl)
  (of_decide_eq_true (by kernel_rfl)) (by unfold Func.isWrapper; first | (rw [if_pos (by decide +kernel)]; kernel_rfl) | (rw [if_neg (by decide +kernel)]; exact ⟨rfl, rfl⟩))
  (fun os started H enc _ => tbs_lifted os started H enc)
theorem tbs_card : Rows.ColourTablesCardSaid :=
 Claim7.holds_tied_plain_at .later [] [.data] true (true, "3dc01f15a731540aeb3bad63498fda4938458450b3483f3d83b3da088dc41856") false
  tbs_holds (fun _ h => by cases h) (by kernel_rfl) (fun _ h => by cases h) colourTables_row_tie rfl ⟨rfl, rfl⟩ (by kernel_rfl) rfl
  (fun f fn hf hfn => by
   obtain rfl : f = 5 := Option.some.inj ((show Tryd.prog.funcNamed "hackamore/hackamorelaw23.ColourTables" = some 5 by kernel_rfl).symm.trans hf) |>.symm
   obtain rfl : fn = Tryd.f5 := (Option.some.inj (Tryd.func5.symm.trans hfn)).symm
   exact ⟨by kernel_rfl, fun j t ht => by
    rw [Tryd.params5] at ht
    have hm : t ∈ [35, 23, 3, 36] := by simpa using Array.mem_of_getElem? ht
    have hall : ([35, 23, 3, 36].all fun u => !Tryd.prog.wantsStandIn u) = true := by kernel_rfl
    exact (show Tryd.prog.wantsStandIn t = false by simpa using List.all_eq_true.1 hall t hm)⟩)
  (by kernel_rfl)
end Go.Proofs.YtikppcfabnnhfaaDoor

