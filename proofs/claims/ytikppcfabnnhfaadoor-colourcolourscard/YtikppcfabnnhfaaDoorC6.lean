/- ColourColours: Colours are colours by the reference’s check, without gaps, and no more than the greatest number of conflicts allows; Least and CheckColours return the results of the reference, or its errors; Least is not above the colours; for worlds and lists as the statement’s guard lets them in. The package's table math/bits.deBruijn64tab is as the program's text lays it. -/
import Derived.Test.YtikppcfabnnhfaaDoorC5
namespace Go.Proofs.YtikppcfabnnhfaaDoor
open Go Go.Aw
noncomputable def givL : FuncId -> List AV -> HL -> Option ((AV × HL) × Prop) := fun f a l => if f = 24 then EP.F 24 a l else E.F f a l
noncomputable def ANL : Go.Aw.An := mkAn [12, 13, 15, 20, 23, 26, 27, 30, 32, 33, 38, 41, 42, 47, 48, 50, 54, 57, 58, 60, 61, 62, 65, 67, 69, 71, 72, 75, 80, 81, 84, 85, 86, 87, 93] [28, 31, 36, 37, 53, 63, 64, 66, 78, 82, 83] [19]
 [3, 4, 5, 6, 7, 8, 9, 10, 11, 16, 18, 19, 52]
 [(3, 6, [0, 1, 2, 3, 4, 11, 12]), (4, 10, [1, 2, 4, 5, 7, 8]), (6, 27, [5, 6, 7, 10, 13, 15, 16, 17]), (6, 23, [4, 5, 6, 7, 10, 13, 15]), (6, 19, [5, 6, 7, 10, 13, 14]), (7, 25, [1, 3, 5, 6, 7, 9, 10, 11, 12]), (7, 21, [1, 2, 3, 5, 6, 7, 9, 10]), (7, 17, [1, 2, 3, 5, 6, 7, 9]), (7, 12, [1, 3, 5, 6, 7, 8]), (8, 24, [1, 2, 5, 7, 8, 11, 12, 13]), (8, 20, [1, 2, 4, 5, 7, 8, 11]), (8, 15, [1, 2, 4, 5, 7, 8, 10]), (9, 16, [2, 12, 13, 14]), (10, 20, [1, 2, 4, 5, 6, 7, 11, 12, 13]), (10, 16, [1, 2, 4, 5, 6, 7, 11]), (10, 10, [1, 2, 4, 5, 6, 7, 9]), (16, 8, [1, 2, 3, 5]), (16, 4, [1, 2, 3, 4]), (18, 32, [2, 10, 12, 14, 15, 16, 19, 20, 21]), (18, 29, [2, 10, 12, 14, 15, 16, 19, 20]), (18, 23, [2, 10, 12, 14, 15, 16, 17, 18]), (18, 18, [2, 10, 12, 14, 15]), (18, 11, [1, 2, 10, 12, 13]), (19, 4, [0, 3, 4]), (52, 4, [1, 2, 4, 5, 6])]
 [(3, 6, [(0, [], 2), (1, [], 1), (2, [], 1), (5, [], 2)]), (4, 10, [(0, [], 2), (4, [0], 1)]), (6, 27, [(3, [], 1)]), (6, 23, [(4, [], 1)]), (6, 19, [(3, [], 1)]), (7, 25, [(1, [], 1), (2, [], 2), (3, [], 1)]), (7, 21, [(2, [], 1), (3, [], 2), (4, [], 1)]), (7, 17, [(2, [], 1), (3, [], 2), (4, [], 1)]), (7, 12, [(1, [], 1), (2, [], 2), (3, [], 1)]), (8, 24, [(0, [], 2), (2, [], 1), (3, [], 1), (4, [], 1)]), (8, 20, [(0, [], 2), (3, [], 1), (4, [], 1), (5, [], 1)]), (8, 15, [(0, [], 2), (3, [], 1), (4, [], 1), (5, [], 1)]), (9, 16, [(1, [], 2), (2, [], 2)]), (10, 20, [(3, [], 1), (4, [], 1), (5, [], 1), (7, [], 2)]), (10, 16, [(3, [], 1), (4, [], 1), (5, [], 1)]), (10, 10, [(3, [], 1), (4, [], 1), (5, [], 1)]), (16, 8, [(2, [0], 1), (2, [1], 3)]), (16, 4, [(2, [0], 1)]), (18, 32, [(0, [], 2), (2, [], 1), (3, [], 1)]), (18, 29, [(0, [], 2), (2, [], 1), (3, [], 1)]), (18, 23, [(0, [], 2), (2, [], 1), (3, [], 1)]), (18, 18, [(0, [], 2), (2, [], 1), (3, [], 1)]), (18, 11, [(0, [], 1), (1, [], 2), (3, [], 1)]), (19, 4, [(0, [], 2), (1, [], 2)]), (52, 4, [(0, [], 2), (3, [0], 1)])]
 []
 [(16, [(0, [0], 1), (0, [1], 3), (0, [2], 1)]), (18, [(0, [], 1), (1, [], 1)]), (19, [(0, [], 2)]), (52, [(0, [0], 1), (0, [1], 3), (0, [2], 1)])]
 [15, 16, 17, 18, 19, 21, 22, 24, 25, 28, 29, 31, 34, 35, 36, 37, 39, 52, 53, 63, 64, 65, 66, 83]
 [(3, 7, ([45, 1000000, 1000034, 1000012, 1000035, 1000034, 1000035, 1000036, 1000036, 1000037, 1000000, 1000039, 1000012, 1000040, 1000039, 1000040, 1000041, 1000041, 1000042], false, [], [some 33, some 34, some 35, some 36, some 37, some 39, some 40, some 41, some 42])), (4, 11, ([53, 1000007, 1000046, 1000002, 1000048, 1000008, 1000050, 1000049, 1000050, 1000051, 1000007, 1000055], false, [7], [some 46, some 48, some 50, some 51, some 55])), (5, 5, ([1000003, 1000059, 1000061, 1000056], false, [], [some 58, some 59, some 56])), (6, 4, ([], false, [], [])), (8, 16, ([], false, [], [])), (8, 25, ([], false, [], [])), (8, 26, ([], false, [], [])), (8, 29, ([1000002, 1000168, 1000169, 1000170, 1000172, 1000165], false, [], [some 167, some 168, some 170, some 165])), (9, 4, ([], false, [], [])), (9, 17, ([], false, [], [])), (10, 11, ([10], false, [10], [])), (10, 17, ([], false, [], [])), (10, 26, ([119, 129, 1000002, 1000120, 1000001, 1000123, 1000002, 1000125, 1000014, 1000131, 888888, 600129], false, [14], [some 120, some 123, some 125, some 131])), (16, 5, ([25, 1000003, 1000017, 1000001, 1000019, 1000004, 1000021, 1000020, 1000021, 1000022, 1000003, 1000027], false, [3], [some 17, some 19, some 21, some 22, some 27])), (18, 24, ([], false, [], [])), (19, 5, ([23, 1000000, 1000012, 1000004, 1000013, 1000012, 1000013, 1000014, 1000014, 1000015, 1000000, 1000017, 1000004, 1000018, 1000017, 1000018, 1000019, 1000019, 1000020], false, [], [some 11, some 12, some 13, some 14, some 15, some 17, some 18, some 19, some 20])), (52, 5, ([26, 1000005, 1000019, 1000002, 1000021, 1000006, 1000023, 1000022, 1000023, 1000024, 1000005, 1000028], false, [5], [some 19, some 21, some 23, some 24, some 28]))] [17, 21, 24, 29, 34, 40] [] givL
noncomputable abbrev EL : Sig := ev Tryd.prog G ANL
theorem ok3L : fchk Tryd.prog ANL 3 = true := by kernel_rfl
theorem ok4L : fchk Tryd.prog ANL 4 = true := by kernel_rfl
theorem ok5L : fchk Tryd.prog ANL 5 = true := by kernel_rfl
theorem ok6L : fchk Tryd.prog ANL 6 = true := by kernel_rfl
theorem ok7L : fchk Tryd.prog ANL 7 = true := by kernel_rfl
theorem ok8L : fchk Tryd.prog ANL 8 = true := by kernel_rfl
theorem ok9L : fchk Tryd.prog ANL 9 = true := by kernel_rfl
theorem ok10L : fchk Tryd.prog ANL 10 = true := by kernel_rfl
theorem ok11L : fchk Tryd.prog ANL 11 = true := by kernel_rfl
theorem ok16L : fchk Tryd.prog ANL 16 = true := by kernel_rfl
theorem ok18L : fchk Tryd.prog ANL 18 = true := by kernel_rfl
theorem ok19L : fchk Tryd.prog ANL 19 = true := by kernel_rfl
theorem ok52L : fchk Tryd.prog ANL 52 = true := by kernel_rfl
theorem evokL : EvOk Tryd.prog G ANL where
 chk f h := by
  have h : [3, 4, 5, 6, 7, 8, 9, 10, 11, 16, 18, 19, 52].contains f = true := h
  have h := List.contains_iff_mem.1 h
  simp only [List.mem_cons, List.mem_nil_iff, or_false] at h
  rcases h with rfl | rfl | rfl | rfl | rfl | rfl | rfl | rfl | rfl | rfl | rfl | rfl | rfl
  ·exact ok3L
  ·exact ok4L
  ·exact ok5L
  ·exact ok6L
  ·exact ok7L
  ·exact ok8L
  ·exact ok9L
  ·exact ok10L
  ·exact ok11L
  ·exact ok16L
  ·exact ok18L
  ·exact ok19L
  ·exact ok52L
 pureG g := by
  by_cases h : g = 0
  ·subst h; exact .inl (by kernel_rfl)
  ·exact .inr (if_neg h)
 mixed := by kernel_rfl
 giv f a l r l' φ h hφ := by
  by_cases e : f = 24
  ·subst e; exact ev_sound evokP h hφ
  ·have h' : givL f a l = some ((r, l'), φ) := h
   rw [givL, if_neg e] at h'
   exact ev_sound evok h' hφ
theorem acpL : ∀ f k, ANL.cp f k = has2 f k [] := fun _ _ => rfl
set_option maxRecDepth 100000
theorem anf0L : (ANL.bor 6 = false) /\ (ANL.pur 6 = false) /\ (ANL.ro 6 = false) /\ (ANL.frz 6 = false) /\ (ANL.fra 6 = false) /\ (ANL.res 6 = []) /\ (ANL.bor 11 = false) /\ (ANL.pur 11 = false) /\ (ANL.ro 11 = false) /\ (ANL.frz 11 = false) /\ (ANL.fra 11 = false) /\ (ANL.res 11 = []) /\ (ANL.bor 12 = true) /\ (ANL.pur 12 = false) /\ (ANL.ro 12 = false) /\ (ANL.frz 12 = false) /\ (ANL.fra 12 = false) /\ (ANL.res 12 = []) /\ (ANL.bor 14 = false) /\ (ANL.pur 14 = false) /\ (ANL.ro 14 = false) /\ (ANL.frz 14 = false) /\ (ANL.fra 14 = false) /\ (ANL.res 14 = []) /\ (ANL.bor 15 = true) /\ (ANL.pur 15 = false) /\ (ANL.ro 15 = false) /\ (ANL.frz 15 = true) /\ (ANL.fra 15 = false) /\ (ANL.res 15 = []) /\ (ANL.bor 16 = false) /\ (ANL.pur 16 = false) /\ (ANL.ro 16 = false) /\ (ANL.frz 16 = true) /\ (ANL.fra 16 = false) /\ (ANL.res 16 = [(0, [0], 1), (0, [1], 3), (0, [2], 1)]) /\ (ANL.bor 17 = false) /\ (ANL.pur 17 = false) /\ (ANL.ro 17 = false) /\ (ANL.frz 17 = true) /\ (ANL.fra 17 = true) /\ (ANL.res 17 = []) /\ (ANL.bor 19 = false) /\ (ANL.pur 19 = false) /\ (ANL.ro 19 = true) /\ (ANL.frz 19 = true) /\ (ANL.fra 19 = false) /\ (ANL.res 19 = [(0, [], 2)]) /\ (ANL.bor 20 = true) /\ (ANL.pur 20 = false) /\ (ANL.ro 20 = false) /\ (ANL.frz 20 = false) /\ (ANL.fra 20 = false) /\ (ANL.res 20 = []) /\ (ANL.bor 24 = false) /\ (ANL.pur 24 = false) /\ (ANL.ro 24 = false) /\ (ANL.frz 24 = true) /\ (ANL.fra 24 = true) /\ (ANL.res 24 = []) /\ (ANL.bor 26 = true) /\ (ANL.pur 26 = false) /\ (ANL.ro 26 = false) /\ (ANL.frz 26 = false) /\ (ANL.fra 26 = false) /\ (ANL.res 26 = []) /\ (ANL.bor 27 = true) /\ (ANL.pur 27 = false) /\ (ANL.ro 27 = false) /\ (ANL.frz 27 = false) /\ (ANL.fra 27 = false) /\ (ANL.res 27 = []) /\ (ANL.bor 28 = false) /\ (ANL.pur 28 = true) /\ (ANL.ro 28 = false) /\ (ANL.frz 28 = true) /\ (ANL.fra 28 = false) /\ (ANL.res 28 = []) /\ (ANL.bor 29 = false) /\ (ANL.pur 29 = false) /\ (ANL.ro 29 = false) /\ (ANL.frz 29 = true) /\ (ANL.fra 29 = true) /\ (ANL.res 29 = []) /\ (ANL.bor 30 = true) /\ (ANL.pur 30 = false) /\ (ANL.ro 30 = false) /\ (ANL.frz 30 = false) /\ (ANL.fra 30 = false) /\ (ANL.res 30 = []) /\ (ANL.bor 31 = false) /\ (ANL.pur 31 = true) /\ (ANL.ro 31 = false) /\ (ANL.frz 31 = true) /\ (ANL.fra 31 = false) /\ (ANL.res 31 = []) /\ (ANL.bor 32 = true) /\ (ANL.pur 32 = false) /\ (ANL.ro 32 = false) /\ (ANL.frz 32 = false) /\ (ANL.fra 32 = false) /\ (ANL.res 32 = []) /\ (ANL.bor 36 = false) /\ (ANL.pur 36 = true) /\ (ANL.ro 36 = false) /\ (ANL.frz 36 = true) /\ (ANL.fra 36 = false) /\ (ANL.res 36 = []) /\ (ANL.bor 39 = false) /\ (ANL.pur 39 = false) /\ (ANL.ro 39 = false) /\ (ANL.frz 39 = true) /\ (ANL.fra 39 = false) /\ (ANL.res 39 = []) /\ (ANL.bor 53 = false) /\ (ANL.pur 53 = true) /\ (ANL.ro 53 = false) /\ (ANL.frz 53 = true) /\ (ANL.fra 53 = false) /\ (ANL.res 53 = []) /\ (ANL.bor 54 = true) /\ (ANL.pur 54 = false) /\ (ANL.ro 54 = false) /\ (ANL.frz 54 = false) /\ (ANL.fra 54 = false) /\ (ANL.res 54 = []) /\ (ANL.dr 6 4 = some ([], false, [], [])) /\ (ANL.dr 16 5 = some ([25, 1000003, 1000017, 1000001, 1000019, 1000004, 1000021, 1000020, 1000021, 1000022, 1000003, 1000027], false, [3], [some 17, some 19, some 21, some 22, some 27])) /\ (ANL.dr 19 5 = some ([23, 1000000, 1000012, 1000004, 1000013, 1000012, 1000013, 1000014, 1000014, 1000015, 1000000, 1000017, 1000004, 1000018, 1000017, 1000018, 1000019, 1000019, 1000020], false, [], [some 11, some 12, some 13, some 14, some 15, some 17, some 18, some 19, some 20])) /\ (ANL.keep 6 27 = some [5, 6, 7, 10, 13, 15, 16, 17]) /\ (ANL.fix 6 27 = [(3, [], 1)]) /\ (ANL.frl 6 27 = false) /\ (ANL.keep 6 23 = some [4, 5, 6, 7, 10, 13, 15]) /\ (ANL.fix 6 23 = [(4, [], 1)]) /\ (ANL.frl 6 23 = false) /\ (ANL.keep 6 19 = some [5, 6, 7, 10, 13, 14]) /\ (ANL.fix 6 19 = [(3, [], 1)]) /\ (ANL.frl 6 19 = false) /\ (ANL.keep 16 8 = some [1, 2, 3, 5]) /\ (ANL.fix 16 8 = [(2, [0], 1), (2, [1], 3)]) /\ (ANL.frl 16 8 = false) /\ (ANL.keep 16 4 = some [1, 2, 3, 4]) /\ (ANL.fix 16 4 = [(2, [0], 1)]) /\ (ANL.frl 16 4 = false) /\ (ANL.keep 19 4 = some [0, 3, 4]) /\ (ANL.fix 19 4 = [(0, [], 2), (1, [], 2)]) /\ (ANL.frl 19 4 = false) := by and_intros <;> kernel_rfl
theorem anfL : type_of% @anf0L /\ type_of% @acpL := ⟨@anf0L, @acpL⟩
variable (a v : List AV) (l : HL)
theorem l6_27L : type_of% (ev_lp ANL G 6 27 137 [5, 6, 7, 10, 13, 15, 16, 17] (by kernel_rfl) Tryd.func6 rfl rfl rfl (by kernel_rfl) v l) :=
 ev_lp ANL G 6 27 137 [5, 6, 7, 10, 13, 15, 16, 17] (by kernel_rfl) Tryd.func6 rfl rfl rfl (by kernel_rfl) v l
theorem l6_23L : type_of% (ev_lp ANL G 6 23 137 [4, 5, 6, 7, 10, 13, 15] (by kernel_rfl) Tryd.func6 rfl rfl rfl (by kernel_rfl) v l) :=
 ev_lp ANL G 6 23 137 [4, 5, 6, 7, 10, 13, 15] (by kernel_rfl) Tryd.func6 rfl rfl rfl (by kernel_rfl) v l
theorem l6_19L : type_of% (ev_lp ANL G 6 19 137 [5, 6, 7, 10, 13, 14] (by kernel_rfl) Tryd.func6 rfl rfl rfl (by kernel_rfl) v l) :=
 ev_lp ANL G 6 19 137 [5, 6, 7, 10, 13, 14] (by kernel_rfl) Tryd.func6 rfl rfl rfl (by kernel_rfl) v l
theorem l16_8L : type_of% (ev_lp ANL G 16 8 53 [1, 2, 3, 5] (by kernel_rfl) Tryd.func16 rfl rfl rfl (by kernel_rfl) v l) :=
 ev_lp ANL G 16 8 53 [1, 2, 3, 5] (by kernel_rfl) Tryd.func16 rfl rfl rfl (by kernel_rfl) v l
theorem l16_4L : type_of% (ev_lp ANL G 16 4 53 [1, 2, 3, 4] (by kernel_rfl) Tryd.func16 rfl rfl rfl (by kernel_rfl) v l) :=
 ev_lp ANL G 16 4 53 [1, 2, 3, 4] (by kernel_rfl) Tryd.func16 rfl rfl rfl (by kernel_rfl) v l
theorem l19_4L : type_of% (ev_lp ANL G 19 4 26 [0, 3, 4] (by kernel_rfl) Tryd.func19 rfl rfl rfl (by kernel_rfl) v l) :=
 ev_lp ANL G 19 4 26 [0, 3, 4] (by kernel_rfl) Tryd.func19 rfl rfl rfl (by kernel_rfl) v l
theorem e6L : type_of% (ev_fn ANL G 6 137 [.tmp 4] (by kernel_rfl) Tryd.func6 rfl rfl rfl a l) :=
 ev_fn ANL G 6 137 [.tmp 4] (by kernel_rfl) Tryd.func6 rfl rfl rfl a l
theorem e11L : type_of% (ev_fn ANL G 11 97 [.tmp 0] (by kernel_rfl) Tryd.func11 rfl rfl rfl a l) :=
 ev_fn ANL G 11 97 [.tmp 0] (by kernel_rfl) Tryd.func11 rfl rfl rfl a l
theorem e16L : type_of% (ev_fn ANL G 16 53 [.cell 2 45] (by kernel_rfl) Tryd.func16 rfl rfl rfl a l) :=
 ev_fn ANL G 16 53 [.cell 2 45] (by kernel_rfl) Tryd.func16 rfl rfl rfl a l
theorem e19L : type_of% (ev_fn ANL G 19 26 [.tmp 2] (by kernel_rfl) Tryd.func19 rfl rfl rfl a l) :=
 ev_fn ANL G 19 26 [.tmp 2] (by kernel_rfl) Tryd.func19 rfl rfl rfl a l
theorem gv12L : EL.F 12 a l = E.F 12 a l := ev_giv (by kernel_rfl) a l
theorem gv14L : EL.F 14 a l = E.F 14 a l := ev_giv (by kernel_rfl) a l
theorem gv15L : EL.F 15 a l = E.F 15 a l := ev_giv (by kernel_rfl) a l
theorem gv17L : EL.F 17 a l = E.F 17 a l := ev_giv (by kernel_rfl) a l
theorem gv20L : EL.F 20 a l = E.F 20 a l := ev_giv (by kernel_rfl) a l
theorem gv26L : EL.F 26 a l = E.F 26 a l := ev_giv (by kernel_rfl) a l
theorem gv27L : EL.F 27 a l = E.F 27 a l := ev_giv (by kernel_rfl) a l
theorem gv28L : EL.F 28 a l = E.F 28 a l := ev_giv (by kernel_rfl) a l
theorem gv29L : EL.F 29 a l = E.F 29 a l := ev_giv (by kernel_rfl) a l
theorem gv30L : EL.F 30 a l = E.F 30 a l := ev_giv (by kernel_rfl) a l
theorem gv31L : EL.F 31 a l = E.F 31 a l := ev_giv (by kernel_rfl) a l
theorem gv36L : EL.F 36 a l = E.F 36 a l := ev_giv (by kernel_rfl) a l
theorem gv39L : EL.F 39 a l = E.F 39 a l := ev_giv (by kernel_rfl) a l
end Go.Proofs.YtikppcfabnnhfaaDoor

/- awake. -/
namespace Go.Proofs.YtikppcfabnnhfaaDoor
open Go Go.Aw
set_option linter.unusedSimpArgs false
set_option linter.unusedVariables false
set_option maxRecDepth 100000
set_option maxHeartbeats 40000000
theorem same_loop {a b : List Int} (hl : a.length = b.length) (hla : a.length ≤ 1000000) : ∀ (r m q p : List Int), a = m ++ r -> b = p ++ q -> m.length = p.length ->
  ∃ e : Int, E.L 20 5 [.ro 1 (a.map (AV.int .i64)), .ro 1 (b.map (AV.int .i64)), .bool false, .int .i64 m.length] [] = some ((if r == q then .exit 0 else .ret, [.ro 1 (a.map (AV.int .i64)), .ro 1 (b.map (AV.int .i64)), .bool false, .int .i64 e], []), True) := by
 intro r
 induction r with
 | nil =>
  intro m q p h1 h2 h3
  have hq : q = [] := List.eq_nil_of_length_eq_zero (by have la := congrArg List.length h1; have lb := congrArg List.length h2; rw [List.length_append] at la lb; simp only [List.length_nil] at la; omega)
  subst hq
  have hn : m.length = a.length := by rw [h1]; simp
  refine ⟨a.length, ?_⟩
  have qq : ((a.length : Int) < a.length) = False := eq_false (by omega)
  rw [hn, l20_5]
  simp (maxSteps := 100000000) only [ivc, anf, vlen, vbuiltin, nilR, eq_self, Nat.reduceEqDiff, Nat.reduceLT, Nat.reduceAdd, Nat.reduceBEq, reduceCtorEq, ↓reduceIte, tyb, qq]
 | cons x r ih =>
  intro m q p h1 h2 h3
  have la := congrArg List.length h1
  have lb := congrArg List.length h2
  match q with
  | [] => simp at la lb; omega
  | y :: q =>
   simp only [List.length_append, List.length_cons] at la lb
   have hi' : (m.length : Int) < a.length := by omega
   have ga := getD_map (f := AV.int .i64) (show a[m.length]? = some x by rw [h1]; simp)
   have gb := getD_map (f := AV.int .i64) (show b[m.length]? = some y by rw [h2, h3]; simp)
   have hw : IntKind.i64.wrap ((m.length : Int) + 1) = m.length + 1 := wrap_id (by omega) (by omega)
   have c1 : (0 ≤ (m.length : Int) /\ (m.length : Int) < a.length) = True := eq_true (by omega)
   have c2 : (0 ≤ (m.length : Int) /\ (m.length : Int) < b.length) = True := eq_true (by omega)
   by_cases hx : x = y
   ·have hx' : (x != y) = false := by rw [hx]; simp
    have hb : ((x :: r) == (y :: q)) = (r == q) := by simp [hx]
    obtain ⟨e, ih'⟩ := ih (m ++ [x]) q (p ++ [y]) (by simp [h1]) (by simp [h2]) (by simp [h3])
    refine ⟨e, ?_⟩
    simp only [List.length_append, List.length_cons, List.length_nil, Nat.zero_add, Int.natCast_add, Int.cast_ofNat_Int] at ih'
    rw [hb, l20_5]
    simp (maxSteps := 100000000) only [ivc, anf, vlen, vbuiltin, nilR, eq_self, Nat.reduceEqDiff, Nat.reduceLT, Nat.reduceAdd, Nat.reduceBEq, reduceCtorEq, ↓reduceIte, tyb, hi', ga, gb, hw, c2, hx', ih']
    exact some_true (by omega)
   ·have hx' : (x != y) = true := bne_iff_ne.2 hx
    have hb : ((x :: r) == (y :: q)) = false := by simp [hx]
    refine ⟨m.length, ?_⟩
    rw [hb, l20_5]
    simp (maxSteps := 100000000) only [ivc, anf, vlen, vbuiltin, nilR, eq_self, Nat.reduceEqDiff, Nat.reduceLT, Nat.reduceAdd, Nat.reduceBEq, reduceCtorEq, ↓reduceIte, tyb, hi', ga, gb, c2, hx']
    exact some_true (by omega)
theorem same_ev {a b : List Int} (hla : a.length ≤ 1000000) : E.F 20 [.ro 1 (a.map (AV.int .i64)), .ro 1 (b.map (AV.int .i64))] [] = some ((.bool (a == b), []), True) := by
 rw [e20]
 by_cases h : a.length = b.length
 ·have hb : ((a.length : Int) != b.length) = false := by rw [h]; simp
  obtain ⟨e, lp⟩ := same_loop h hla a [] b [] rfl rfl rfl
  simp only [List.length_nil, Int.natCast_zero] at lp
  by_cases hab : (a == b) = true
  ·rw [hab]
   simp only [hab, if_true] at lp
   simp (maxSteps := 100000000) only [ivc, anf, vlen, vbuiltin, nilR, eq_self, Nat.reduceEqDiff, Nat.reduceLT, Nat.reduceLeDiff, Nat.reduceAdd, Nat.reduceBEq, reduceCtorEq, ↓reduceIte, tyb, hb, lp]
  ·have hab' : (a == b) = false := by simpa using hab
   rw [hab']
   simp only [hab', Bool.false_eq_true, if_false] at lp
   simp (maxSteps := 100000000) only [ivc, anf, vlen, vbuiltin, nilR, eq_self, Nat.reduceEqDiff, Nat.reduceLT, Nat.reduceLeDiff, Nat.reduceAdd, Nat.reduceBEq, reduceCtorEq, ↓reduceIte, tyb, hb, lp]
 ·have hb : ((a.length : Int) != b.length) = true := by simp; omega
  have hab' : (a == b) = false := by
   cases hh : a == b with
   | false => rfl
   | true => exact absurd (congrArg List.length (eq_of_beq hh)) h
  rw [hab']
  simp (maxSteps := 100000000) only [ivc, anf, vlen, vbuiltin, nilR, eq_self, Nat.reduceEqDiff, Nat.reduceLT, Nat.reduceLeDiff, Nat.reduceAdd, Nat.reduceBEq, reduceCtorEq, ↓reduceIte, tyb, hb]
theorem ex_ev : E.F 39 [] [] = some ((wdV exW, []), True) := by
 rw [e39]
 simp (maxSteps := 100000000) only [ivc, anf, vop, salloc, eq_self, Nat.reduceEqDiff, Nat.reduceLT, Nat.reduceLeDiff, Nat.reduceAdd, Nat.reduceMul, Nat.reduceBEq, Int.reduceLE, Int.reduceToNat, Int.reduceMul, reduceCtorEq, ↓reduceIte, tyb, exW, wdV, clV, enV, bdV]
theorem gv24L (a : List AV) (l : HL) : EL.F 24 a l = EP.F 24 a l := ev_giv (A := ANL) (by kernel_rfl) a l
theorem awake_ev : EL.F 11 [] [] = some ((.bool true, []), True) := by
 have a1 := ex_ev
 have a2 := conf_ev (w := exW) okW_of
 rw [if_pos ex_ck, ex_conf] at a2
 have a3 := least15_ev (w := exW) okW_of
 rw [if_pos ex_ck, ex_cnt, if_neg (by decide), ex_least] at a3
 have a4 := pack_ev (w := exW) (cs := [0, 1, 0]) okW_of (fun _ _ => ex_hasC)
 rw [if_pos ex_ck, if_pos ex_cc, ex_pack] at a4
 have a5 := grow_ev (w := exW) (cs := [0, 1, 0]) (cl := exC) (by decide) ex_ck (okW_of ex_ck) ex_cc ex_ck2 (okW_of ex_ck2) (by rw [ex_sz2]; decide) (by decide) (by rw [ex_sz2]; decide) ex_grow
 have s1 := same_ev (a := [0, 2]) (b := [0, 2]) (by decide)
 have s2 := same_ev (a := [0, 1, 2]) (b := [0, 1, 2]) (by decide)
 have s3 := same_ev (a := [2]) (b := [2]) (by decide)
 have s4 := look_ev (v := [⟨0, 0⟩, ⟨1, 1⟩, ⟨2, 3⟩, ⟨1, 2⟩]) (offs := [0, 2]) (l := [0, 1, 0]) (c := 1) (s := 2) (by decide) (by unfold i64r; decide) (by unfold i64r; decide)
 rw [show lookM [⟨0, 0⟩, ⟨1, 1⟩, ⟨2, 3⟩, ⟨1, 2⟩] [0, 2] [0, 1, 0] 1 2 = 3 from by kernel_rfl] at s4
 simp only [exW, exC, wdV, clV, enV, bdV, pV, List.map_cons, List.map_nil, beq_self_eq_true] at a1 a2 a3 a4 a5 s1 s2 s3 s4
 rw [e11L]
 simp (maxSteps := 100000000) only [ivc, vop, vlen, vbuiltin, nilR, salloc, eq_self, Nat.reduceEqDiff, Nat.reduceLT, Nat.reduceLeDiff, Nat.reduceAdd, Nat.reduceMul, Nat.reduceBEq, Int.reduceLT, Int.reduceLE, Int.reduceToNat, reduceCtorEq, ↓reduceIte, anfL, gv39L, gv36L, gv15L, gv24L, gv17L, gv20L, gv12L, tyb, a1, a2, a3, a4, a5, s1, s2, s3, s4]
theorem entr_loop {l : List Et} (hl : l.length ≤ 1000000) : ∀ (r m : List Et), l = m ++ r ->
  EL.L 19 4 [.ro 2 (l.map enV), .sl 60000 0 m.length, .int .i64 m.length] [(60000, eR m)] = some ((.exit 0, [.ro 2 (l.map enV), .sl 60000 0 l.length, .int .i64 l.length], [(60000, eR l)]), True) := by
 intro r
 induction r with
 | nil =>
  intro m h
  rw [List.append_nil] at h
  subst h
  have q : ((l.length : Int) < l.length) = False := eq_false (by omega)
  rw [l19_4L]
  simp (maxSteps := 100000000) only [ivc, vlen, vbuiltin, nilR, eq_self, Nat.reduceEqDiff, Nat.reduceLT, Nat.reduceLeDiff, Nat.reduceAdd, reduceCtorEq, ↓reduceIte, anfL, tyb, eR, q]
 | cons x r ih =>
  intro m h
  have hn : m.length + (r.length + 1) = l.length := by rw [h]; simp
  have hi' : (m.length : Int) < l.length := by omega
  have hg := getD_map (f := enV) (show l[m.length]? = some x by rw [h]; simp)
  have hw : IntKind.i64.wrap ((m.length : Int) + 1) = m.length + 1 := wrap_id (by omega) (by omega)
  have hc : (0 ≤ (m.length : Int) /\ (m.length : Int) < l.length) = True := eq_true (by omega)
  have ih' := ih (m ++ [x]) (by simp [h])
  simp only [List.length_append, List.length_cons, List.length_nil, Nat.zero_add, Int.natCast_add, Int.cast_ofNat_Int, eR, enV, List.map_append, List.map_cons, List.map_nil] at ih'
  rw [l19_4L]
  simp (maxSteps := 100000000) only [ivc, vop, vlen, vbuiltin, nilR, salloc, sappend, eq_self, Nat.reduceEqDiff, Nat.reduceLT, Nat.reduceLeDiff, Nat.reduceAdd, Nat.reduceMul, Nat.reduceSub, Nat.reduceBEq, reduceCtorEq, ↓reduceIte, anfL, tyb, eR, enV, hi', hg, hw, ih']
  try exact some_true (by omega)
theorem entries_ev {l : List Et} (hl : l.length ≤ 1000000) : EL.F 19 [.ro 2 (l.map enV)] [] = some ((.ro 2 (l.map enV), []), True) := by
 have lp := entr_loop hl l [] rfl
 simp only [List.length_nil, Int.natCast_zero, eR, List.map_nil] at lp
 have tk : (l.map enV).take l.length = l.map enV := List.take_of_length_le (by simp)
 rw [e19L]
 simp (maxSteps := 100000000) only [ivc, eq_self, Nat.reduceEqDiff, Nat.reduceLT, Nat.reduceLeDiff, Nat.reduceAdd, reduceCtorEq, ↓reduceIte, anfL, lp, tk]
 try exact some_true (by omega)
def zW : AV := .agg [.nilsl, .nilsl, .nilsl]
def wrH (w : Wd) (m : List (List Et)) : HL := [(60000, ⟨true, 3, [wdV w]⟩), (60001, ⟨true, 3, [zW]⟩), (60002, ⟨true, 3, [.agg [.sl 60003 0 m.length, .nilsl, .ro 1 (w.roots.map (AV.int .i64))]]⟩), (60003, ⟨false, 1, m.map clV⟩)]
theorem wr4_loop {w : Wd} (hl : w.classes.length ≤ 1000) (hs : ∀ c ∈ w.classes, c.length ≤ 1000000) : ∀ (r m : List (List Et)), w.classes = m ++ r ->
  EL.L 16 4 [.ptr 60000 0 0, .ptr 60001 0 0, .ptr 60002 0 0, .int .i64 m.length] (wrH w m) = some ((.exit 0, [.ptr 60000 0 0, .ptr 60001 0 0, .ptr 60002 0 0, .int .i64 w.classes.length], wrH w w.classes), True) := by
 intro r
 induction r with
 | nil =>
  intro m h
  rw [List.append_nil] at h
  have q : ((w.classes.length : Int) < w.classes.length) = False := eq_false (by omega)
  rw [<- h, l16_4L]
  simp (maxSteps := 100000000) only [ivc, vop, vlen, vbuiltin, nilR, eq_self, Nat.reduceEqDiff, Nat.reduceLT, Nat.reduceLeDiff, Nat.reduceAdd, Nat.reduceBEq, reduceCtorEq, ↓reduceIte, anfL, tyb, wrH, zW, wdV, q]
 | cons x r ih =>
  intro m h
  have hn : m.length + (r.length + 1) = w.classes.length := by rw [h]; simp
  have hi' : (m.length : Int) < w.classes.length := by omega
  have hm : w.classes[m.length]? = some x := by rw [h]; simp
  have hg := getD_map (f := clV) hm
  have hw : IntKind.i64.wrap ((m.length : Int) + 1) = m.length + 1 := wrap_id (by omega) (by omega)
  have hc : (0 ≤ (m.length : Int) /\ (m.length : Int) < w.classes.length) = True := eq_true (by omega)
  have en := entries_ev (l := x) (hs x (List.mem_of_getElem? hm))
  have ih' := ih (m ++ [x]) (by simp [h])
  simp only [List.length_append, List.length_cons, List.length_nil, Nat.zero_add, Int.natCast_add, Int.cast_ofNat_Int, wrH, zW, wdV, clV, List.map_append, List.map_cons, List.map_nil] at ih'
  rw [l16_4L]
  simp (maxSteps := 100000000) only [ivc, vop, vlen, vbuiltin, nilR, salloc, sappend, eq_self, Nat.reduceEqDiff, Nat.reduceLT, Nat.reduceLeDiff, Nat.reduceAdd, Nat.reduceMul, Nat.reduceSub, Nat.reduceBEq, reduceCtorEq, ↓reduceIte, anfL, tyb, wrH, zW, wdV, clV, hi', hg, hw, en, ih']
  try exact some_true (by omega)
def wqH (w : Wd) (m : List Bd) : HL := [(60000, ⟨true, 3, [wdV w]⟩), (60001, ⟨true, 3, [zW]⟩), (60002, ⟨true, 3, [.agg [.sl 60003 0 w.classes.length, .sl 60004 0 m.length, .ro 1 (w.roots.map (AV.int .i64))]]⟩), (60003, ⟨false, 1, w.classes.map clV⟩), (60004, ⟨false, 3, m.map bdV⟩)]
theorem wr8_loop {w : Wd} (hl : w.bodies.length ≤ 1000) : ∀ (r m : List Bd), w.bodies = m ++ r ->
  EL.L 16 8 [.ptr 60000 0 0, .ptr 60001 0 0, .ptr 60002 0 0, .int .i64 m.length] (wqH w m) = some ((.exit 2, [.ptr 60000 0 0, .ptr 60001 0 0, .ptr 60002 0 0, .int .i64 w.bodies.length], wqH w w.bodies), True) := by
 intro r
 induction r with
 | nil =>
  intro m h
  rw [List.append_nil] at h
  have q : ((w.bodies.length : Int) < w.bodies.length) = False := eq_false (by omega)
  rw [<- h, l16_8L]
  simp (maxSteps := 100000000) only [ivc, vop, vlen, vbuiltin, nilR, eq_self, Nat.reduceEqDiff, Nat.reduceLT, Nat.reduceLeDiff, Nat.reduceAdd, Nat.reduceBEq, reduceCtorEq, ↓reduceIte, anfL, tyb, wqH, zW, wdV, q]
 | cons x r ih =>
  intro m h
  have hn : m.length + (r.length + 1) = w.bodies.length := by rw [h]; simp
  have hi' : (m.length : Int) < w.bodies.length := by omega
  have hm : w.bodies[m.length]? = some x := by rw [h]; simp
  have hg := getD_map (f := bdV) hm
  have hw : IntKind.i64.wrap ((m.length : Int) + 1) = m.length + 1 := wrap_id (by omega) (by omega)
  have hc : (0 ≤ (m.length : Int) /\ (m.length : Int) < w.bodies.length) = True := eq_true (by omega)
  have ih' := ih (m ++ [x]) (by simp [h])
  simp only [List.length_append, List.length_cons, List.length_nil, Nat.zero_add, Int.natCast_add, Int.cast_ofNat_Int, wqH, zW, wdV, bdV, List.map_append, List.map_cons, List.map_nil] at ih'
  rw [l16_8L]
  simp (maxSteps := 100000000) only [ivc, vop, vlen, vbuiltin, nilR, salloc, sappend, eq_self, Nat.reduceEqDiff, Nat.reduceLT, Nat.reduceLeDiff, Nat.reduceAdd, Nat.reduceMul, Nat.reduceBEq, reduceCtorEq, ↓reduceIte, anfL, tyb, wqH, zW, wdV, bdV, hi', hg, hw, ih']
  try exact some_true (by omega)
theorem world_ev {w : Wd} (hl : w.classes.length ≤ 1000) (hb : w.bodies.length ≤ 1000) (hs : ∀ c ∈ w.classes, c.length ≤ 1000000) : EL.F 16 [wdV w] [] = some ((wdV w, []), True) := by
 have lp1 := wr4_loop hl hs w.classes [] rfl
 have lp2 := wr8_loop hb w.bodies [] rfl
 simp only [List.length_nil, Int.natCast_zero, wrH, wqH, zW, wdV, List.map_nil] at lp1 lp2
 rw [e16L]
 simp (maxSteps := 100000000) only [ivc, vop, salloc, eq_self, Nat.reduceEqDiff, Nat.reduceLT, Nat.reduceLeDiff, Nat.reduceAdd, Nat.reduceBEq, reduceCtorEq, ↓reduceIte, anfL, tyb, wdV, lp1, lp2]
 try exact some_true (by omega)
def gV (p : List Int × List Int × Int) : AV := .tup [.ro 1 (p.1.map (AV.int .i64)), .ro 1 (p.2.1.map (AV.int .i64)), .int .i64 p.2.2]
theorem lenS_mem : ∀ {cs : List (List Et)} {c : List Et}, c ∈ cs -> (c.length : Int) ≤ lenS cs
 | x :: cs, c, h => by
  have h0 : 0 ≤ lenS cs := by
   clear h
   induction cs with
   | nil => exact Int.le_refl _
   | cons y cs ih => rw [lenS]; omega
  rw [lenS]
  rcases List.mem_cons.1 h with rfl | h
  ·omega
  ·have := lenS_mem h
   omega
theorem small_len {w : Wd} (h : smallM w = true) : w.classes.length ≤ 210 /\ w.bodies.length ≤ 510 /\ ∀ c ∈ w.classes, c.length ≤ 500 := by
 unfold smallM at h
 split at h
 ·cases h
 rename_i n
 refine ⟨by omega, by omega, fun c hc => ?_⟩
 have hm := lenS_mem hc
 split at h
 ·simp only [Bool.and_eq_true, decide_eq_true_eq] at h
  omega
 ·simp only [Bool.and_eq_true, decide_eq_true_eq] at h
  omega
theorem mx_loop {w : Wd} {F : List Int} {n e : Int} (hl : F.length ≤ 1000) : ∀ (r m : List Int) (u : Int), F = m ++ r ->
  EL.L 6 19 [.ptr 60000 0 0, .int .i64 n, .int .i64 e, .ro 1 (F.map (AV.int .i64)), .int .i64 u, .int .i64 m.length] (wO w) = some ((.exit 0, [.ptr 60000 0 0, .int .i64 n, .int .i64 e, .ro 1 (F.map (AV.int .i64)), .int .i64 (r.foldl maxI u), .int .i64 F.length], wO w), True) := by
 intro r
 induction r with
 | nil =>
  intro m u h
  rw [List.append_nil] at h
  subst h
  have q : ((F.length : Int) < F.length) = False := eq_false (by omega)
  rw [l6_19L]
  simp (maxSteps := 100000000) only [ivc, vlen, vbuiltin, nilR, eq_self, Nat.reduceEqDiff, Nat.reduceLT, Nat.reduceLeDiff, Nat.reduceAdd, reduceCtorEq, ↓reduceIte, anfL, tyb, wO, wdV, q, List.foldl_nil]
 | cons x r ih =>
  intro m u h
  have hn : m.length + (r.length + 1) = F.length := by rw [h]; simp
  have hi' : (m.length : Int) < F.length := by omega
  have hg := getD_map (f := AV.int .i64) (show F[m.length]? = some x by rw [h]; simp)
  have hw : IntKind.i64.wrap ((m.length : Int) + 1) = m.length + 1 := wrap_id (by omega) (by omega)
  have hc0 : (0 ≤ (m.length : Int)) = True := eq_true (by omega)
  have ih' := ih (m ++ [x]) (maxI u x) (by simp [h])
  rw [List.foldl_cons]
  generalize List.foldl maxI (maxI u x) r = R at ih' ⊢
  simp only [List.length_append, List.length_cons, List.length_nil, Nat.zero_add, Int.natCast_add, Int.cast_ofNat_Int, wO, wdV, maxI] at ih'
  rw [l6_19L]
  simp (maxSteps := 100000000) only [ivc, vlen, vbuiltin, nilR, eq_self, Nat.reduceEqDiff, Nat.reduceLT, Nat.reduceLeDiff, Nat.reduceAdd, reduceCtorEq, ↓reduceIte, anfL, tyb, wO, wdV, hi', hg, hw, hc0, ih']
  try exact some_true (by omega)
theorem hs_loop {w : Wd} {F : List Int} {n e u x : Int} (hl : F.length ≤ 1000) : ∀ (r m : List Int) (b : Bool), F = m ++ r ->
  EL.L 6 27 [.ptr 60000 0 0, .int .i64 n, .int .i64 e, .ro 1 (F.map (AV.int .i64)), .int .i64 u, .int .i64 x, .bool b, .int .i64 m.length] (wO w) = some ((.exit 4, [.ptr 60000 0 0, .int .i64 n, .int .i64 e, .ro 1 (F.map (AV.int .i64)), .int .i64 u, .int .i64 x, .bool (b || r.any fun c => c == x), .int .i64 F.length], wO w), True) := by
 intro r
 induction r with
 | nil =>
  intro m b h
  rw [List.append_nil] at h
  subst h
  have q : ((F.length : Int) < F.length) = False := eq_false (by omega)
  rw [l6_27L]
  simp (maxSteps := 100000000) only [ivc, vlen, vbuiltin, nilR, eq_self, Nat.reduceEqDiff, Nat.reduceLT, Nat.reduceLeDiff, Nat.reduceAdd, reduceCtorEq, ↓reduceIte, anfL, tyb, wO, wdV, q, List.any_nil]
 | cons y r ih =>
  intro m b h
  have hn : m.length + (r.length + 1) = F.length := by rw [h]; simp
  have hi' : (m.length : Int) < F.length := by omega
  have hg := getD_map (f := AV.int .i64) (show F[m.length]? = some y by rw [h]; simp)
  have hw : IntKind.i64.wrap ((m.length : Int) + 1) = m.length + 1 := wrap_id (by omega) (by omega)
  have hc0 : (0 ≤ (m.length : Int)) = True := eq_true (by omega)
  have ih' := ih (m ++ [y]) (b || (y == x)) (by simp [h])
  rw [Bool.or_assoc] at ih'
  rw [List.any_cons]
  simp only [List.length_append, List.length_cons, List.length_nil, Nat.zero_add, Int.natCast_add, Int.cast_ofNat_Int, wO, wdV] at ih'
  cases b with
  | true =>
   simp only [Bool.true_or] at ih' ⊢
   rw [l6_27L]
   simp (maxSteps := 100000000) only [ivc, vlen, vbuiltin, nilR, eq_self, Nat.reduceEqDiff, Nat.reduceLT, Nat.reduceLeDiff, Nat.reduceAdd, reduceCtorEq, ↓reduceIte, anfL, tyb, wO, wdV, hi', hg, hw, hc0, ih']
   try exact some_true (by omega)
  | false =>
   simp only [Bool.false_or] at ih' ⊢
   rw [l6_27L]
   simp (maxSteps := 100000000) only [ivc, vlen, vbuiltin, nilR, eq_self, Nat.reduceEqDiff, Nat.reduceLT, Nat.reduceLeDiff, Nat.reduceAdd, reduceCtorEq, ↓reduceIte, anfL, tyb, wO, wdV, hi', hg, hw, hc0, ih']
   try exact some_true (by omega)
theorem gp_loop {w : Wd} {F : List Int} {n e u : Int} (hl : F.length ≤ 1000) (hu : u ≤ 1000) (hx : ∀ x, 0 ≤ x -> x ≤ u -> (F.any fun c => c == x) = true) : ∀ (k : Nat) (x : Int), 0 ≤ x -> (x + k = u + 1 \/ (k = 0 /\ u < x)) ->
  EL.L 6 23 [.junk, .ptr 60000 0 0, .int .i64 n, .int .i64 e, .ro 1 (F.map (AV.int .i64)), .int .i64 u, .int .i64 x] (wO w) = some ((.exit 2, [.junk, .ptr 60000 0 0, .int .i64 n, .int .i64 e, .ro 1 (F.map (AV.int .i64)), .int .i64 u, .int .i64 (x + k)], wO w), True) := by
 intro k
 induction k with
 | zero =>
  intro x h0 h
  have q : (x ≤ u) = False := eq_false (by omega)
  rw [l6_23L, Int.natCast_zero, Int.add_zero]
  simp (maxSteps := 100000000) only [ivc, nilR, eq_self, Nat.reduceEqDiff, Nat.reduceLT, Nat.reduceLeDiff, Nat.reduceAdd, reduceCtorEq, ↓reduceIte, anfL, tyb, wO, wdV, q]
 | succ k ih =>
  intro x h0 h
  have q : (x ≤ u) = True := eq_true (by omega)
  have hw : IntKind.i64.wrap (x + 1) = x + 1 := wrap_id (by omega) (by omega)
  have lp := hs_loop (w := w) (F := F) (n := n) (e := e) (u := u) (x := x) hl F [] false rfl
  rw [hx x h0 (by omega), Bool.or_true] at lp
  have ih' := ih (x + 1) (by omega) (by omega)
  rw [show x + 1 + (k : Int) = x + ((k + 1 : Nat) : Int) by omega] at ih'
  generalize x + ((k + 1 : Nat) : Int) = X at ih' ⊢
  simp only [List.length_nil, Int.natCast_zero, wO, wdV] at lp ih'
  rw [l6_23L]
  simp (maxSteps := 100000000) only [ivc, vop, nilR, eq_self, Nat.reduceEqDiff, Nat.reduceLT, Nat.reduceLeDiff, Nat.reduceAdd, reduceCtorEq, ↓reduceIte, anfL, tyb, wO, wdV, q, hw, lp, ih']
  try exact some_true (by omega)
theorem colours6_ev {w : Wd} {l : List Int} (hw : inpW w) : EL.F 6 [wdV w, .ro 1 (l.map (AV.int .i64))] [] = some ((.bool true, []), True) := by
 have aw := awake_ev
 have sm := small_ev hw
 rw [e6L]
 cases hs : smallM w with
 | false =>
  rw [hs] at sm
  simp only [wdV] at sm
  simp (maxSteps := 100000000) only [ivc, vop, vlen, vbuiltin, nilR, salloc, eq_self, Nat.reduceEqDiff, Nat.reduceLT, Nat.reduceLeDiff, Nat.reduceAdd, Nat.reduceMul, Int.reduceNeg, reduceCtorEq, ↓reduceIte, anfL, gv14L, tyb, wdV, sm, aw]
 | true =>
 rw [hs] at sm
 obtain ⟨s1, s2, s3⟩ := small_len hs
 by_cases h1 : (520 : Int) < l.length
 ·simp only [wdV] at sm
  simp (maxSteps := 100000000) only [ivc, vop, vlen, vbuiltin, nilR, salloc, eq_self, Nat.reduceEqDiff, Nat.reduceLT, Nat.reduceLeDiff, Nat.reduceAdd, Nat.reduceMul, Int.reduceNeg, reduceCtorEq, ↓reduceIte, anfL, gv14L, tyb, wdV, sm, h1, aw]
 have v1 := world_ev (w := w) (by omega) (by omega) (fun c hc => by have := s3 c hc; omega)
 have v2 := cc_ev (w := w) (cs := l) okW_of
 rw [show (if ckM w = 0 then ccW (graphW w) l else ckM w) = ccM w l from rfl] at v2
 have v3 := rcc_ev' (w := w) (cs := l)
 have n1 : ∀ y : Int, (y != y) = false := fun y => by simp
 have n2 : ∀ y : Int, (y == y) = true := fun y => by simp
 have v4 := least15_ev (w := w) okW_of
 have v5 := rleast_ev (w := w)
 have v6 := colours_ev (w := w) okW_of
 have v7 := rcheck_ev (w := w)
 by_cases c1 : ckM w = 0
 case neg =>
  rw [if_neg c1] at v4 v5 v6
  have c1' : (ckM w != 0) = true := bne_iff_ne.2 c1
  generalize ccM w l = C at v2 v3
  generalize ckM w = er at v4 v5 v6 v7 c1'
  simp only [wdV] at sm v1 v2 v3 v4 v5 v6 v7
  simp (maxSteps := 100000000) only [ivc, vop, vlen, vbuiltin, nilR, salloc, eq_self, Nat.reduceEqDiff, Nat.reduceLT, Nat.reduceLeDiff, Nat.reduceAdd, Nat.reduceMul, Int.reduceNeg, reduceCtorEq, ↓reduceIte, anfL, gv14L, gv15L, gv26L, gv27L, gv28L, gv29L, gv30L, tyb, wdV, sm, h1, v1, v2, v3, v4, v5, v6, v7, c1', aw]
 rw [if_pos c1] at v4 v5 v6
 rw [c1] at v7
 have g := good_of c1
 have ok := cols_ok (gr_ok (clsok_of g))
 have v8 := rcc_ev' (w := w) (cs := colsM (graphW w))
 have cz : ccM w (colsM (graphW w)) = 0 := by unfold ccM; rw [if_pos c1]; exact cc_iff.2 ok
 rw [cz] at v8
 have v9 := degree_ev g
 have hz := szM_le (graphW w) 500
 have fl := ok.len
 have f1 := fun x h0 h1 => no_gap (g := graphW w) (x := x) h0 h1
 have f2 := fun h => most_deg g h
 have f3 := least_most g
 have fb : mxM (colsM (graphW w)) < 500 /\ -1 ≤ mxM (colsM (graphW w)) := by
  have q := foldl_ge (l := colsM (graphW w)) (a := -1)
  refine ⟨?_, q.1⟩
  rcases foldl_in (l := colsM (graphW w)) (a := -1) with h | h
  ·unfold mxM; omega
  ·exact (ok.bd _ h).2
 generalize dgM w (knW (graphW w)) (knW (graphW w)) 0 = D at v9 f2
 generalize cntM (graphW w) 8 = K at v4 v5
 generalize leastW (graphW w) = Lw at v4 v5 f3
 generalize colsM (graphW w) = F at v6 v8 fl f1 f2 f3 fb
 generalize ccM w l = C at v2 v3
 have lp1 := fun n e => mx_loop (w := w) (F := F) (n := n) (e := e) (by omega) F [] (-1) rfl
 have lp2 := fun n e => gp_loop (w := w) (F := F) (n := n) (e := e) (u := mxM F) (by omega) (by omega) f1 (mxM F + 1).toNat 0 (by omega) (by omega)
 rw [show List.foldl maxI (-1) F = mxM F from rfl] at lp1
 generalize mxM F = M at lp1 lp2 f2 f3 fb
 have hw2 : IntKind.i64.wrap (M + 1) = M + 1 := wrap_id (by omega) (by omega)
 simp only [wdV, wO, List.length_nil, Int.natCast_zero, Int.zero_add] at sm v1 v2 v3 v4 v5 v6 v7 v8 v9 lp1 lp2
 by_cases b1 : 12 < K
 ·rw [if_pos b1] at v4 v5
  by_cases b2 : M < 0
  ·simp (maxSteps := 100000000) only [ivc, vop, vlen, vbuiltin, nilR, salloc, eq_self, Nat.reduceEqDiff, Nat.reduceLT, Nat.reduceLeDiff, Nat.reduceAdd, Nat.reduceMul, Int.reduceNeg, Int.reduceBNe, reduceCtorEq, ↓reduceIte, anfL, gv14L, gv15L, gv26L, gv27L, gv28L, gv29L, gv30L, tyb, wdV, sm, h1, v1, v2, v3, v4, v5, v6, v7, v8, lp1, lp2, b2, hw2, aw]
   try exact some_true (by omega)
  ·have b3 : M ≤ D := f2 (by omega)
   simp (maxSteps := 100000000) only [ivc, vop, vlen, vbuiltin, nilR, salloc, eq_self, Nat.reduceEqDiff, Nat.reduceLT, Nat.reduceLeDiff, Nat.reduceAdd, Nat.reduceMul, Int.reduceNeg, Int.reduceBNe, reduceCtorEq, ↓reduceIte, anfL, gv14L, gv15L, gv26L, gv27L, gv28L, gv29L, gv30L, gv31L, tyb, wdV, sm, h1, v1, v2, v3, v4, v5, v6, v7, v8, v9, lp1, lp2, b2, b3, hw2, aw]
   try exact some_true (by omega)
 ·rw [if_neg b1] at v4 v5
  by_cases b2 : M < 0
  ·simp (maxSteps := 100000000) only [ivc, vop, vlen, vbuiltin, nilR, salloc, eq_self, Nat.reduceEqDiff, Nat.reduceLT, Nat.reduceLeDiff, Nat.reduceAdd, Nat.reduceMul, Int.reduceNeg, reduceCtorEq, ↓reduceIte, anfL, gv14L, gv15L, gv26L, gv27L, gv28L, gv29L, gv30L, tyb, wdV, sm, h1, v1, v2, v3, v4, v5, v6, v7, v8, lp1, lp2, b2, hw2, f3, aw]
   try exact some_true (by omega)
  ·have b3 : M ≤ D := f2 (by omega)
   simp (maxSteps := 100000000) only [ivc, vop, vlen, vbuiltin, nilR, salloc, eq_self, Nat.reduceEqDiff, Nat.reduceLT, Nat.reduceLeDiff, Nat.reduceAdd, Nat.reduceMul, Int.reduceNeg, reduceCtorEq, ↓reduceIte, anfL, gv14L, gv15L, gv26L, gv27L, gv28L, gv29L, gv30L, gv31L, tyb, wdV, sm, h1, v1, v2, v3, v4, v5, v6, v7, v8, v9, lp1, lp2, b2, b3, hw2, f3, aw]
   try exact some_true (by omega)
end Go.Proofs.YtikppcfabnnhfaaDoor

namespace Go.Proofs.YtikppcfabnnhfaaDoor
open Go Go.Aw
set_option linter.unusedSimpArgs false
set_option linter.unusedVariables false
set_option maxRecDepth 100000
theorem col_lifted (os : Os) (started : os.Started) (H : Type) (enc : TypeId × Value -> H) :
  ReturnsInHanded {} Tryd.checked os 6 .any (fun w args => (Rows.colourColoursSpec.pre enc Tryd.prog Tryd.f6 [] false w args /\ laidMetH Tryd.prog laidL w) /\ sizedMet enc Tryd.prog Tryd.f6 (OpenSpec.ofChange Rows.colourColoursSpec) false w args)
   (Rows.colourColoursSpec.post enc Tryd.prog Tryd.f6 false true false false) := by
 refine returnsInHanded_of_change_and (C := Tryd.checked) (X := fun w _ => laidMetH Tryd.prog laidL w) (fun _ _ _ hh h => h.of_heap hh) own started (by kernel_rfl) Tryd.func6
  (ChangeSpec.witness_shaped (enc := enc) (C := Tryd.checked) (os := os) (X := fun w _ => laidMetH Tryd.prog laidL w) false (World.doorLaid Tryd.prog 400 os) #[.agg #[.slice none 0 0, .slice none 0 0, .slice none 0 0], .slice none 0 0] 8 rfl (World.shaped_of_RefB (by kernel_rfl) (by kernel_rfl)) (by kernel_rfl) (by kernel_rfl) (by kernel_rfl) (door_met os _)) ?_
 intro W base args ds gs before hval hW _ hsz hL _
 refine law_contractG (G := G) (A := ANL) evokL laidOut (fn := Tryd.f6) (l := [35, 32, 33, 23, 36, 71, 83, 3, 5]) (by kernel_rfl) (ts := [35, 23]) (by rw [Tryd.params6]) (by kernel_rfl) (by kernel_rfl) (tb := 4) (by kernel_rfl) Tryd.underlying4 rfl (tab_laid hL) hval hW hsz (fun ds h => ?_) fun nx hl ht => ?_
 ·match ds, h with
  | [a, b], _ => exact ⟨rfl, rfl, rfl⟩
 ·match nx, hl with
  | [a, b], _ =>
   obtain ⟨wa, hia, hra, ha⟩ := world_of (ht 0 35 a rfl rfl)
   obtain ⟨lb, rb, _, nb, hb⟩ := ints_of (ht 1 23 b rfl rfl)
   refine ⟨[], ?_⟩
   have := colours6_ev (l := lb) hia
   show EL.F 6 [argA Tryd.prog 35 a.2, argA Tryd.prog 23 b.2] [] = _
   rw [hb]
   simp only [argA, Tryd.underlying23, Tryd.underlying35, List.getD_cons_zero]
   rw [ha]
   exact this
theorem col_holds : Rows.ColourColoursSaid :=
 OpenClaim.holds_of_wide 6 Tryd.f6 rfl rfl rfl rfl rfl rfl rfl ⟨rfl, rfl, rfl, rfl, rfl⟩ rfl rfl rfl rfl rfl (by kernel_rfl) Tryd.func6 (by kernel_rfl)
  (of_decide_eq_true (by kernel_rfl)) (by unfold Func.isWrapper; first | (rw [if_pos (by decide +kernel)]; kernel_rfl) | (rw [if_neg (by decide +kernel)]; exact ⟨rfl, rfl⟩))
  (fun os started H enc _ => col_lifted os started H enc)
theorem col_card : Rows.ColourColoursCardSaid :=
 Claim7.holds_tied_plain_at .later [] [.data] true (true, "3dc01f15a731540aeb3bad63498fda4938458450b3483f3d83b3da088dc41856") false
  col_holds (fun _ h => by cases h) (by kernel_rfl) (fun _ h => by cases h) colourColours_row_tie rfl ⟨rfl, rfl⟩ (by kernel_rfl) rfl
  (fun f fn hf hfn => by
   obtain rfl : f = 6 := Option.some.inj ((show Tryd.prog.funcNamed "hackamore/hackamorelaw23.ColourColours" = some 6 by kernel_rfl).symm.trans hf) |>.symm
   obtain rfl : fn = Tryd.f6 := (Option.some.inj (Tryd.func6.symm.trans hfn)).symm
   exact ⟨by kernel_rfl, fun j t ht => by
    rw [Tryd.params6] at ht
    have hm : t ∈ [35, 23] := by simpa using Array.mem_of_getElem? ht
    have hall : ([35, 23].all fun u => !Tryd.prog.wantsStandIn u) = true := by kernel_rfl
    exact (show Tryd.prog.wantsStandIn t = false by simpa using List.all_eq_true.1 hall t hm)⟩)
  (by kernel_rfl)
end Go.Proofs.YtikppcfabnnhfaaDoor

