/- ColourCloses: What Reach returns holds the roots and is closed under what reached bodies and entries name, and with one root more no less is reached; for worlds as the statement’s guard lets them in. The package's table math/bits.deBruijn64tab is as the program's text lays it. -/
import Derived.Test.YtikppcfabnnhfaaDoorC5
namespace Go.Proofs.YtikppcfabnnhfaaDoor
open Go Go.Aw
noncomputable def givL : FuncId → List AV → HL → Option ((AV × HL) × Prop) := fun f a l => if f = 24 then EP.F 24 a l else E.F f a l
noncomputable def ANL : Go.Aw.An := mkAn [12, 13, 15, 20, 23, 26, 27, 30, 32, 33, 38, 41, 42, 47, 48, 50, 54, 57, 58, 60, 61, 62, 67, 69, 71, 72, 75, 80, 81, 84, 85, 86, 87, 93] [28, 31, 36, 37, 53, 63, 64, 65, 66, 78, 82, 83] [19]
  [3, 4, 5, 6, 7, 8, 9, 10, 11, 16]
  [(3, 6, [0, 1, 2, 3, 4, 11, 12]), (4, 10, [1, 2, 4, 5, 7, 8]), (6, 27, [5, 6, 7, 10, 13, 15, 16, 17]), (6, 23, [4, 5, 6, 7, 10, 13, 15]), (6, 19, [5, 6, 7, 10, 13, 14]), (7, 25, [1, 3, 5, 6, 7, 9, 10, 11, 12]), (7, 21, [1, 2, 3, 5, 6, 7, 9, 10]), (7, 17, [1, 2, 3, 5, 6, 7, 9]), (7, 12, [1, 3, 5, 6, 7, 8]), (8, 24, [1, 2, 5, 7, 8, 11, 12, 13]), (8, 20, [1, 2, 4, 5, 7, 8, 11]), (8, 15, [1, 2, 4, 5, 7, 8, 10]), (9, 16, [2, 12, 13, 14]), (10, 20, [1, 2, 4, 5, 6, 7, 11, 12, 13]), (10, 16, [1, 2, 4, 5, 6, 7, 11]), (10, 10, [1, 2, 4, 5, 6, 7, 9]), (16, 8, [1, 2, 3, 5]), (16, 4, [1, 2, 3, 4])]
  [(3, 6, [(0, [], 2), (1, [], 1), (2, [], 1), (5, [], 2)]), (4, 10, [(0, [], 2), (4, [0], 1)]), (6, 27, [(3, [], 1)]), (6, 23, [(4, [], 1)]), (6, 19, [(3, [], 1)]), (7, 25, [(1, [], 1), (2, [], 2), (3, [], 1)]), (7, 21, [(2, [], 1), (3, [], 2), (4, [], 1)]), (7, 17, [(2, [], 1), (3, [], 2), (4, [], 1)]), (7, 12, [(1, [], 1), (2, [], 2), (3, [], 1)]), (8, 24, [(0, [], 2), (2, [], 1), (3, [], 1), (4, [], 1)]), (8, 20, [(0, [], 2), (3, [], 1), (4, [], 1), (5, [], 1)]), (8, 15, [(0, [], 2), (3, [], 1), (4, [], 1), (5, [], 1)]), (9, 16, [(1, [], 2), (2, [], 2)]), (10, 20, [(3, [], 1), (4, [], 1), (5, [], 1), (7, [], 2)]), (10, 16, [(3, [], 1), (4, [], 1), (5, [], 1)]), (10, 10, [(3, [], 1), (4, [], 1), (5, [], 1)])]
  []
  [(16, [(0, [0], 1), (0, [1], 3), (0, [2], 1)])]
  [15, 17, 18, 21, 22, 24, 25, 28, 29, 31, 34, 35, 36, 37, 39, 53, 63, 64, 65, 66, 83]
  [(3, 7, ([45, 1000000, 1000034, 1000012, 1000035, 1000034, 1000035, 1000036, 1000036, 1000037, 1000000, 1000039, 1000012, 1000040, 1000039, 1000040, 1000041, 1000041, 1000042], false, [], [some 33, some 34, some 35, some 36, some 37, some 39, some 40, some 41, some 42])), (4, 11, ([53, 1000007, 1000046, 1000002, 1000048, 1000008, 1000050, 1000049, 1000050, 1000051, 1000007, 1000055], false, [7], [some 46, some 48, some 50, some 51, some 55])), (5, 5, ([1000003, 1000059, 1000061, 1000056], false, [], [some 58, some 59, some 56])), (6, 4, ([], false, [], [])), (8, 16, ([], false, [], [])), (8, 25, ([], false, [], [])), (8, 26, ([], false, [], [])), (8, 29, ([1000002, 1000168, 1000169, 1000170, 1000172, 1000165], false, [], [some 167, some 168, some 170, some 165])), (9, 4, ([], false, [], [])), (9, 17, ([], false, [], [])), (10, 11, ([10], false, [10], [])), (10, 17, ([], false, [], [])), (10, 26, ([119, 129, 1000002, 1000120, 1000001, 1000123, 1000002, 1000125, 1000014, 1000131, 888888, 600129], false, [14], [some 120, some 123, some 125, some 131])), (16, 5, ([25, 1000003, 1000017, 1000001, 1000019, 1000004, 1000021, 1000020, 1000021, 1000022, 1000003, 1000027], false, [3], [some 17, some 19, some 21, some 22, some 27]))] [17, 21, 24, 29, 34, 40] [] givL
noncomputable abbrev EL : Sig := ev Tryd.prog G ANL
theorem ok3L : fchk Tryd.prog ANL 3 = true := by kernel_rfl
theorem ok4L : fchk Tryd.prog ANL 4 = true := by kernel_rfl
theorem ok5L : fchk Tryd.prog ANL 5 = true := by kernel_rfl
theorem ok6L : fchk Tryd.prog ANL 6 = true := by kernel_rfl
theorem ok7L : fchk Tryd.prog ANL 7 = true := by kernel_rfl
theorem ok8L : fchk Tryd.prog ANL 8 = true := by kernel_rfl
theorem ok9L : fchk Tryd.prog ANL 9 = true := by kernel_rfl
theorem ok10L : fchk Tryd.prog ANL 10 = true := by kernel_rfl
theorem ok11L : fchk Tryd.prog ANL 11 = true := by kernel_rfl
theorem ok16L : fchk Tryd.prog ANL 16 = true := by kernel_rfl
theorem evokL : EvOk Tryd.prog G ANL where
  chk f h := by
    have h : [3, 4, 5, 6, 7, 8, 9, 10, 11, 16].contains f = true := h
    have h := List.contains_iff_mem.1 h
    simp only [List.mem_cons, List.mem_nil_iff, or_false] at h
    rcases h with rfl | rfl | rfl | rfl | rfl | rfl | rfl | rfl | rfl | rfl
    · exact ok3L
    · exact ok4L
    · exact ok5L
    · exact ok6L
    · exact ok7L
    · exact ok8L
    · exact ok9L
    · exact ok10L
    · exact ok11L
    · exact ok16L
  pureG g := by
    by_cases h : g = 0
    · subst h; exact .inl (by kernel_rfl)
    · exact .inr (if_neg h)
  mixed := by kernel_rfl
  giv f a l r l' φ h hφ := by
    by_cases e : f = 24
    · subst e; exact ev_sound evokP h hφ
    · have h' : givL f a l = some ((r, l'), φ) := h
      rw [givL, if_neg e] at h'
      exact ev_sound evok h' hφ
theorem acpL : ∀ f k, ANL.cp f k = has2 f k [] := fun _ _ => rfl
set_option maxRecDepth 100000
theorem anf0L : (ANL.bor 3 = false) ∧ (ANL.pur 3 = false) ∧ (ANL.ro 3 = false) ∧ (ANL.frz 3 = false) ∧ (ANL.fra 3 = false) ∧ (ANL.res 3 = []) ∧ (ANL.bor 4 = false) ∧ (ANL.pur 4 = false) ∧ (ANL.ro 4 = false) ∧ (ANL.frz 4 = false) ∧ (ANL.fra 4 = false) ∧ (ANL.res 4 = []) ∧ (ANL.bor 5 = false) ∧ (ANL.pur 5 = false) ∧ (ANL.ro 5 = false) ∧ (ANL.frz 5 = false) ∧ (ANL.fra 5 = false) ∧ (ANL.res 5 = []) ∧ (ANL.bor 6 = false) ∧ (ANL.pur 6 = false) ∧ (ANL.ro 6 = false) ∧ (ANL.frz 6 = false) ∧ (ANL.fra 6 = false) ∧ (ANL.res 6 = []) ∧ (ANL.bor 7 = false) ∧ (ANL.pur 7 = false) ∧ (ANL.ro 7 = false) ∧ (ANL.frz 7 = false) ∧ (ANL.fra 7 = false) ∧ (ANL.res 7 = []) ∧ (ANL.bor 8 = false) ∧ (ANL.pur 8 = false) ∧ (ANL.ro 8 = false) ∧ (ANL.frz 8 = false) ∧ (ANL.fra 8 = false) ∧ (ANL.res 8 = []) ∧ (ANL.bor 9 = false) ∧ (ANL.pur 9 = false) ∧ (ANL.ro 9 = false) ∧ (ANL.frz 9 = false) ∧ (ANL.fra 9 = false) ∧ (ANL.res 9 = []) ∧ (ANL.bor 10 = false) ∧ (ANL.pur 10 = false) ∧ (ANL.ro 10 = false) ∧ (ANL.frz 10 = false) ∧ (ANL.fra 10 = false) ∧ (ANL.res 10 = []) ∧ (ANL.bor 11 = false) ∧ (ANL.pur 11 = false) ∧ (ANL.ro 11 = false) ∧ (ANL.frz 11 = false) ∧ (ANL.fra 11 = false) ∧ (ANL.res 11 = []) ∧ (ANL.bor 12 = true) ∧ (ANL.pur 12 = false) ∧ (ANL.ro 12 = false) ∧ (ANL.frz 12 = false) ∧ (ANL.fra 12 = false) ∧ (ANL.res 12 = []) ∧ (ANL.bor 13 = true) ∧ (ANL.pur 13 = false) ∧ (ANL.ro 13 = false) ∧ (ANL.frz 13 = false) ∧ (ANL.fra 13 = false) ∧ (ANL.res 13 = []) ∧ (ANL.bor 14 = false) ∧ (ANL.pur 14 = false) ∧ (ANL.ro 14 = false) ∧ (ANL.frz 14 = false) ∧ (ANL.fra 14 = false) ∧ (ANL.res 14 = []) ∧ (ANL.bor 15 = true) ∧ (ANL.pur 15 = false) ∧ (ANL.ro 15 = false) ∧ (ANL.frz 15 = true) ∧ (ANL.fra 15 = false) ∧ (ANL.res 15 = []) ∧ (ANL.bor 16 = false) ∧ (ANL.pur 16 = false) ∧ (ANL.ro 16 = false) ∧ (ANL.frz 16 = false) ∧ (ANL.fra 16 = false) ∧ (ANL.res 16 = [(0, [0], 1), (0, [1], 3), (0, [2], 1)]) ∧ (ANL.bor 17 = false) ∧ (ANL.pur 17 = false) ∧ (ANL.ro 17 = false) ∧ (ANL.frz 17 = true) ∧ (ANL.fra 17 = true) ∧ (ANL.res 17 = []) ∧ (ANL.bor 18 = false) ∧ (ANL.pur 18 = false) ∧ (ANL.ro 18 = false) ∧ (ANL.frz 18 = true) ∧ (ANL.fra 18 = false) ∧ (ANL.res 18 = []) ∧ (ANL.bor 19 = false) ∧ (ANL.pur 19 = false) ∧ (ANL.ro 19 = true) ∧ (ANL.frz 19 = false) ∧ (ANL.fra 19 = false) ∧ (ANL.res 19 = []) ∧ (ANL.bor 20 = true) ∧ (ANL.pur 20 = false) ∧ (ANL.ro 20 = false) ∧ (ANL.frz 20 = false) ∧ (ANL.fra 20 = false) ∧ (ANL.res 20 = []) ∧ (ANL.bor 21 = false) ∧ (ANL.pur 21 = false) ∧ (ANL.ro 21 = false) ∧ (ANL.frz 21 = true) ∧ (ANL.fra 21 = true) ∧ (ANL.res 21 = []) ∧ (ANL.bor 22 = false) ∧ (ANL.pur 22 = false) ∧ (ANL.ro 22 = false) ∧ (ANL.frz 22 = true) ∧ (ANL.fra 22 = false) ∧ (ANL.res 22 = []) ∧ (ANL.bor 24 = false) ∧ (ANL.pur 24 = false) ∧ (ANL.ro 24 = false) ∧ (ANL.frz 24 = true) ∧ (ANL.fra 24 = true) ∧ (ANL.res 24 = []) ∧ (ANL.bor 25 = false) ∧ (ANL.pur 25 = false) ∧ (ANL.ro 25 = false) ∧ (ANL.frz 25 = true) ∧ (ANL.fra 25 = false) ∧ (ANL.res 25 = []) ∧ (ANL.bor 26 = true) ∧ (ANL.pur 26 = false) ∧ (ANL.ro 26 = false) ∧ (ANL.frz 26 = false) ∧ (ANL.fra 26 = false) ∧ (ANL.res 26 = []) ∧ (ANL.bor 27 = true) ∧ (ANL.pur 27 = false) ∧ (ANL.ro 27 = false) ∧ (ANL.frz 27 = false) ∧ (ANL.fra 27 = false) ∧ (ANL.res 27 = []) ∧ (ANL.bor 28 = false) ∧ (ANL.pur 28 = true) ∧ (ANL.ro 28 = false) ∧ (ANL.frz 28 = true) ∧ (ANL.fra 28 = false) ∧ (ANL.res 28 = []) ∧ (ANL.bor 29 = false) ∧ (ANL.pur 29 = false) ∧ (ANL.ro 29 = false) ∧ (ANL.frz 29 = true) ∧ (ANL.fra 29 = true) ∧ (ANL.res 29 = []) ∧ (ANL.bor 31 = false) ∧ (ANL.pur 31 = true) ∧ (ANL.ro 31 = false) ∧ (ANL.frz 31 = true) ∧ (ANL.fra 31 = false) ∧ (ANL.res 31 = []) ∧ (ANL.bor 32 = true) ∧ (ANL.pur 32 = false) ∧ (ANL.ro 32 = false) ∧ (ANL.frz 32 = false) ∧ (ANL.fra 32 = false) ∧ (ANL.res 32 = []) ∧ (ANL.bor 33 = true) ∧ (ANL.pur 33 = false) ∧ (ANL.ro 33 = false) ∧ (ANL.frz 33 = false) ∧ (ANL.fra 33 = false) ∧ (ANL.res 33 = []) ∧ (ANL.bor 34 = false) ∧ (ANL.pur 34 = false) ∧ (ANL.ro 34 = false) ∧ (ANL.frz 34 = true) ∧ (ANL.fra 34 = true) ∧ (ANL.res 34 = []) ∧ (ANL.bor 36 = false) ∧ (ANL.pur 36 = true) ∧ (ANL.ro 36 = false) ∧ (ANL.frz 36 = true) ∧ (ANL.fra 36 = false) ∧ (ANL.res 36 = []) ∧ (ANL.bor 37 = false) ∧ (ANL.pur 37 = true) ∧ (ANL.ro 37 = false) ∧ (ANL.frz 37 = true) ∧ (ANL.fra 37 = false) ∧ (ANL.res 37 = []) ∧ (ANL.bor 38 = true) ∧ (ANL.pur 38 = false) ∧ (ANL.ro 38 = false) ∧ (ANL.frz 38 = false) ∧ (ANL.fra 38 = false) ∧ (ANL.res 38 = []) ∧ (ANL.bor 39 = false) ∧ (ANL.pur 39 = false) ∧ (ANL.ro 39 = false) ∧ (ANL.frz 39 = true) ∧ (ANL.fra 39 = false) ∧ (ANL.res 39 = []) ∧ (ANL.dr 3 7 = some ([45, 1000000, 1000034, 1000012, 1000035, 1000034, 1000035, 1000036, 1000036, 1000037, 1000000, 1000039, 1000012, 1000040, 1000039, 1000040, 1000041, 1000041, 1000042], false, [], [some 33, some 34, some 35, some 36, some 37, some 39, some 40, some 41, some 42])) ∧ (ANL.dr 4 11 = some ([53, 1000007, 1000046, 1000002, 1000048, 1000008, 1000050, 1000049, 1000050, 1000051, 1000007, 1000055], false, [7], [some 46, some 48, some 50, some 51, some 55])) ∧ (ANL.dr 5 5 = some ([1000003, 1000059, 1000061, 1000056], false, [], [some 58, some 59, some 56])) ∧ (ANL.dr 6 4 = some ([], false, [], [])) ∧ (ANL.dr 8 16 = some ([], false, [], [])) ∧ (ANL.dr 8 25 = some ([], false, [], [])) ∧ (ANL.dr 8 26 = some ([], false, [], [])) ∧ (ANL.dr 8 29 = some ([1000002, 1000168, 1000169, 1000170, 1000172, 1000165], false, [], [some 167, some 168, some 170, some 165])) ∧ (ANL.dr 9 4 = some ([], false, [], [])) ∧ (ANL.dr 9 17 = some ([], false, [], [])) ∧ (ANL.dr 10 11 = some ([10], false, [10], [])) ∧ (ANL.dr 10 17 = some ([], false, [], [])) ∧ (ANL.dr 10 26 = some ([119, 129, 1000002, 1000120, 1000001, 1000123, 1000002, 1000125, 1000014, 1000131, 888888, 600129], false, [14], [some 120, some 123, some 125, some 131])) ∧ (ANL.dr 16 5 = some ([25, 1000003, 1000017, 1000001, 1000019, 1000004, 1000021, 1000020, 1000021, 1000022, 1000003, 1000027], false, [3], [some 17, some 19, some 21, some 22, some 27])) ∧ (ANL.keep 3 6 = some [0, 1, 2, 3, 4, 11, 12]) ∧ (ANL.fix 3 6 = [(0, [], 2), (1, [], 1), (2, [], 1), (5, [], 2)]) ∧ (ANL.frl 3 6 = false) ∧ (ANL.keep 4 10 = some [1, 2, 4, 5, 7, 8]) ∧ (ANL.fix 4 10 = [(0, [], 2), (4, [0], 1)]) ∧ (ANL.frl 4 10 = false) ∧ (ANL.keep 6 27 = some [5, 6, 7, 10, 13, 15, 16, 17]) ∧ (ANL.fix 6 27 = [(3, [], 1)]) ∧ (ANL.frl 6 27 = false) ∧ (ANL.keep 6 23 = some [4, 5, 6, 7, 10, 13, 15]) ∧ (ANL.fix 6 23 = [(4, [], 1)]) ∧ (ANL.frl 6 23 = false) ∧ (ANL.keep 6 19 = some [5, 6, 7, 10, 13, 14]) ∧ (ANL.fix 6 19 = [(3, [], 1)]) ∧ (ANL.frl 6 19 = false) ∧ (ANL.keep 7 25 = some [1, 3, 5, 6, 7, 9, 10, 11, 12]) ∧ (ANL.fix 7 25 = [(1, [], 1), (2, [], 2), (3, [], 1)]) ∧ (ANL.frl 7 25 = false) ∧ (ANL.keep 7 21 = some [1, 2, 3, 5, 6, 7, 9, 10]) ∧ (ANL.fix 7 21 = [(2, [], 1), (3, [], 2), (4, [], 1)]) ∧ (ANL.frl 7 21 = false) ∧ (ANL.keep 7 17 = some [1, 2, 3, 5, 6, 7, 9]) ∧ (ANL.fix 7 17 = [(2, [], 1), (3, [], 2), (4, [], 1)]) ∧ (ANL.frl 7 17 = false) ∧ (ANL.keep 7 12 = some [1, 3, 5, 6, 7, 8]) ∧ (ANL.fix 7 12 = [(1, [], 1), (2, [], 2), (3, [], 1)]) ∧ (ANL.frl 7 12 = false) ∧ (ANL.keep 8 24 = some [1, 2, 5, 7, 8, 11, 12, 13]) ∧ (ANL.fix 8 24 = [(0, [], 2), (2, [], 1), (3, [], 1), (4, [], 1)]) ∧ (ANL.frl 8 24 = false) ∧ (ANL.keep 8 20 = some [1, 2, 4, 5, 7, 8, 11]) ∧ (ANL.fix 8 20 = [(0, [], 2), (3, [], 1), (4, [], 1), (5, [], 1)]) ∧ (ANL.frl 8 20 = false) ∧ (ANL.keep 8 15 = some [1, 2, 4, 5, 7, 8, 10]) ∧ (ANL.fix 8 15 = [(0, [], 2), (3, [], 1), (4, [], 1), (5, [], 1)]) ∧ (ANL.frl 8 15 = false) ∧ (ANL.keep 9 16 = some [2, 12, 13, 14]) ∧ (ANL.fix 9 16 = [(1, [], 2), (2, [], 2)]) ∧ (ANL.frl 9 16 = false) ∧ (ANL.keep 10 20 = some [1, 2, 4, 5, 6, 7, 11, 12, 13]) ∧ (ANL.fix 10 20 = [(3, [], 1), (4, [], 1), (5, [], 1), (7, [], 2)]) ∧ (ANL.frl 10 20 = false) ∧ (ANL.keep 10 16 = some [1, 2, 4, 5, 6, 7, 11]) ∧ (ANL.fix 10 16 = [(3, [], 1), (4, [], 1), (5, [], 1)]) ∧ (ANL.frl 10 16 = false) ∧ (ANL.keep 10 10 = some [1, 2, 4, 5, 6, 7, 9]) ∧ (ANL.fix 10 10 = [(3, [], 1), (4, [], 1), (5, [], 1)]) ∧ (ANL.frl 10 10 = false) ∧ (ANL.keep 16 8 = some [1, 2, 3, 5]) ∧ (ANL.fix 16 8 = []) ∧ (ANL.frl 16 8 = false) ∧ (ANL.keep 16 4 = some [1, 2, 3, 4]) ∧ (ANL.fix 16 4 = []) ∧ (ANL.frl 16 4 = false) := by and_intros <;> kernel_rfl
theorem anfL : type_of% @anf0L ∧ type_of% @acpL := ⟨@anf0L, @acpL⟩
variable (a v : List AV) (l : HL)
theorem l10_20L : type_of% (ev_lp ANL G 10 20 159 [1, 2, 4, 5, 6, 7, 11, 12, 13] (by kernel_rfl) Tryd.func10 rfl rfl rfl (by kernel_rfl) v l) :=
  ev_lp ANL G 10 20 159 [1, 2, 4, 5, 6, 7, 11, 12, 13] (by kernel_rfl) Tryd.func10 rfl rfl rfl (by kernel_rfl) v l
theorem l10_16L : type_of% (ev_lp ANL G 10 16 159 [1, 2, 4, 5, 6, 7, 11] (by kernel_rfl) Tryd.func10 rfl rfl rfl (by kernel_rfl) v l) :=
  ev_lp ANL G 10 16 159 [1, 2, 4, 5, 6, 7, 11] (by kernel_rfl) Tryd.func10 rfl rfl rfl (by kernel_rfl) v l
theorem l10_10L : type_of% (ev_lp ANL G 10 10 159 [1, 2, 4, 5, 6, 7, 9] (by kernel_rfl) Tryd.func10 rfl rfl rfl (by kernel_rfl) v l) :=
  ev_lp ANL G 10 10 159 [1, 2, 4, 5, 6, 7, 9] (by kernel_rfl) Tryd.func10 rfl rfl rfl (by kernel_rfl) v l
theorem e10L : type_of% (ev_fn ANL G 10 159 [.tmp 4] (by kernel_rfl) Tryd.func10 rfl rfl rfl a l) :=
  ev_fn ANL G 10 159 [.tmp 4] (by kernel_rfl) Tryd.func10 rfl rfl rfl a l
theorem e11L : type_of% (ev_fn ANL G 11 97 [.tmp 0] (by kernel_rfl) Tryd.func11 rfl rfl rfl a l) :=
  ev_fn ANL G 11 97 [.tmp 0] (by kernel_rfl) Tryd.func11 rfl rfl rfl a l
theorem gv12L : EL.F 12 a l = E.F 12 a l := ev_giv (by kernel_rfl) a l
theorem gv14L : EL.F 14 a l = E.F 14 a l := ev_giv (by kernel_rfl) a l
theorem gv15L : EL.F 15 a l = E.F 15 a l := ev_giv (by kernel_rfl) a l
theorem gv17L : EL.F 17 a l = E.F 17 a l := ev_giv (by kernel_rfl) a l
theorem gv20L : EL.F 20 a l = E.F 20 a l := ev_giv (by kernel_rfl) a l
theorem gv33L : EL.F 33 a l = E.F 33 a l := ev_giv (by kernel_rfl) a l
theorem gv34L : EL.F 34 a l = E.F 34 a l := ev_giv (by kernel_rfl) a l
theorem gv36L : EL.F 36 a l = E.F 36 a l := ev_giv (by kernel_rfl) a l
theorem gv38L : EL.F 38 a l = E.F 38 a l := ev_giv (by kernel_rfl) a l
theorem gv39L : EL.F 39 a l = E.F 39 a l := ev_giv (by kernel_rfl) a l
end Go.Proofs.YtikppcfabnnhfaaDoor

/- awake. -/
namespace Go.Proofs.YtikppcfabnnhfaaDoor
open Go Go.Aw
set_option linter.unusedSimpArgs false
set_option linter.unusedVariables false
set_option maxRecDepth 100000
set_option maxHeartbeats 40000000
theorem same_loop {a b : List Int} (hl : a.length = b.length) (hla : a.length ≤ 1000000) : ∀ (r m q p : List Int), a = m ++ r → b = p ++ q → m.length = p.length →
    ∃ e : Int, E.L 20 5 [.ro 1 (a.map (AV.int .i64)), .ro 1 (b.map (AV.int .i64)), .bool false, .int .i64 m.length] [] = some ((if r == q then .exit 0 else .ret, [.ro 1 (a.map (AV.int .i64)), .ro 1 (b.map (AV.int .i64)), .bool false, .int .i64 e], []), True) := by
  intro r
  induction r with
  | nil =>
    intro m q p h1 h2 h3
    have hq : q = [] := List.eq_nil_of_length_eq_zero (by have la := congrArg List.length h1; have lb := congrArg List.length h2; rw [List.length_append] at la lb; simp only [List.length_nil] at la; omega)
    subst hq
    have hn : m.length = a.length := by rw [h1]; simp
    refine ⟨a.length, ?_⟩
    have qq : ((a.length : Int) < a.length) = False := eq_false (by omega)
    rw [hn, l20_5]
    simp (maxSteps := 100000000) only [ivc, anf, vlen, vbuiltin, nilR, eq_self, Nat.reduceEqDiff, Nat.reduceLT, Nat.reduceAdd, Nat.reduceBEq, reduceCtorEq, ↓reduceIte, tyb, qq]
  | cons x r ih =>
    intro m q p h1 h2 h3
    have la := congrArg List.length h1
    have lb := congrArg List.length h2
    match q with
    | [] => simp at la lb; omega
    | y :: q =>
      simp only [List.length_append, List.length_cons] at la lb
      have hi' : (m.length : Int) < a.length := by omega
      have ga := getD_map (f := AV.int .i64) (show a[m.length]? = some x by rw [h1]; simp)
      have gb := getD_map (f := AV.int .i64) (show b[m.length]? = some y by rw [h2, h3]; simp)
      have hw : IntKind.i64.wrap ((m.length : Int) + 1) = m.length + 1 := wrap_id (by omega) (by omega)
      have c1 : (0 ≤ (m.length : Int) ∧ (m.length : Int) < a.length) = True := eq_true (by omega)
      have c2 : (0 ≤ (m.length : Int) ∧ (m.length : Int) < b.length) = True := eq_true (by omega)
      by_cases hx : x = y
      · have hx' : (x != y) = false := by rw [hx]; simp
        have hb : ((x :: r) == (y :: q)) = (r == q) := by simp [hx]
        obtain ⟨e, ih'⟩ := ih (m ++ [x]) q (p ++ [y]) (by simp [h1]) (by simp [h2]) (by simp [h3])
        refine ⟨e, ?_⟩
        simp only [List.length_append, List.length_cons, List.length_nil, Nat.zero_add, Int.natCast_add, Int.cast_ofNat_Int] at ih'
        rw [hb, l20_5]
        simp (maxSteps := 100000000) only [ivc, anf, vlen, vbuiltin, nilR, eq_self, Nat.reduceEqDiff, Nat.reduceLT, Nat.reduceAdd, Nat.reduceBEq, reduceCtorEq, ↓reduceIte, tyb, hi', ga, gb, hw, c2, hx', ih']
        exact some_true (by omega)
      · have hx' : (x != y) = true := bne_iff_ne.2 hx
        have hb : ((x :: r) == (y :: q)) = false := by simp [hx]
        refine ⟨m.length, ?_⟩
        rw [hb, l20_5]
        simp (maxSteps := 100000000) only [ivc, anf, vlen, vbuiltin, nilR, eq_self, Nat.reduceEqDiff, Nat.reduceLT, Nat.reduceAdd, Nat.reduceBEq, reduceCtorEq, ↓reduceIte, tyb, hi', ga, gb, c2, hx']
        exact some_true (by omega)
theorem same_ev {a b : List Int} (hla : a.length ≤ 1000000) : E.F 20 [.ro 1 (a.map (AV.int .i64)), .ro 1 (b.map (AV.int .i64))] [] = some ((.bool (a == b), []), True) := by
  rw [e20]
  by_cases h : a.length = b.length
  · have hb : ((a.length : Int) != b.length) = false := by rw [h]; simp
    obtain ⟨e, lp⟩ := same_loop h hla a [] b [] rfl rfl rfl
    simp only [List.length_nil, Int.natCast_zero] at lp
    by_cases hab : (a == b) = true
    · rw [hab]
      simp only [hab, if_true] at lp
      simp (maxSteps := 100000000) only [ivc, anf, vlen, vbuiltin, nilR, eq_self, Nat.reduceEqDiff, Nat.reduceLT, Nat.reduceLeDiff, Nat.reduceAdd, Nat.reduceBEq, reduceCtorEq, ↓reduceIte, tyb, hb, lp]
    · have hab' : (a == b) = false := by simpa using hab
      rw [hab']
      simp only [hab', Bool.false_eq_true, if_false] at lp
      simp (maxSteps := 100000000) only [ivc, anf, vlen, vbuiltin, nilR, eq_self, Nat.reduceEqDiff, Nat.reduceLT, Nat.reduceLeDiff, Nat.reduceAdd, Nat.reduceBEq, reduceCtorEq, ↓reduceIte, tyb, hb, lp]
  · have hb : ((a.length : Int) != b.length) = true := by simp; omega
    have hab' : (a == b) = false := by
      cases hh : a == b with
      | false => rfl
      | true => exact absurd (congrArg List.length (eq_of_beq hh)) h
    rw [hab']
    simp (maxSteps := 100000000) only [ivc, anf, vlen, vbuiltin, nilR, eq_self, Nat.reduceEqDiff, Nat.reduceLT, Nat.reduceLeDiff, Nat.reduceAdd, Nat.reduceBEq, reduceCtorEq, ↓reduceIte, tyb, hb]
theorem ex_ev : E.F 39 [] [] = some ((wdV exW, []), True) := by
  rw [e39]
  simp (maxSteps := 100000000) only [ivc, anf, vop, salloc, eq_self, Nat.reduceEqDiff, Nat.reduceLT, Nat.reduceLeDiff, Nat.reduceAdd, Nat.reduceMul, Nat.reduceBEq, Int.reduceLE, Int.reduceToNat, Int.reduceMul, reduceCtorEq, ↓reduceIte, tyb, exW, wdV, clV, enV, bdV]
theorem gv24L (a : List AV) (l : HL) : EL.F 24 a l = EP.F 24 a l := ev_giv (A := ANL) (by kernel_rfl) a l
theorem awake_ev : EL.F 11 [] [] = some ((.bool true, []), True) := by
  have a1 := ex_ev
  have a2 := conf_ev (w := exW) okW_of
  rw [if_pos ex_ck, ex_conf] at a2
  have a3 := least15_ev (w := exW) okW_of
  rw [if_pos ex_ck, ex_cnt, if_neg (by decide), ex_least] at a3
  have a4 := pack_ev (w := exW) (cs := [0, 1, 0]) okW_of (fun _ _ => ex_hasC)
  rw [if_pos ex_ck, if_pos ex_cc, ex_pack] at a4
  have a5 := grow_ev (w := exW) (cs := [0, 1, 0]) (cl := exC) (by decide) ex_ck (okW_of ex_ck) ex_cc ex_ck2 (okW_of ex_ck2) (by rw [ex_sz2]; decide) (by decide) (by rw [ex_sz2]; decide) ex_grow
  have s1 := same_ev (a := [0, 2]) (b := [0, 2]) (by decide)
  have s2 := same_ev (a := [0, 1, 2]) (b := [0, 1, 2]) (by decide)
  have s3 := same_ev (a := [2]) (b := [2]) (by decide)
  have s4 := look_ev (v := [⟨0, 0⟩, ⟨1, 1⟩, ⟨2, 3⟩, ⟨1, 2⟩]) (offs := [0, 2]) (l := [0, 1, 0]) (c := 1) (s := 2) (by decide) (by unfold i64r; decide) (by unfold i64r; decide)
  rw [show lookM [⟨0, 0⟩, ⟨1, 1⟩, ⟨2, 3⟩, ⟨1, 2⟩] [0, 2] [0, 1, 0] 1 2 = 3 from by kernel_rfl] at s4
  simp only [exW, exC, wdV, clV, enV, bdV, pV, List.map_cons, List.map_nil, beq_self_eq_true] at a1 a2 a3 a4 a5 s1 s2 s3 s4
  rw [e11L]
  simp (maxSteps := 100000000) only [ivc, vop, vlen, vbuiltin, nilR, salloc, eq_self, Nat.reduceEqDiff, Nat.reduceLT, Nat.reduceLeDiff, Nat.reduceAdd, Nat.reduceMul, Nat.reduceBEq, Int.reduceLT, Int.reduceLE, Int.reduceToNat, reduceCtorEq, ↓reduceIte, anfL, gv39L, gv36L, gv15L, gv24L, gv17L, gv20L, gv12L, tyb, a1, a2, a3, a4, a5, s1, s2, s3, s4]
end Go.Proofs.YtikppcfabnnhfaaDoor

/- ColourFinds: the walk. -/
namespace Go.Proofs.YtikppcfabnnhfaaDoor
open Go Go.Aw
set_option linter.unusedSimpArgs false
set_option linter.unusedVariables false
set_option maxRecDepth 100000
set_option maxHeartbeats 40000000
def iV (l : List Int) : AV := .ro 1 (l.map (AV.int .i64))
end Go.Proofs.YtikppcfabnnhfaaDoor

/- ColourCloses: the walk. -/
namespace Go.Proofs.YtikppcfabnnhfaaDoor
open Go Go.Aw
set_option linter.unusedSimpArgs false
set_option linter.unusedVariables false
set_option maxRecDepth 100000
set_option maxHeartbeats 40000000
theorem wi_loop {a b : List Int} (ha : a.length ≤ 1000000) (hb : b.length ≤ 1000000) (h : ∀ x ∈ a, x ∈ b) : ∀ (r m : List Int), a = m ++ r →
    E.L 38 3 [.ro 1 (a.map (AV.int .i64)), .ro 1 (b.map (AV.int .i64)), .bool false, .int .i64 m.length] [] = some ((.exit 0, [.ro 1 (a.map (AV.int .i64)), .ro 1 (b.map (AV.int .i64)), .bool false, .int .i64 a.length], []), True) := by
  intro r
  induction r with
  | nil =>
    intro m hm
    rw [List.append_nil] at hm
    subst hm
    have q : ((a.length : Int) < a.length) = False := eq_false (by omega)
    rw [l38_3]
    simp (maxSteps := 100000000) only [ivc, anf, vlen, vbuiltin, nilR, eq_self, Nat.reduceEqDiff, Nat.reduceLT, Nat.reduceAdd, Nat.reduceBEq, reduceCtorEq, ↓reduceIte, tyb, q]
  | cons x r ih =>
    intro m hm
    have hn : m.length + (r.length + 1) = a.length := by rw [hm]; simp
    have hi' : (m.length : Int) < a.length := by omega
    have hg := getD_map (f := AV.int .i64) (show a[m.length]? = some x by rw [hm]; simp)
    have hw : IntKind.i64.wrap ((m.length : Int) + 1) = m.length + 1 := wrap_id (by omega) (by omega)
    have hc : (0 ≤ (m.length : Int) ∧ (m.length : Int) < a.length) = True := eq_true (by omega)
    have hv := has33_ev (l := b) (x := x) hb
    rw [List.contains_iff_mem.2 (h x (by rw [hm]; simp))] at hv
    have ih' := ih (m ++ [x]) (by simp [hm])
    simp only [List.length_append, List.length_cons, List.length_nil, Nat.zero_add, Int.natCast_add, Int.cast_ofNat_Int] at ih'
    rw [l38_3]
    simp (maxSteps := 100000000) only [ivc, anf, vop, vlen, vbuiltin, nilR, eq_self, Nat.reduceEqDiff, Nat.reduceLT, Nat.reduceAdd, Nat.reduceBEq, reduceCtorEq, ↓reduceIte, tyb, hi', hg, hw, hv, ih']
    exact some_true (by omega)
theorem within_ok {a b : List Int} (ha : a.length ≤ 1000000) (hb : b.length ≤ 1000000) (h : ∀ x ∈ a, x ∈ b) : E.F 38 [.ro 1 (a.map (AV.int .i64)), .ro 1 (b.map (AV.int .i64))] [] = some ((.bool true, []), True) := by
  have lp := wi_loop ha hb h a [] rfl
  simp only [List.length_nil, Int.natCast_zero] at lp
  rw [e38]
  simp (maxSteps := 100000000) only [ivc, anf, eq_self, Nat.reduceEqDiff, Nat.reduceLT, Nat.reduceLeDiff, Nat.reduceAdd, Nat.reduceBEq, reduceCtorEq, ↓reduceIte, lp]
end Go.Proofs.YtikppcfabnnhfaaDoor

/- ColourCloses: the loops. -/
namespace Go.Proofs.YtikppcfabnnhfaaDoor
open Go Go.Aw
set_option linter.unusedSimpArgs false
set_option linter.unusedVariables false
set_option maxRecDepth 100000
set_option maxHeartbeats 40000000
theorem cl10_loop {w : Wd} {n : Int} {M C S : List Int} (hM : M.length ≤ 1000000) (hC : C.length ≤ 1000000) (hS : S.length ≤ 1000000) (hb : w.bodies.length ≤ 1000)
    (hr : ∀ q ∈ M, 0 ≤ q ∧ q < w.bodies.length) (hz : ∀ q ∈ M, (bdAt w q).ss.length ≤ 1000 ∧ (bdAt w q).ms.length ≤ 1000 ∧ (bdAt w q).cs.length ≤ 1000)
    (h1 : ∀ q ∈ M, ∀ x ∈ (bdAt w q).ms, x ∈ M) (h2 : ∀ q ∈ M, ∀ x ∈ (bdAt w q).cs, x ∈ C) (h3 : ∀ q ∈ M, ∀ x ∈ (bdAt w q).ss, x ∈ S) : ∀ (r m : List Int), M = m ++ r →
    EL.L 10 10 [.int .u8 n, .ptr 60000 0 0, .bool false, iV M, iV C, iV S, .int .i64 m.length] (wO w) = some ((.exit 0, [.int .u8 n, .ptr 60000 0 0, .bool false, iV M, iV C, iV S, .int .i64 M.length], wO w), True) := by
  intro r
  induction r with
  | nil =>
    intro m h
    rw [List.append_nil] at h
    subst h
    have q : ((M.length : Int) < M.length) = False := eq_false (by omega)
    rw [l10_10L]
    simp (maxSteps := 100000000) only [ivc, vlen, vbuiltin, nilR, eq_self, Nat.reduceEqDiff, Nat.reduceLT, Nat.reduceLeDiff, Nat.reduceAdd, reduceCtorEq, ↓reduceIte, anfL, tyb, iV, wO, wdV, q]
  | cons x r ih =>
    intro m h
    have hx : x ∈ M := by rw [h]; simp
    have hn : m.length + (r.length + 1) = M.length := by rw [h]; simp
    have hi' : (m.length : Int) < M.length := by omega
    have hg := getD_map (f := AV.int .i64) (show M[m.length]? = some x by rw [h]; simp)
    have hw : IntKind.i64.wrap ((m.length : Int) + 1) = m.length + 1 := wrap_id (by omega) (by omega)
    have hc : (0 ≤ (m.length : Int) ∧ (m.length : Int) < M.length) = True := eq_true (by omega)
    obtain ⟨x0, x1⟩ := hr x hx
    have hc2 : (0 ≤ x ∧ x < w.bodies.length) = True := eq_true ⟨x0, x1⟩
    have hbx : w.bodies[x.toNat]? = some (bdAt w x) := by
      unfold bdAt
      rw [List.getD_eq_getElem?_getD, List.getElem?_eq_getElem (by omega)]
      rfl
    have hg2 := getD_map (f := bdV) hbx
    obtain ⟨z1, z2, z3⟩ := hz x hx
    have v1 := within_ok (a := (bdAt w x).ms) (b := M) (by omega) hM (h1 x hx)
    have v2 := within_ok (a := (bdAt w x).cs) (b := C) (by omega) hC (h2 x hx)
    have v3 := within_ok (a := (bdAt w x).ss) (b := S) (by omega) hS (h3 x hx)
    have ih' := ih (m ++ [x]) (by simp [h])
    simp only [List.length_append, List.length_cons, List.length_nil, Nat.zero_add, Int.natCast_add, Int.cast_ofNat_Int, iV, wO, wdV] at ih'
    rw [l10_10L]
    simp (maxSteps := 100000000) only [ivc, vop, vlen, vbuiltin, nilR, salloc, eq_self, Nat.reduceEqDiff, Nat.reduceLT, Nat.reduceLeDiff, Nat.reduceAdd, Nat.reduceBEq, reduceCtorEq, ↓reduceIte, anfL, gv38L, tyb, iV, wO, wdV, bdV, hi', hg, hg2, hw, hc2, v1, v2, v3, ih']
    exact some_true (by omega)
theorem cl20_loop {w : Wd} {n i : Int} {M C S : List Int} {c : List Et} (hM : M.length ≤ 1000000) (hS : S.length ≤ 1000000) (hc : c.length ≤ 1000000) (h1 : ∀ e ∈ c, e.s ∈ S → e.m ∈ M) : ∀ (r m : List Et), c = m ++ r →
    EL.L 10 20 [.int .u8 n, .ptr 60000 0 0, .bool false, iV M, iV C, iV S, .int .i64 i, clV c, .int .i64 m.length] (wO w) = some ((.exit 4, [.int .u8 n, .ptr 60000 0 0, .bool false, iV M, iV C, iV S, .int .i64 i, clV c, .int .i64 c.length], wO w), True) := by
  intro r
  induction r with
  | nil =>
    intro m h
    rw [List.append_nil] at h
    subst h
    have q : ((c.length : Int) < c.length) = False := eq_false (by omega)
    rw [l10_20L]
    simp (maxSteps := 100000000) only [ivc, vlen, vbuiltin, nilR, eq_self, Nat.reduceEqDiff, Nat.reduceLT, Nat.reduceLeDiff, Nat.reduceAdd, reduceCtorEq, ↓reduceIte, anfL, tyb, iV, clV, wO, wdV, q]
  | cons x r ih =>
    intro m h
    have hx : x ∈ c := by rw [h]; simp
    have hn : m.length + (r.length + 1) = c.length := by rw [h]; simp
    have hi' : (m.length : Int) < c.length := by omega
    have hg := getD_map (f := enV) (show c[m.length]? = some x by rw [h]; simp)
    have hw : IntKind.i64.wrap ((m.length : Int) + 1) = m.length + 1 := wrap_id (by omega) (by omega)
    have hc1 : (0 ≤ (m.length : Int) ∧ (m.length : Int) < c.length) = True := eq_true (by omega)
    have v1 := has33_ev (l := S) (x := x.s) hS
    have v2 := has33_ev (l := M) (x := x.m) hM
    have ih' := ih (m ++ [x]) (by simp [h])
    simp only [List.length_append, List.length_cons, List.length_nil, Nat.zero_add, Int.natCast_add, Int.cast_ofNat_Int, iV, clV, wO, wdV] at ih'
    rw [l10_20L]
    cases b1 : S.contains x.s with
    | false =>
      rw [b1] at v1
      simp (maxSteps := 100000000) only [ivc, vop, vlen, vbuiltin, nilR, eq_self, Nat.reduceEqDiff, Nat.reduceLT, Nat.reduceLeDiff, Nat.reduceAdd, reduceCtorEq, ↓reduceIte, anfL, gv33L, tyb, iV, clV, wO, wdV, enV, hi', hg, hw, v1, ih']
      exact some_true (by omega)
    | true =>
      rw [b1] at v1
      rw [List.contains_iff_mem.2 (h1 x hx (List.contains_iff_mem.1 b1))] at v2
      simp (maxSteps := 100000000) only [ivc, vop, vlen, vbuiltin, nilR, eq_self, Nat.reduceEqDiff, Nat.reduceLT, Nat.reduceLeDiff, Nat.reduceAdd, reduceCtorEq, ↓reduceIte, anfL, gv33L, tyb, iV, clV, wO, wdV, enV, hi', hg, hw, v1, v2, ih']
      exact some_true (by omega)
theorem cl16_loop {w : Wd} {n : Int} {M C S : List Int} (hM : M.length ≤ 1000000) (hC : C.length ≤ 1000000) (hS : S.length ≤ 1000000) (hcl : w.classes.length ≤ 1000) (hr : ∀ k ∈ C, 0 ≤ k ∧ k < w.classes.length) (hz : ∀ k ∈ C, (clAt w k).length ≤ 1000)
    (h1 : ∀ k ∈ C, ∀ e ∈ clAt w k, e.s ∈ S → e.m ∈ M) : ∀ (r m : List Int), C = m ++ r →
    EL.L 10 16 [.int .u8 n, .ptr 60000 0 0, .bool false, iV M, iV C, iV S, .int .i64 m.length] (wO w) = some ((.exit 2, [.int .u8 n, .ptr 60000 0 0, .bool false, iV M, iV C, iV S, .int .i64 C.length], wO w), True) := by
  intro r
  induction r with
  | nil =>
    intro m h
    rw [List.append_nil] at h
    subst h
    have q : ((C.length : Int) < C.length) = False := eq_false (by omega)
    rw [l10_16L]
    simp (maxSteps := 100000000) only [ivc, vlen, vbuiltin, nilR, eq_self, Nat.reduceEqDiff, Nat.reduceLT, Nat.reduceLeDiff, Nat.reduceAdd, reduceCtorEq, ↓reduceIte, anfL, tyb, iV, wO, wdV, q]
  | cons x r ih =>
    intro m h
    have hx : x ∈ C := by rw [h]; simp
    have hn : m.length + (r.length + 1) = C.length := by rw [h]; simp
    have hi' : (m.length : Int) < C.length := by omega
    have hg := getD_map (f := AV.int .i64) (show C[m.length]? = some x by rw [h]; simp)
    have hw : IntKind.i64.wrap ((m.length : Int) + 1) = m.length + 1 := wrap_id (by omega) (by omega)
    have hc : (0 ≤ (m.length : Int) ∧ (m.length : Int) < C.length) = True := eq_true (by omega)
    obtain ⟨x0, x1⟩ := hr x hx
    have hc2 : (0 ≤ x ∧ x < w.classes.length) = True := eq_true ⟨x0, x1⟩
    have hbx : w.classes[x.toNat]? = some (clAt w x) := by
      unfold clAt
      rw [List.getD_eq_getElem?_getD, List.getElem?_eq_getElem (by omega)]
      rfl
    have hg2 := getD_map (f := clV) hbx
    have lp := cl20_loop (w := w) (n := n) (i := m.length) (C := C) (c := clAt w x) hM hS (by have := hz x hx; omega) (h1 x hx) (clAt w x) [] rfl
    have ih' := ih (m ++ [x]) (by simp [h])
    simp only [List.length_append, List.length_cons, List.length_nil, Nat.zero_add, Int.natCast_add, Int.cast_ofNat_Int, iV, clV, wO, wdV] at ih' lp
    rw [l10_16L]
    simp (maxSteps := 100000000) only [ivc, vop, vlen, vbuiltin, nilR, eq_self, Nat.reduceEqDiff, Nat.reduceLT, Nat.reduceLeDiff, Nat.reduceAdd, reduceCtorEq, ↓reduceIte, anfL, tyb, iV, clV, wO, wdV, hi', hg, hg2, hw, hc2, lp, ih']
    exact some_true (by omega)
end Go.Proofs.YtikppcfabnnhfaaDoor

/- ColourCloses: all. -/
namespace Go.Proofs.YtikppcfabnnhfaaDoor
open Go Go.Aw
set_option linter.unusedSimpArgs false
set_option linter.unusedVariables false
set_option maxRecDepth 100000
set_option maxHeartbeats 40000000
def rootW (w : Wd) (x : Int) : Wd := ⟨w.classes, w.bodies, w.roots ++ [x]⟩
theorem ck_root {w : Wd} {x : Int} (h : ckM w = 0) (hr : w.roots.length ≤ 9) (h0 : 0 ≤ x) (h1 : x < w.bodies.length) : ckM (rootW w x) = 0 := by
  have g := good_of h
  have gn := g.nc
  have gb := g.nb
  have hx : inR w.bodies.length x = true := by simp only [inR, Bool.not_eq_true', Bool.or_eq_false_iff, decide_eq_false_iff_not]; omega
  have n1 : ¬ ((200 : Int) < w.classes.length ∨ (500 : Int) < w.bodies.length ∨ (64 : Int) < w.roots.length) := by have := g.nr; omega
  have n2 : ¬ ((200 : Int) < w.classes.length ∨ (500 : Int) < w.bodies.length ∨ (64 : Int) < (w.roots ++ [x]).length) := by simp only [List.length_append, List.length_cons, List.length_nil]; omega
  have n3 : (w.roots ++ [x]).all (inR w.bodies.length) = w.roots.all (inR w.bodies.length) := by
    rw [List.all_append, List.all_cons, List.all_nil, hx, Bool.and_true, Bool.and_true]
  unfold ckM at h
  rw [if_neg n1] at h
  show (if (200 : Int) < w.classes.length ∨ (500 : Int) < w.bodies.length ∨ (64 : Int) < (w.roots ++ [x]).length then (4 : Int) else if w.classes.any bigC then 4 else if w.bodies.any bigB then 4
    else if ckCs w.bodies.length w.classes ≠ 0 then ckCs w.bodies.length w.classes
    else if w.bodies.any (badB w.bodies.length w.classes.length) then 3
    else if (w.roots ++ [x]).all (inR w.bodies.length) then 0 else 3) = 0
  rw [if_neg n2, n3]
  exact h
theorem closes_ev {w : Wd} {n : Int} (hw : inpW w) (hn : 0 ≤ n ∧ n < 256) : EL.F 10 [wdV w, .int .u8 n] [] = some ((.bool true, []), True) := by
  have aw := awake_ev
  have sm := small_ev hw
  rw [e10L]
  cases hs : smallM w with
  | false =>
    rw [hs] at sm
    simp only [wdV] at sm
    simp (maxSteps := 100000000) only [ivc, vop, salloc, eq_self, Nat.reduceEqDiff, Nat.reduceLT, Nat.reduceLeDiff, Nat.reduceAdd, Nat.reduceMul, reduceCtorEq, ↓reduceIte, anfL, gv14L, tyb, wdV, sm, aw]
  | true =>
  rw [hs] at sm
  have l1 := reach_ev (w := w)
  by_cases c1 : ckM w ≠ 0
  · rw [if_neg c1] at l1
    have c1' : (ckM w != 0) = true := bne_iff_ne.2 c1
    generalize ckM w = er at l1 c1'
    simp only [wdV] at sm l1
    simp (maxSteps := 100000000) only [ivc, vop, nilR, salloc, eq_self, Nat.reduceEqDiff, Nat.reduceLT, Nat.reduceLeDiff, Nat.reduceAdd, Nat.reduceMul, reduceCtorEq, ↓reduceIte, anfL, gv14L, gv34L, tyb, wdV, sm, l1, c1', aw]
  have c1 : ckM w = 0 := Classical.not_not.1 c1
  rw [if_pos c1] at l1
  have g := good_of c1
  have gn := g.nc
  have gb := g.nb
  have gr := g.nr
  have K := rea_clo g
  have hM : (rM w).length ≤ 1000000 := by
    have h1 := lsM_len (l := (reaM w).z.M) (n := 0)
    have h2 := (rea_inv g).ok.m
    unfold rM
    omega
  have hC : (rC w).length ≤ 1000000 := by
    have h1 := lsM_len (l := (reaM w).C) (n := 0)
    have h2 := (rea_inv g).ok.c
    unfold rC
    omega
  have hS : (rS w).length ≤ 1000000 := by
    have h1 := lsM_len (l := (reaM w).S) (n := 0)
    have h2 := (rea_inv g).ok.s
    unfold rS
    omega
  have v0 := within_ok (a := w.roots) (b := rM w) (by omega) hM K.root
  have bat : ∀ q : Int, 0 ≤ q → q < w.bodies.length → bdAt w q ∈ w.bodies := fun q h0 h1 => by
    unfold bdAt
    rw [List.getD_eq_getElem?_getD, List.getElem?_eq_getElem (by omega)]
    exact List.getElem_mem _
  have cat : ∀ q : Int, 0 ≤ q → q < w.classes.length → clAt w q ∈ w.classes := fun q h0 h1 => by
    unfold clAt
    rw [List.getD_eq_getElem?_getD, List.getElem?_eq_getElem (by omega)]
    exact List.getElem_mem _
  have lp1 := cl10_loop (w := w) (n := n) (M := rM w) (C := rC w) (S := rS w) hM hC hS (by omega) (fun q hq => rM_rng g hq) (fun q hq => by
    obtain ⟨a, b⟩ := rM_rng g hq
    obtain ⟨z1, z2, z3⟩ := g.bl _ (bat q a b)
    omega) (fun q hq => (rM_rng g hq).elim fun a b => K.bm q hq a b) (fun q hq => (rM_rng g hq).elim fun a b => K.bc q hq a b) (fun q hq => (rM_rng g hq).elim fun a b => K.bs q hq a b) (rM w) [] rfl
  have lp2 := cl16_loop (w := w) (n := n) (M := rM w) (C := rC w) (S := rS w) hM hC hS (by omega) (fun q hq => rC_rng g hq) (fun q hq => by
    obtain ⟨a, b⟩ := rC_rng g hq
    have := g.len _ (cat q a b)
    omega) (fun k hk e he hse => rea_en g hk he hse) (rC w) [] rfl
  simp only [wdV, iV, wO, List.length_nil, Int.natCast_zero] at sm l1 v0 lp1 lp2
  rw [show lsM (reaM w).z.M 0 = rM w from rfl, show lsM (reaM w).C 0 = rC w from rfl, show lsM (reaM w).S 0 = rS w from rfl] at l1
  by_cases b0 : (w.bodies.length : Int) = 0
  · have b0' : ((w.bodies.length : Int) == 0) = true := beq_iff_eq.2 b0
    simp (maxSteps := 100000000) only [ivc, vop, vlen, vbuiltin, nilR, salloc, eq_self, Nat.reduceEqDiff, Nat.reduceLT, Nat.reduceLeDiff, Nat.reduceAdd, Nat.reduceMul, Int.reduceLT, reduceCtorEq, ↓reduceIte, anfL, gv14L, gv34L, gv38L, tyb, wdV, sm, l1, v0, lp1, lp2, b0', aw]
    try exact some_true (by omega)
  have b0' : ((w.bodies.length : Int) == 0) = false := beq_eq_false_iff_ne.2 b0
  by_cases b1 : (9 : Int) < w.roots.length
  · simp (maxSteps := 100000000) only [ivc, vop, vlen, vbuiltin, nilR, salloc, eq_self, Nat.reduceEqDiff, Nat.reduceLT, Nat.reduceLeDiff, Nat.reduceAdd, Nat.reduceMul, reduceCtorEq, ↓reduceIte, anfL, gv14L, gv34L, gv38L, tyb, wdV, sm, l1, v0, lp1, lp2, b0', b1, aw]
    try exact some_true (by omega)
  have x0 : 0 ≤ n.tmod w.bodies.length := Int.tmod_nonneg _ hn.1
  have x1 : n.tmod w.bodies.length < w.bodies.length := Int.tmod_lt_of_pos _ (by omega)
  have c2 := ck_root (x := n.tmod w.bodies.length) c1 (by omega) x0 x1
  have gv := good_of c2
  have l2 := reach_ev (w := rootW w (n.tmod w.bodies.length))
  rw [if_pos c2] at l2
  obtain ⟨m1, m2, m3⟩ := rea_mono (v := rootW w (n.tmod w.bodies.length)) g gv rfl rfl (fun x hx => List.mem_append_left _ hx)
  have hM2 : (rM (rootW w (n.tmod w.bodies.length))).length ≤ 1000000 := by
    have h1 := lsM_len (l := (reaM (rootW w (n.tmod w.bodies.length))).z.M) (n := 0)
    have h2 := (rea_inv gv).ok.m
    have h3 := gv.nb
    have h4 := gv.nc
    unfold rM
    omega
  have hC2 : (rC (rootW w (n.tmod w.bodies.length))).length ≤ 1000000 := by
    have h1 := lsM_len (l := (reaM (rootW w (n.tmod w.bodies.length))).C) (n := 0)
    have h2 := (rea_inv gv).ok.c
    have h3 := gv.nb
    have h4 := gv.nc
    unfold rC
    omega
  have hS2 : (rS (rootW w (n.tmod w.bodies.length))).length ≤ 1000000 := by
    have h1 := lsM_len (l := (reaM (rootW w (n.tmod w.bodies.length))).S) (n := 0)
    have h2 := (rea_inv gv).ok.s
    have h3 := gv.nb
    have h4 := gv.nc
    unfold rS
    omega
  have u1 := within_ok hM hM2 m1
  have u2 := within_ok hC hC2 m2
  have u3 := within_ok hS hS2 m3
  have wn : IntKind.i64.wrap n = n := wrap_id (by omega) (by omega)
  rw [show lsM (reaM (rootW w (n.tmod w.bodies.length))).z.M 0 = rM (rootW w (n.tmod w.bodies.length)) from rfl, show lsM (reaM (rootW w (n.tmod w.bodies.length))).C 0 = rC (rootW w (n.tmod w.bodies.length)) from rfl, show lsM (reaM (rootW w (n.tmod w.bodies.length))).S 0 = rS (rootW w (n.tmod w.bodies.length)) from rfl] at l2
  generalize rM (rootW w (n.tmod w.bodies.length)) = M2 at l2 u1
  generalize rC (rootW w (n.tmod w.bodies.length)) = C2 at l2 u2
  generalize rS (rootW w (n.tmod w.bodies.length)) = S2 at l2 u3
  simp only [wdV, rootW, List.map_append, List.map_cons, List.map_nil] at l2
  simp (maxSteps := 100000000) only [ivc, vop, vlen, vbuiltin, nilR, salloc, sappend, eq_self, Nat.reduceEqDiff, Nat.reduceLT, Nat.reduceLeDiff, Nat.reduceAdd, Nat.reduceMul, Nat.reduceSub, Nat.reduceBEq, reduceCtorEq, ne_eq, ↓reduceIte, anfL, gv14L, gv34L, gv38L, tyb, wdV, sm, l1, v0, lp1, lp2, b0', b1, wn, l2, u1, u2, u3, aw]
  try exact some_true (by omega)
end Go.Proofs.YtikppcfabnnhfaaDoor

namespace Go.Proofs.YtikppcfabnnhfaaDoor
open Go Go.Aw
set_option linter.unusedSimpArgs false
set_option linter.unusedVariables false
set_option maxRecDepth 100000
theorem wf8 {x : Int} (h : (Lit.int .u8 x).wf = true) : 0 ≤ x ∧ x < 256 := by
  simp only [Lit.wf, Bool.and_eq_true, decide_eq_true_eq] at h
  have h1 : (0 : Int) ≤ x := h.1
  have h2 : x ≤ (255 : Int) := h.2
  omega
theorem clo_lifted (os : Os) (started : os.Started) (H : Type) (enc : TypeId × Value → H) :
    ReturnsInHanded {} Tryd.checked os 10 .any (fun w args => (Rows.colourClosesSpec.pre enc Tryd.prog Tryd.f10 [] false w args ∧ laidMetH Tryd.prog laidL w) ∧ sizedMet enc Tryd.prog Tryd.f10 (OpenSpec.ofChange Rows.colourClosesSpec) false w args)
      (Rows.colourClosesSpec.post enc Tryd.prog Tryd.f10 false true false false) := by
  refine returnsInHanded_of_change_and (C := Tryd.checked) (X := fun w _ => laidMetH Tryd.prog laidL w) (fun _ _ _ hh h => h.of_heap hh) own started (by kernel_rfl) Tryd.func10
    (ChangeSpec.witness_shaped (enc := enc) (C := Tryd.checked) (os := os) (X := fun w _ => laidMetH Tryd.prog laidL w) false (World.doorLaid Tryd.prog 400 os) #[.agg #[.slice none 0 0, .slice none 0 0, .slice none 0 0], .int .u8 0] 8 rfl (World.shaped_of_RefB (by kernel_rfl) (by kernel_rfl)) (by kernel_rfl) (by kernel_rfl) (by kernel_rfl) (door_met os _)) ?_
  intro W base args ds gs before hval hW _ hsz hL _
  refine law_contractG (G := G) (A := ANL) evokL laidOut (fn := Tryd.f10) (l := [35, 32, 33, 23, 36, 71, 83, 3, 5]) (by kernel_rfl) (ts := [35, 5]) (by rw [Tryd.params10]) (by kernel_rfl) (by kernel_rfl) (tb := 4) (by kernel_rfl) Tryd.underlying4 rfl (tab_laid hL) hval hW hsz (fun ds h => ?_) fun nx hl ht => ?_
  · match ds, h with
    | [a, b], _ => exact ⟨rfl, rfl, rfl⟩
  · match nx, hl with
    | [a, b], _ =>
      obtain ⟨wa, hia, hra, ha⟩ := world_of (ht 0 35 a rfl rfl)
      obtain ⟨lb, rb, hb⟩ := typed_int Tryd.underlying5 (ht 1 5 b rfl rfl)
      refine ⟨[], ?_⟩
      have := closes_ev hia (wf8 rb)
      show EL.F 10 [argA Tryd.prog 35 a.2, argA Tryd.prog 5 b.2] [] = _
      rw [hb]
      simp only [argA, Tryd.underlying5, Tryd.underlying35, List.getD_cons_zero]
      rw [ha]
      exact this
theorem clo_holds : Rows.ColourClosesSaid :=
  OpenClaim.holds_of_wide 10 Tryd.f10 rfl rfl rfl rfl rfl rfl rfl ⟨rfl, rfl, rfl, rfl, rfl⟩ rfl rfl rfl rfl rfl (by kernel_rfl) Tryd.func10 (by kernel_rfl)
    (of_decide_eq_true (by kernel_rfl)) (by unfold Func.isWrapper; first | (rw [if_pos (by decide +kernel)]; kernel_rfl) | (rw [if_neg (by decide +kernel)]; exact ⟨rfl, rfl⟩))
    (fun os started H enc _ => clo_lifted os started H enc)
theorem clo_card : Rows.ColourClosesCardSaid :=
  Claim7.holds_tied_plain_at .later [] [.data] true (true, "3dc01f15a731540aeb3bad63498fda4938458450b3483f3d83b3da088dc41856") false
    clo_holds (fun _ h => by cases h) (by kernel_rfl) (fun _ h => by cases h) colourCloses_row_tie rfl ⟨rfl, rfl⟩ (by kernel_rfl) rfl
    (fun f fn hf hfn => by
      obtain rfl : f = 10 := Option.some.inj ((show Tryd.prog.funcNamed "hackamore/hackamorelaw23.ColourCloses" = some 10 by kernel_rfl).symm.trans hf) |>.symm
      obtain rfl : fn = Tryd.f10 := (Option.some.inj (Tryd.func10.symm.trans hfn)).symm
      exact ⟨by kernel_rfl, fun j t ht => by
        rw [Tryd.params10] at ht
        have hm : t ∈ [35, 5] := by simpa using Array.mem_of_getElem? ht
        have hall : ([35, 5].all fun u => !Tryd.prog.wantsStandIn u) = true := by kernel_rfl
        exact (show Tryd.prog.wantsStandIn t = false by simpa using List.all_eq_true.1 hall t hm)⟩)
    (by kernel_rfl)
end Go.Proofs.YtikppcfabnnhfaaDoor

