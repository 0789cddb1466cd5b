/- A part of the proof of LinkSettlesSaid. -/
import Derived.Test.YtmjfccnmeiagbaaCTy
import Derived.Test.YtmjfccnmeiagbaaCAw5
namespace Go.Proofs.Ytmjfccnmeiagbaa
open Go Go.Aw
def G : Nat → AV := fun _ => .junk
def AN : Go.Aw.An := mkAn [20, 21, 31, 36] [10, 12, 13, 16, 19, 33, 34, 37, 38, 44] [14, 22, 25, 26, 29]
  [3, 4, 5, 6, 7, 8, 9, 10, 11, 12, 13, 14, 15, 16, 17, 18, 19, 20, 21, 22, 23, 24, 25, 26, 27, 28, 29, 30, 31, 32, 33, 34, 35, 36, 37, 38, 39, 40, 41, 42, 43, 44, 45, 46, 47]
  [(3, 9, [4, 5, 7, 60, 61, 62]), (4, 5, [0, 1, 4, 21]), (6, 30, [4, 5, 7, 93]), (6, 23, [4, 5, 7, 71, 83]), (6, 20, [4, 5, 7, 71]), (6, 9, [5, 7, 32, 33, 34]), (8, 6, [0, 1, 17, 18, 19]), (13, 5, [0, 1, 4, 12, 13]), (14, 4, [3, 6, 7, 8]), (18, 14, [0, 4, 5, 6, 7, 67, 68, 69]), (19, 15, [2, 4, 9, 10]), (20, 5, [0, 1, 4, 12, 13]), (23, 4, [0, 2, 3, 4, 10]), (24, 4, [0, 2, 6, 7, 8, 12, 13, 14]), (27, 15, [4, 5, 6, 7, 9, 38, 39, 40, 58]), (27, 7, [4, 5, 6, 7, 9, 38, 39, 40]), (38, 31, [2, 4, 17]), (41, 2, [0, 7, 8, 9]), (42, 6, [0, 2, 17, 18, 19]), (47, 4, [1, 2, 3, 4])]
  [(3, 9, [(1, [4], 1), (3, [], 4)]), (4, 5, [(1, [], 3)]), (6, 30, [(1, [0, 4], 1), (1, [1, 4], 1), (1, [2], 3), (1, [3], 3), (1, [4], 1), (1, [5], 1), (2, [0], 1), (2, [1], 1)]), (6, 23, [(1, [0, 4], 1), (1, [1, 4], 1), (1, [2], 3), (1, [3], 3), (1, [4], 1), (1, [5], 1), (2, [0], 1), (2, [1], 1)]), (6, 20, [(1, [0, 4], 1), (1, [1, 4], 1), (1, [2], 3), (1, [3], 3), (1, [4], 1), (1, [5], 1), (2, [0], 1), (2, [1], 1)]), (6, 9, [(0, [0, 4], 1), (0, [1, 4], 1), (0, [2], 3), (0, [3], 3), (0, [4], 1), (0, [5], 1), (2, [], 3), (1, [0], 1), (1, [1], 1)]), (8, 6, [(1, [0, 4], 1), (1, [1, 4], 1), (1, [2], 3), (1, [3], 3), (1, [4], 1), (1, [5], 1), (2, [], 3)]), (13, 5, [(0, [], 3), (1, [], 3)]), (14, 4, [(0, [], 3), (1, [], 3)]), (18, 14, [(0, [4], 1), (1, [], 1), (5, [], 1)]), (19, 15, [(2, [], 3)]), (20, 5, [(0, [], 1), (1, [], 1)]), (23, 4, [(1, [0, 4], 1), (1, [1, 4], 1), (1, [2], 3), (1, [3], 3), (1, [4], 1), (1, [5], 1), (3, [0, 4], 1), (3, [1, 4], 1), (3, [2], 3), (3, [3], 3), (3, [4], 1), (3, [5], 1)]), (24, 4, [(0, [0, 4], 1), (0, [1, 4], 1), (0, [2], 3), (0, [3], 3), (0, [4], 1), (0, [5], 1), (2, [], 1), (4, [], 1), (5, [], 3)]), (27, 15, [(0, [0, 4], 1), (0, [1, 4], 1), (0, [2], 3), (0, [3], 3), (0, [4], 1), (0, [5], 1), (3, [0, 4], 1), (3, [1, 4], 1), (3, [2], 3), (3, [3], 3), (3, [4], 1), (3, [5], 1), (5, [], 3)]), (27, 7, [(0, [0, 4], 1), (0, [1, 4], 1), (0, [2], 3), (0, [3], 3), (0, [4], 1), (0, [5], 1), (3, [0, 4], 1), (3, [1, 4], 1), (3, [2], 3), (3, [3], 3), (3, [4], 1), (3, [5], 1), (5, [], 3)]), (41, 2, [(0, [0, 4], 1), (0, [1, 4], 1), (0, [2], 3), (0, [3], 3), (0, [4], 1), (0, [5], 1), (1, [], 1)]), (42, 6, [(0, [0, 4], 1), (0, [1, 4], 1), (0, [2], 3), (0, [3], 3), (0, [4], 1), (0, [5], 1), (2, [], 1)]), (47, 4, [(2, [], 6)])]
  []
  [(9, [(0, [4], 1)]), (10, [(0, [5], 1)]), (11, [(0, [], 3)]), (12, [(0, [5], 1), (1, [], 3)]), (14, [(0, [], 3)]), (15, [(0, [], 3)]), (16, [(0, [5], 1), (1, [], 3)]), (18, [(0, [], 1), (1, [], 3)]), (19, [(0, [5], 1), (1, [], 1), (2, [], 3)]), (22, [(0, [4], 1)]), (23, [(0, [0, 4], 1), (0, [1, 4], 1), (0, [2], 3), (0, [3], 3), (0, [4], 1), (0, [5], 1)]), (24, [(0, [], 1)]), (25, [(0, [], 1)]), (26, [(0, [4], 1)]), (27, [(0, [0, 4], 1), (0, [1, 4], 1), (0, [2], 3), (0, [3], 3), (0, [4], 1), (0, [5], 1), (1, [0], 6), (1, [1], 1), (1, [2], 1)]), (28, [(1000, [2], 3), (1000, [3], 3), (1000, [4], 1), (1000, [5], 1)]), (29, [(0, [], 3)]), (34, [(0, [5], 1)]), (35, [(0, [], 1)]), (37, [(0, [0], 6), (0, [1], 1), (0, [2], 1), (0, [1, 0], 3), (0, [1, 1], 3), (0, [2, 0], 1), (0, [2, 1], 1)]), (38, [(0, [0], 6), (0, [1], 1), (0, [2], 1), (0, [1, 0], 3), (0, [1, 1], 3), (0, [2, 0], 1), (0, [2, 1], 1)]), (39, [(1000, [2], 3), (1000, [3], 3), (1000, [4], 1), (1000, [5], 1)]), (40, [(1000, [2], 3), (1000, [3], 3), (1000, [4], 1), (1000, [5], 1)]), (41, [(1000, [2], 3), (1000, [3], 3), (1000, [4], 1), (1000, [5], 1)]), (42, [(1000, [2], 3), (1000, [3], 3), (1000, [4], 1), (1000, [5], 1)]), (43, [(0, [], 3)]), (45, [(0, [0], 6), (0, [1], 1), (0, [2], 1), (0, [1, 0], 3), (0, [1, 1], 3), (0, [2, 0], 1), (0, [2, 1], 1)]), (46, [(0, [0], 6), (0, [1], 1), (0, [2], 1)]), (47, [(0, [0], 6), (0, [1], 1), (0, [2], 1), (0, [1, 0], 3), (0, [1, 1], 3), (0, [2, 0], 1), (0, [2, 1], 1)])]
  [10, 12, 14, 16, 19, 34, 37, 38, 45, 46, 47, 22, 25, 26, 29]
  [(3, 31, ([], false, [], [])), (4, 14, ([], false, [], [])), (6, 14, ([57, 1000010, 1000051, 1000010, 1000052, 1000007, 1000052, 1000053, 1000009, 1000055, 1000007, 1000051, 1000059], false, [7], [some 51, some 52, some 53, some 55, some 59])), (6, 32, ([], false, [], [])), (11, 3, ([], false, [], [])), (12, 8, ([38, 700038], true, [4], [])), (13, 6, ([], false, [], [])), (16, 4, ([14, 700014], true, [2], [])), (18, 9, ([], false, [], [])), (18, 17, ([], false, [], [])), (18, 21, ([], false, [], [])), (18, 23, ([], false, [], [])), (18, 24, ([], false, [], [])), (18, 28, ([], false, [5], [])), (19, 16, ([67, 1000002, 1000056, 1000010, 1000059, 1000002, 1000061, 1000010, 1000063, 1000062, 1000063, 1000064], false, [], [some 55, some 56, some 59, some 61, some 63, some 64])), (19, 20, ([89, 93, 700089, 700093], true, [4], [])), (19, 22, ([113, 700113], true, [4], [])), (20, 6, ([], false, [], [])), (25, 3, ([1000000, 1000007, 1000001, 1000008, 1000007, 1000010, 1000010, 1000011, 1000011, 1000009, 1000012], false, [], [some 7, some 8, some 10, some 11, some 12])), (26, 3, ([], false, [4], [])), (27, 4, ([], false, [5], [])), (27, 12, ([], false, [5], [])), (27, 16, ([], false, [], [])), (27, 17, ([], false, [5], [])), (27, 20, ([], false, [5], [])), (28, 6, ([1000000, 1000018, 1000005, 1000019, 1000018, 1000020, 1000020, 1000021, 1000021, 1000019, 1000022, 1000003, 1000024, 1000026, 1000017], false, [], [some 18, some 19, some 20, some 21, some 22, some 24, some 17])), (29, 3, ([1000000, 1000007, 1000001, 1000008, 1000007, 1000010, 1000010, 1000011, 1000011, 1000009, 1000012], false, [], [some 7, some 8, some 10, some 11, some 12])), (32, 0, ([1000000, 1000004, 1000000, 1000005, 1000005, 1000006, 1000006, 1000007, 1000007, 1000008, 1000001, 1000010, 1000000, 1000011, 1000011, 1000012, 1000012, 1000013, 1000013, 1000014, 1000004, 1000019, 1000019, 1000020, 1000020, 1000021], false, [0], [some 4, some 5, some 6, some 7, some 8, some 10, some 11, some 12, some 13, some 14, some 19, some 20, some 21])), (38, 4, ([7], false, [7], [])), (38, 15, ([12], false, [12], [])), (39, 0, ([1000000, 1000006, 1000001, 1000007, 1000000, 1000008, 1000001, 1000009, 1000008, 1000010, 1000010, 1000011, 1000011, 1000009, 1000012, 1000006, 1000016, 1000016, 1000017, 1000017, 1000007, 1000018], false, [0], [some 6, some 7, some 8, some 9, some 10, some 11, some 12, some 14, some 16, some 17, some 18])), (40, 4, ([], false, [0], [])), (40, 5, ([1000000, 1000039, 1000001, 1000040, 1000039, 1000041, 1000041, 1000042, 1000042, 1000040, 1000043, 1000005, 1000045, 1000047, 1000038], false, [], [some 39, some 40, some 41, some 42, some 43, some 45, some 38])), (40, 9, ([1000000, 1000056, 1000001, 1000057, 1000000, 1000058, 1000001, 1000059, 1000058, 1000060, 1000060, 1000061, 1000061, 1000059, 1000062, 1000056, 1000066, 1000066, 1000067, 1000067, 1000057, 1000068], false, [0], [some 56, some 57, some 58, some 59, some 60, some 61, some 62, some 64, some 66, some 67, some 68]))]
noncomputable abbrev E : Sig := ev Try.prog G AN
theorem ok3 : fchk Try.prog AN 3 = true := by kernel_rfl
theorem ok4 : fchk Try.prog AN 4 = true := by kernel_rfl
theorem ok5 : fchk Try.prog AN 5 = true := by kernel_rfl
theorem ok6 : fchk Try.prog AN 6 = true := by kernel_rfl
theorem ok7 : fchk Try.prog AN 7 = true := by kernel_rfl
theorem ok8 : fchk Try.prog AN 8 = true := by kernel_rfl
theorem ok9 : fchk Try.prog AN 9 = true := by kernel_rfl
theorem ok10 : fchk Try.prog AN 10 = true := by kernel_rfl
theorem ok11 : fchk Try.prog AN 11 = true := by kernel_rfl
theorem ok12 : fchk Try.prog AN 12 = true := by kernel_rfl
theorem ok13 : fchk Try.prog AN 13 = true := by kernel_rfl
theorem ok14 : fchk Try.prog AN 14 = true := by kernel_rfl
theorem ok15 : fchk Try.prog AN 15 = true := by kernel_rfl
theorem ok16 : fchk Try.prog AN 16 = true := by kernel_rfl
theorem ok17 : fchk Try.prog AN 17 = true := by kernel_rfl
theorem ok18 : fchk Try.prog AN 18 = true := by kernel_rfl
theorem ok19 : fchk Try.prog AN 19 = true := by kernel_rfl
theorem ok20 : fchk Try.prog AN 20 = true := by kernel_rfl
theorem ok21 : fchk Try.prog AN 21 = true := by kernel_rfl
theorem ok22 : fchk Try.prog AN 22 = true := by kernel_rfl
theorem ok23 : fchk Try.prog AN 23 = true := by kernel_rfl
theorem ok24 : fchk Try.prog AN 24 = true := by kernel_rfl
theorem ok25 : fchk Try.prog AN 25 = true := by kernel_rfl
theorem ok26 : fchk Try.prog AN 26 = true := by kernel_rfl
theorem ok27 : fchk Try.prog AN 27 = true := by kernel_rfl
theorem ok28 : fchk Try.prog AN 28 = true := by kernel_rfl
theorem ok29 : fchk Try.prog AN 29 = true := by kernel_rfl
theorem ok30 : fchk Try.prog AN 30 = true := by kernel_rfl
theorem ok31 : fchk Try.prog AN 31 = true := by kernel_rfl
theorem ok32 : fchk Try.prog AN 32 = true := by kernel_rfl
theorem ok33 : fchk Try.prog AN 33 = true := by kernel_rfl
theorem ok34 : fchk Try.prog AN 34 = true := by kernel_rfl
theorem ok35 : fchk Try.prog AN 35 = true := by kernel_rfl
theorem ok36 : fchk Try.prog AN 36 = true := by kernel_rfl
theorem ok37 : fchk Try.prog AN 37 = true := by kernel_rfl
theorem ok38 : fchk Try.prog AN 38 = true := by kernel_rfl
theorem ok39 : fchk Try.prog AN 39 = true := by kernel_rfl
theorem ok40 : fchk Try.prog AN 40 = true := by kernel_rfl
theorem ok41 : fchk Try.prog AN 41 = true := by kernel_rfl
theorem ok42 : fchk Try.prog AN 42 = true := by kernel_rfl
theorem ok43 : fchk Try.prog AN 43 = true := by kernel_rfl
theorem ok44 : fchk Try.prog AN 44 = true := by kernel_rfl
theorem ok45 : fchk Try.prog AN 45 = true := by kernel_rfl
theorem ok46 : fchk Try.prog AN 46 = true := by kernel_rfl
theorem ok47 : fchk Try.prog AN 47 = true := by kernel_rfl
theorem evok : EvOk Try.prog G AN where
  chk f h := by
    have h : [3, 4, 5, 6, 7, 8, 9, 10, 11, 12, 13, 14, 15, 16, 17, 18, 19, 20, 21, 22, 23, 24, 25, 26, 27, 28, 29, 30, 31, 32, 33, 34, 35, 36, 37, 38, 39, 40, 41, 42, 43, 44, 45, 46, 47].contains f = true := h
    have h := List.contains_iff_mem.1 h
    simp only [List.mem_cons, List.mem_nil_iff, or_false] at h
    rcases h with rfl | rfl | rfl | rfl | rfl | rfl | rfl | rfl | rfl | rfl | rfl | rfl | rfl | rfl | rfl | rfl | rfl | rfl | rfl | rfl | rfl | rfl | rfl | rfl | rfl | rfl | rfl | rfl | rfl | rfl | rfl | rfl | rfl | rfl | rfl | rfl | rfl | rfl | rfl | rfl | rfl | rfl | rfl | rfl | rfl
    · exact ok3
    · exact ok4
    · exact ok5
    · exact ok6
    · exact ok7
    · exact ok8
    · exact ok9
    · exact ok10
    · exact ok11
    · exact ok12
    · exact ok13
    · exact ok14
    · exact ok15
    · exact ok16
    · exact ok17
    · exact ok18
    · exact ok19
    · exact ok20
    · exact ok21
    · exact ok22
    · exact ok23
    · exact ok24
    · exact ok25
    · exact ok26
    · exact ok27
    · exact ok28
    · exact ok29
    · exact ok30
    · exact ok31
    · exact ok32
    · exact ok33
    · exact ok34
    · exact ok35
    · exact ok36
    · exact ok37
    · exact ok38
    · exact ok39
    · exact ok40
    · exact ok41
    · exact ok42
    · exact ok43
    · exact ok44
    · exact ok45
    · exact ok46
    · exact ok47
  pureG g := .inr rfl
  mixed := by kernel_rfl
theorem ab3 : AN.bor 3 = false := by kernel_rfl
theorem ap3 : AN.pur 3 = false := by kernel_rfl
theorem ao3 : AN.ro 3 = false := by kernel_rfl
theorem af3 : AN.frz 3 = false := by kernel_rfl
theorem ar3 : AN.res 3 = [] := by kernel_rfl
theorem ab4 : AN.bor 4 = false := by kernel_rfl
theorem ap4 : AN.pur 4 = false := by kernel_rfl
theorem ao4 : AN.ro 4 = false := by kernel_rfl
theorem af4 : AN.frz 4 = false := by kernel_rfl
theorem ar4 : AN.res 4 = [] := by kernel_rfl
theorem ab5 : AN.bor 5 = false := by kernel_rfl
theorem ap5 : AN.pur 5 = false := by kernel_rfl
theorem ao5 : AN.ro 5 = false := by kernel_rfl
theorem af5 : AN.frz 5 = false := by kernel_rfl
theorem ar5 : AN.res 5 = [] := by kernel_rfl
theorem ab6 : AN.bor 6 = false := by kernel_rfl
theorem ap6 : AN.pur 6 = false := by kernel_rfl
theorem ao6 : AN.ro 6 = false := by kernel_rfl
theorem af6 : AN.frz 6 = false := by kernel_rfl
theorem ar6 : AN.res 6 = [] := by kernel_rfl
theorem ab7 : AN.bor 7 = false := by kernel_rfl
theorem ap7 : AN.pur 7 = false := by kernel_rfl
theorem ao7 : AN.ro 7 = false := by kernel_rfl
theorem af7 : AN.frz 7 = false := by kernel_rfl
theorem ar7 : AN.res 7 = [] := by kernel_rfl
theorem ab8 : AN.bor 8 = false := by kernel_rfl
theorem ap8 : AN.pur 8 = false := by kernel_rfl
theorem ao8 : AN.ro 8 = false := by kernel_rfl
theorem af8 : AN.frz 8 = false := by kernel_rfl
theorem ar8 : AN.res 8 = [] := by kernel_rfl
theorem ab9 : AN.bor 9 = false := by kernel_rfl
theorem ap9 : AN.pur 9 = false := by kernel_rfl
theorem ao9 : AN.ro 9 = false := by kernel_rfl
theorem af9 : AN.frz 9 = false := by kernel_rfl
theorem ar9 : AN.res 9 = [(0, [4], 1)] := by kernel_rfl
theorem ab10 : AN.bor 10 = false := by kernel_rfl
theorem ap10 : AN.pur 10 = true := by kernel_rfl
theorem ao10 : AN.ro 10 = false := by kernel_rfl
theorem af10 : AN.frz 10 = true := by kernel_rfl
theorem ar10 : AN.res 10 = [(0, [5], 1)] := by kernel_rfl
theorem ab11 : AN.bor 11 = false := by kernel_rfl
theorem ap11 : AN.pur 11 = false := by kernel_rfl
theorem ao11 : AN.ro 11 = false := by kernel_rfl
theorem af11 : AN.frz 11 = false := by kernel_rfl
theorem ar11 : AN.res 11 = [(0, [], 3)] := by kernel_rfl
theorem ab12 : AN.bor 12 = false := by kernel_rfl
theorem ap12 : AN.pur 12 = true := by kernel_rfl
theorem ao12 : AN.ro 12 = false := by kernel_rfl
theorem af12 : AN.frz 12 = true := by kernel_rfl
theorem ar12 : AN.res 12 = [(0, [5], 1), (1, [], 3)] := by kernel_rfl
theorem ab13 : AN.bor 13 = false := by kernel_rfl
theorem ap13 : AN.pur 13 = true := by kernel_rfl
theorem ao13 : AN.ro 13 = false := by kernel_rfl
theorem af13 : AN.frz 13 = false := by kernel_rfl
theorem ar13 : AN.res 13 = [] := by kernel_rfl
theorem ab14 : AN.bor 14 = false := by kernel_rfl
theorem ap14 : AN.pur 14 = false := by kernel_rfl
theorem ao14 : AN.ro 14 = true := by kernel_rfl
theorem af14 : AN.frz 14 = true := by kernel_rfl
theorem ar14 : AN.res 14 = [(0, [], 3)] := by kernel_rfl
theorem ab15 : AN.bor 15 = false := by kernel_rfl
theorem ap15 : AN.pur 15 = false := by kernel_rfl
theorem ao15 : AN.ro 15 = false := by kernel_rfl
theorem af15 : AN.frz 15 = false := by kernel_rfl
theorem ar15 : AN.res 15 = [(0, [], 3)] := by kernel_rfl
theorem ab16 : AN.bor 16 = false := by kernel_rfl
theorem ap16 : AN.pur 16 = true := by kernel_rfl
theorem ao16 : AN.ro 16 = false := by kernel_rfl
theorem af16 : AN.frz 16 = true := by kernel_rfl
theorem ar16 : AN.res 16 = [(0, [5], 1), (1, [], 3)] := by kernel_rfl
theorem ab17 : AN.bor 17 = false := by kernel_rfl
theorem ap17 : AN.pur 17 = false := by kernel_rfl
theorem ao17 : AN.ro 17 = false := by kernel_rfl
theorem af17 : AN.frz 17 = false := by kernel_rfl
theorem ar17 : AN.res 17 = [] := by kernel_rfl
theorem ab18 : AN.bor 18 = false := by kernel_rfl
theorem ap18 : AN.pur 18 = false := by kernel_rfl
theorem ao18 : AN.ro 18 = false := by kernel_rfl
theorem af18 : AN.frz 18 = false := by kernel_rfl
theorem ar18 : AN.res 18 = [(0, [], 1), (1, [], 3)] := by kernel_rfl
theorem ab19 : AN.bor 19 = false := by kernel_rfl
theorem ap19 : AN.pur 19 = true := by kernel_rfl
theorem ao19 : AN.ro 19 = false := by kernel_rfl
theorem af19 : AN.frz 19 = true := by kernel_rfl
theorem ar19 : AN.res 19 = [(0, [5], 1), (1, [], 1), (2, [], 3)] := by kernel_rfl
theorem ab20 : AN.bor 20 = true := by kernel_rfl
theorem ap20 : AN.pur 20 = false := by kernel_rfl
theorem ao20 : AN.ro 20 = false := by kernel_rfl
theorem af20 : AN.frz 20 = false := by kernel_rfl
theorem ar20 : AN.res 20 = [] := by kernel_rfl
theorem ab21 : AN.bor 21 = true := by kernel_rfl
theorem ap21 : AN.pur 21 = false := by kernel_rfl
theorem ao21 : AN.ro 21 = false := by kernel_rfl
theorem af21 : AN.frz 21 = false := by kernel_rfl
theorem ar21 : AN.res 21 = [] := by kernel_rfl
theorem ab22 : AN.bor 22 = false := by kernel_rfl
theorem ap22 : AN.pur 22 = false := by kernel_rfl
theorem ao22 : AN.ro 22 = true := by kernel_rfl
theorem af22 : AN.frz 22 = true := by kernel_rfl
theorem ar22 : AN.res 22 = [(0, [4], 1)] := by kernel_rfl
theorem ab23 : AN.bor 23 = false := by kernel_rfl
theorem ap23 : AN.pur 23 = false := by kernel_rfl
theorem ao23 : AN.ro 23 = false := by kernel_rfl
theorem af23 : AN.frz 23 = false := by kernel_rfl
theorem ar23 : AN.res 23 = [(0, [0, 4], 1), (0, [1, 4], 1), (0, [2], 3), (0, [3], 3), (0, [4], 1), (0, [5], 1)] := by kernel_rfl
theorem ab24 : AN.bor 24 = false := by kernel_rfl
theorem ap24 : AN.pur 24 = false := by kernel_rfl
theorem ao24 : AN.ro 24 = false := by kernel_rfl
theorem af24 : AN.frz 24 = false := by kernel_rfl
theorem ar24 : AN.res 24 = [(0, [], 1)] := by kernel_rfl
theorem ab25 : AN.bor 25 = false := by kernel_rfl
theorem ap25 : AN.pur 25 = false := by kernel_rfl
theorem ao25 : AN.ro 25 = true := by kernel_rfl
theorem af25 : AN.frz 25 = true := by kernel_rfl
theorem ar25 : AN.res 25 = [(0, [], 1)] := by kernel_rfl
theorem ab26 : AN.bor 26 = false := by kernel_rfl
theorem ap26 : AN.pur 26 = false := by kernel_rfl
theorem ao26 : AN.ro 26 = true := by kernel_rfl
theorem af26 : AN.frz 26 = true := by kernel_rfl
theorem ar26 : AN.res 26 = [(0, [4], 1)] := by kernel_rfl
theorem ab27 : AN.bor 27 = false := by kernel_rfl
theorem ap27 : AN.pur 27 = false := by kernel_rfl
theorem ao27 : AN.ro 27 = false := by kernel_rfl
theorem af27 : AN.frz 27 = false := by kernel_rfl
theorem ar27 : AN.res 27 = [(0, [0, 4], 1), (0, [1, 4], 1), (0, [2], 3), (0, [3], 3), (0, [4], 1), (0, [5], 1), (1, [0], 6), (1, [1], 1), (1, [2], 1)] := by kernel_rfl
theorem ab28 : AN.bor 28 = false := by kernel_rfl
theorem ap28 : AN.pur 28 = false := by kernel_rfl
theorem ao28 : AN.ro 28 = false := by kernel_rfl
theorem af28 : AN.frz 28 = false := by kernel_rfl
theorem ar28 : AN.res 28 = [(1000, [2], 3), (1000, [3], 3), (1000, [4], 1), (1000, [5], 1)] := by kernel_rfl
theorem ab29 : AN.bor 29 = false := by kernel_rfl
theorem ap29 : AN.pur 29 = false := by kernel_rfl
theorem ao29 : AN.ro 29 = true := by kernel_rfl
theorem af29 : AN.frz 29 = true := by kernel_rfl
theorem ar29 : AN.res 29 = [(0, [], 3)] := by kernel_rfl
theorem ab30 : AN.bor 30 = false := by kernel_rfl
theorem ap30 : AN.pur 30 = false := by kernel_rfl
theorem ao30 : AN.ro 30 = false := by kernel_rfl
theorem af30 : AN.frz 30 = false := by kernel_rfl
theorem ar30 : AN.res 30 = [] := by kernel_rfl
theorem ab31 : AN.bor 31 = true := by kernel_rfl
theorem ap31 : AN.pur 31 = false := by kernel_rfl
theorem ao31 : AN.ro 31 = false := by kernel_rfl
theorem af31 : AN.frz 31 = false := by kernel_rfl
theorem ar31 : AN.res 31 = [] := by kernel_rfl
theorem ab32 : AN.bor 32 = false := by kernel_rfl
theorem ap32 : AN.pur 32 = false := by kernel_rfl
theorem ao32 : AN.ro 32 = false := by kernel_rfl
theorem af32 : AN.frz 32 = false := by kernel_rfl
theorem ar32 : AN.res 32 = [] := by kernel_rfl
theorem ab33 : AN.bor 33 = false := by kernel_rfl
theorem ap33 : AN.pur 33 = true := by kernel_rfl
theorem ao33 : AN.ro 33 = false := by kernel_rfl
theorem af33 : AN.frz 33 = false := by kernel_rfl
theorem ar33 : AN.res 33 = [] := by kernel_rfl
theorem ab34 : AN.bor 34 = false := by kernel_rfl
theorem ap34 : AN.pur 34 = true := by kernel_rfl
theorem ao34 : AN.ro 34 = false := by kernel_rfl
theorem af34 : AN.frz 34 = true := by kernel_rfl
theorem ar34 : AN.res 34 = [(0, [5], 1)] := by kernel_rfl
theorem ab35 : AN.bor 35 = false := by kernel_rfl
theorem ap35 : AN.pur 35 = false := by kernel_rfl
theorem ao35 : AN.ro 35 = false := by kernel_rfl
theorem af35 : AN.frz 35 = false := by kernel_rfl
theorem ar35 : AN.res 35 = [(0, [], 1)] := by kernel_rfl
theorem ab36 : AN.bor 36 = true := by kernel_rfl
theorem ap36 : AN.pur 36 = false := by kernel_rfl
theorem ao36 : AN.ro 36 = false := by kernel_rfl
theorem af36 : AN.frz 36 = false := by kernel_rfl
theorem ar36 : AN.res 36 = [] := by kernel_rfl
theorem ab37 : AN.bor 37 = false := by kernel_rfl
theorem ap37 : AN.pur 37 = true := by kernel_rfl
theorem ao37 : AN.ro 37 = false := by kernel_rfl
theorem af37 : AN.frz 37 = true := by kernel_rfl
theorem ar37 : AN.res 37 = [(0, [0], 6), (0, [1], 1), (0, [2], 1), (0, [1, 0], 3), (0, [1, 1], 3), (0, [2, 0], 1), (0, [2, 1], 1)] := by kernel_rfl
theorem ab38 : AN.bor 38 = false := by kernel_rfl
theorem ap38 : AN.pur 38 = true := by kernel_rfl
theorem ao38 : AN.ro 38 = false := by kernel_rfl
theorem af38 : AN.frz 38 = true := by kernel_rfl
theorem ar38 : AN.res 38 = [(0, [0], 6), (0, [1], 1), (0, [2], 1), (0, [1, 0], 3), (0, [1, 1], 3), (0, [2, 0], 1), (0, [2, 1], 1)] := by kernel_rfl
theorem ab39 : AN.bor 39 = false := by kernel_rfl
theorem ap39 : AN.pur 39 = false := by kernel_rfl
theorem ao39 : AN.ro 39 = false := by kernel_rfl
theorem af39 : AN.frz 39 = false := by kernel_rfl
theorem ar39 : AN.res 39 = [(1000, [2], 3), (1000, [3], 3), (1000, [4], 1), (1000, [5], 1)] := by kernel_rfl
theorem ab40 : AN.bor 40 = false := by kernel_rfl
theorem ap40 : AN.pur 40 = false := by kernel_rfl
theorem ao40 : AN.ro 40 = false := by kernel_rfl
theorem af40 : AN.frz 40 = false := by kernel_rfl
theorem ar40 : AN.res 40 = [(1000, [2], 3), (1000, [3], 3), (1000, [4], 1), (1000, [5], 1)] := by kernel_rfl
theorem ab41 : AN.bor 41 = false := by kernel_rfl
theorem ap41 : AN.pur 41 = false := by kernel_rfl
theorem ao41 : AN.ro 41 = false := by kernel_rfl
theorem af41 : AN.frz 41 = false := by kernel_rfl
theorem ar41 : AN.res 41 = [(1000, [2], 3), (1000, [3], 3), (1000, [4], 1), (1000, [5], 1)] := by kernel_rfl
theorem ab42 : AN.bor 42 = false := by kernel_rfl
theorem ap42 : AN.pur 42 = false := by kernel_rfl
theorem ao42 : AN.ro 42 = false := by kernel_rfl
theorem af42 : AN.frz 42 = false := by kernel_rfl
theorem ar42 : AN.res 42 = [(1000, [2], 3), (1000, [3], 3), (1000, [4], 1), (1000, [5], 1)] := by kernel_rfl
theorem ab43 : AN.bor 43 = false := by kernel_rfl
theorem ap43 : AN.pur 43 = false := by kernel_rfl
theorem ao43 : AN.ro 43 = false := by kernel_rfl
theorem af43 : AN.frz 43 = false := by kernel_rfl
theorem ar43 : AN.res 43 = [(0, [], 3)] := by kernel_rfl
theorem ab44 : AN.bor 44 = false := by kernel_rfl
theorem ap44 : AN.pur 44 = true := by kernel_rfl
theorem ao44 : AN.ro 44 = false := by kernel_rfl
theorem af44 : AN.frz 44 = false := by kernel_rfl
theorem ar44 : AN.res 44 = [] := by kernel_rfl
theorem ab45 : AN.bor 45 = false := by kernel_rfl
theorem ap45 : AN.pur 45 = false := by kernel_rfl
theorem ao45 : AN.ro 45 = false := by kernel_rfl
theorem af45 : AN.frz 45 = true := by kernel_rfl
theorem ar45 : AN.res 45 = [(0, [0], 6), (0, [1], 1), (0, [2], 1), (0, [1, 0], 3), (0, [1, 1], 3), (0, [2, 0], 1), (0, [2, 1], 1)] := by kernel_rfl
theorem ab46 : AN.bor 46 = false := by kernel_rfl
theorem ap46 : AN.pur 46 = false := by kernel_rfl
theorem ao46 : AN.ro 46 = false := by kernel_rfl
theorem af46 : AN.frz 46 = true := by kernel_rfl
theorem ar46 : AN.res 46 = [(0, [0], 6), (0, [1], 1), (0, [2], 1)] := by kernel_rfl
theorem ab47 : AN.bor 47 = false := by kernel_rfl
theorem ap47 : AN.pur 47 = false := by kernel_rfl
theorem ao47 : AN.ro 47 = false := by kernel_rfl
theorem af47 : AN.frz 47 = true := by kernel_rfl
theorem ar47 : AN.res 47 = [(0, [0], 6), (0, [1], 1), (0, [2], 1), (0, [1, 0], 3), (0, [1, 1], 3), (0, [2, 0], 1), (0, [2, 1], 1)] := by kernel_rfl
theorem ad3_31 : AN.dr 3 31 = some ([], false, [], []) := by kernel_rfl
theorem ad4_14 : AN.dr 4 14 = some ([], false, [], []) := by kernel_rfl
theorem ad6_14 : AN.dr 6 14 = some ([57, 1000010, 1000051, 1000010, 1000052, 1000007, 1000052, 1000053, 1000009, 1000055, 1000007, 1000051, 1000059], false, [7], [some 51, some 52, some 53, some 55, some 59]) := by kernel_rfl
theorem ad6_32 : AN.dr 6 32 = some ([], false, [], []) := by kernel_rfl
theorem ad11_3 : AN.dr 11 3 = some ([], false, [], []) := by kernel_rfl
theorem ad12_8 : AN.dr 12 8 = some ([38, 700038], true, [4], []) := by kernel_rfl
theorem ad13_6 : AN.dr 13 6 = some ([], false, [], []) := by kernel_rfl
theorem ad16_4 : AN.dr 16 4 = some ([14, 700014], true, [2], []) := by kernel_rfl
theorem ad18_9 : AN.dr 18 9 = some ([], false, [], []) := by kernel_rfl
theorem ad18_17 : AN.dr 18 17 = some ([], false, [], []) := by kernel_rfl
theorem ad18_21 : AN.dr 18 21 = some ([], false, [], []) := by kernel_rfl
theorem ad18_23 : AN.dr 18 23 = some ([], false, [], []) := by kernel_rfl
theorem ad18_24 : AN.dr 18 24 = some ([], false, [], []) := by kernel_rfl
theorem ad18_28 : AN.dr 18 28 = some ([], false, [5], []) := by kernel_rfl
theorem ad19_16 : AN.dr 19 16 = some ([67, 1000002, 1000056, 1000010, 1000059, 1000002, 1000061, 1000010, 1000063, 1000062, 1000063, 1000064], false, [], [some 55, some 56, some 59, some 61, some 63, some 64]) := by kernel_rfl
theorem ad19_20 : AN.dr 19 20 = some ([89, 93, 700089, 700093], true, [4], []) := by kernel_rfl
theorem ad19_22 : AN.dr 19 22 = some ([113, 700113], true, [4], []) := by kernel_rfl
theorem ad20_6 : AN.dr 20 6 = some ([], false, [], []) := by kernel_rfl
theorem ad25_3 : AN.dr 25 3 = some ([1000000, 1000007, 1000001, 1000008, 1000007, 1000010, 1000010, 1000011, 1000011, 1000009, 1000012], false, [], [some 7, some 8, some 10, some 11, some 12]) := by kernel_rfl
theorem ad26_3 : AN.dr 26 3 = some ([], false, [4], []) := by kernel_rfl
theorem ad27_4 : AN.dr 27 4 = some ([], false, [5], []) := by kernel_rfl
theorem ad27_12 : AN.dr 27 12 = some ([], false, [5], []) := by kernel_rfl
theorem ad27_16 : AN.dr 27 16 = some ([], false, [], []) := by kernel_rfl
theorem ad27_17 : AN.dr 27 17 = some ([], false, [5], []) := by kernel_rfl
theorem ad27_20 : AN.dr 27 20 = some ([], false, [5], []) := by kernel_rfl
theorem ad28_6 : AN.dr 28 6 = some ([1000000, 1000018, 1000005, 1000019, 1000018, 1000020, 1000020, 1000021, 1000021, 1000019, 1000022, 1000003, 1000024, 1000026, 1000017], false, [], [some 18, some 19, some 20, some 21, some 22, some 24, some 17]) := by kernel_rfl
theorem ad29_3 : AN.dr 29 3 = some ([1000000, 1000007, 1000001, 1000008, 1000007, 1000010, 1000010, 1000011, 1000011, 1000009, 1000012], false, [], [some 7, some 8, some 10, some 11, some 12]) := by kernel_rfl
theorem ad32_0 : AN.dr 32 0 = some ([1000000, 1000004, 1000000, 1000005, 1000005, 1000006, 1000006, 1000007, 1000007, 1000008, 1000001, 1000010, 1000000, 1000011, 1000011, 1000012, 1000012, 1000013, 1000013, 1000014, 1000004, 1000019, 1000019, 1000020, 1000020, 1000021], false, [0], [some 4, some 5, some 6, some 7, some 8, some 10, some 11, some 12, some 13, some 14, some 19, some 20, some 21]) := by kernel_rfl
theorem ad38_4 : AN.dr 38 4 = some ([7], false, [7], []) := by kernel_rfl
theorem ad38_15 : AN.dr 38 15 = some ([12], false, [12], []) := by kernel_rfl
theorem ad39_0 : AN.dr 39 0 = some ([1000000, 1000006, 1000001, 1000007, 1000000, 1000008, 1000001, 1000009, 1000008, 1000010, 1000010, 1000011, 1000011, 1000009, 1000012, 1000006, 1000016, 1000016, 1000017, 1000017, 1000007, 1000018], false, [0], [some 6, some 7, some 8, some 9, some 10, some 11, some 12, some 14, some 16, some 17, some 18]) := by kernel_rfl
theorem ad40_4 : AN.dr 40 4 = some ([], false, [0], []) := by kernel_rfl
theorem ad40_5 : AN.dr 40 5 = some ([1000000, 1000039, 1000001, 1000040, 1000039, 1000041, 1000041, 1000042, 1000042, 1000040, 1000043, 1000005, 1000045, 1000047, 1000038], false, [], [some 39, some 40, some 41, some 42, some 43, some 45, some 38]) := by kernel_rfl
theorem ad40_9 : AN.dr 40 9 = some ([1000000, 1000056, 1000001, 1000057, 1000000, 1000058, 1000001, 1000059, 1000058, 1000060, 1000060, 1000061, 1000061, 1000059, 1000062, 1000056, 1000066, 1000066, 1000067, 1000067, 1000057, 1000068], false, [0], [some 56, some 57, some 58, some 59, some 60, some 61, some 62, some 64, some 66, some 67, some 68]) := by kernel_rfl
theorem ak3_9 : AN.keep 3 9 = some [4, 5, 7, 60, 61, 62] := by kernel_rfl
theorem ax3_9 : AN.fix 3 9 = [(1, [4], 1), (3, [], 4)] := by kernel_rfl
theorem al3_9 : AN.frl 3 9 = false := by kernel_rfl
theorem ak4_5 : AN.keep 4 5 = some [0, 1, 4, 21] := by kernel_rfl
theorem ax4_5 : AN.fix 4 5 = [(1, [], 3)] := by kernel_rfl
theorem al4_5 : AN.frl 4 5 = false := by kernel_rfl
theorem ak6_30 : AN.keep 6 30 = some [4, 5, 7, 93] := by kernel_rfl
theorem ax6_30 : AN.fix 6 30 = [(1, [0, 4], 1), (1, [1, 4], 1), (1, [2], 3), (1, [3], 3), (1, [4], 1), (1, [5], 1), (2, [0], 1), (2, [1], 1)] := by kernel_rfl
theorem al6_30 : AN.frl 6 30 = false := by kernel_rfl
theorem ak6_23 : AN.keep 6 23 = some [4, 5, 7, 71, 83] := by kernel_rfl
theorem ax6_23 : AN.fix 6 23 = [(1, [0, 4], 1), (1, [1, 4], 1), (1, [2], 3), (1, [3], 3), (1, [4], 1), (1, [5], 1), (2, [0], 1), (2, [1], 1)] := by kernel_rfl
theorem al6_23 : AN.frl 6 23 = false := by kernel_rfl
theorem ak6_20 : AN.keep 6 20 = some [4, 5, 7, 71] := by kernel_rfl
theorem ax6_20 : AN.fix 6 20 = [(1, [0, 4], 1), (1, [1, 4], 1), (1, [2], 3), (1, [3], 3), (1, [4], 1), (1, [5], 1), (2, [0], 1), (2, [1], 1)] := by kernel_rfl
theorem al6_20 : AN.frl 6 20 = false := by kernel_rfl
theorem ak6_9 : AN.keep 6 9 = some [5, 7, 32, 33, 34] := by kernel_rfl
theorem ax6_9 : AN.fix 6 9 = [(0, [0, 4], 1), (0, [1, 4], 1), (0, [2], 3), (0, [3], 3), (0, [4], 1), (0, [5], 1), (2, [], 3), (1, [0], 1), (1, [1], 1)] := by kernel_rfl
theorem al6_9 : AN.frl 6 9 = false := by kernel_rfl
theorem ak8_6 : AN.keep 8 6 = some [0, 1, 17, 18, 19] := by kernel_rfl
theorem ax8_6 : AN.fix 8 6 = [(1, [0, 4], 1), (1, [1, 4], 1), (1, [2], 3), (1, [3], 3), (1, [4], 1), (1, [5], 1), (2, [], 3)] := by kernel_rfl
theorem al8_6 : AN.frl 8 6 = false := by kernel_rfl
theorem ak13_5 : AN.keep 13 5 = some [0, 1, 4, 12, 13] := by kernel_rfl
theorem ax13_5 : AN.fix 13 5 = [(0, [], 3), (1, [], 3)] := by kernel_rfl
theorem al13_5 : AN.frl 13 5 = false := by kernel_rfl
theorem ak14_4 : AN.keep 14 4 = some [3, 6, 7, 8] := by kernel_rfl
theorem ax14_4 : AN.fix 14 4 = [(0, [], 3), (1, [], 3)] := by kernel_rfl
theorem al14_4 : AN.frl 14 4 = false := by kernel_rfl
theorem ak18_14 : AN.keep 18 14 = some [0, 4, 5, 6, 7, 67, 68, 69] := by kernel_rfl
theorem ax18_14 : AN.fix 18 14 = [(0, [4], 1), (1, [], 1), (5, [], 1)] := by kernel_rfl
theorem al18_14 : AN.frl 18 14 = false := by kernel_rfl
theorem ak19_15 : AN.keep 19 15 = some [2, 4, 9, 10] := by kernel_rfl
theorem ax19_15 : AN.fix 19 15 = [(2, [], 3)] := by kernel_rfl
theorem al19_15 : AN.frl 19 15 = false := by kernel_rfl
theorem ak20_5 : AN.keep 20 5 = some [0, 1, 4, 12, 13] := by kernel_rfl
theorem ax20_5 : AN.fix 20 5 = [(0, [], 1), (1, [], 1)] := by kernel_rfl
theorem al20_5 : AN.frl 20 5 = false := by kernel_rfl
theorem ak23_4 : AN.keep 23 4 = some [0, 2, 3, 4, 10] := by kernel_rfl
theorem ax23_4 : AN.fix 23 4 = [(1, [0, 4], 1), (1, [1, 4], 1), (1, [2], 3), (1, [3], 3), (1, [4], 1), (1, [5], 1), (3, [0, 4], 1), (3, [1, 4], 1), (3, [2], 3), (3, [3], 3), (3, [4], 1), (3, [5], 1)] := by kernel_rfl
theorem al23_4 : AN.frl 23 4 = false := by kernel_rfl
theorem ak24_4 : AN.keep 24 4 = some [0, 2, 6, 7, 8, 12, 13, 14] := by kernel_rfl
theorem ax24_4 : AN.fix 24 4 = [(0, [0, 4], 1), (0, [1, 4], 1), (0, [2], 3), (0, [3], 3), (0, [4], 1), (0, [5], 1), (2, [], 1), (4, [], 1), (5, [], 3)] := by kernel_rfl
theorem al24_4 : AN.frl 24 4 = false := by kernel_rfl
theorem ak27_15 : AN.keep 27 15 = some [4, 5, 6, 7, 9, 38, 39, 40, 58] := by kernel_rfl
theorem ax27_15 : AN.fix 27 15 = [(0, [0, 4], 1), (0, [1, 4], 1), (0, [2], 3), (0, [3], 3), (0, [4], 1), (0, [5], 1), (3, [0, 4], 1), (3, [1, 4], 1), (3, [2], 3), (3, [3], 3), (3, [4], 1), (3, [5], 1), (5, [], 3)] := by kernel_rfl
theorem al27_15 : AN.frl 27 15 = false := by kernel_rfl
theorem ak27_7 : AN.keep 27 7 = some [4, 5, 6, 7, 9, 38, 39, 40] := by kernel_rfl
theorem ax27_7 : AN.fix 27 7 = [(0, [0, 4], 1), (0, [1, 4], 1), (0, [2], 3), (0, [3], 3), (0, [4], 1), (0, [5], 1), (3, [0, 4], 1), (3, [1, 4], 1), (3, [2], 3), (3, [3], 3), (3, [4], 1), (3, [5], 1), (5, [], 3)] := by kernel_rfl
theorem al27_7 : AN.frl 27 7 = false := by kernel_rfl
theorem ak38_31 : AN.keep 38 31 = some [2, 4, 17] := by kernel_rfl
theorem ax38_31 : AN.fix 38 31 = [] := by kernel_rfl
theorem al38_31 : AN.frl 38 31 = false := by kernel_rfl
theorem ak41_2 : AN.keep 41 2 = some [0, 7, 8, 9] := by kernel_rfl
theorem ax41_2 : AN.fix 41 2 = [(0, [0, 4], 1), (0, [1, 4], 1), (0, [2], 3), (0, [3], 3), (0, [4], 1), (0, [5], 1), (1, [], 1)] := by kernel_rfl
theorem al41_2 : AN.frl 41 2 = false := by kernel_rfl
theorem ak42_6 : AN.keep 42 6 = some [0, 2, 17, 18, 19] := by kernel_rfl
theorem ax42_6 : AN.fix 42 6 = [(0, [0, 4], 1), (0, [1, 4], 1), (0, [2], 3), (0, [3], 3), (0, [4], 1), (0, [5], 1), (2, [], 1)] := by kernel_rfl
theorem al42_6 : AN.frl 42 6 = false := by kernel_rfl
theorem ak47_4 : AN.keep 47 4 = some [1, 2, 3, 4] := by kernel_rfl
theorem ax47_4 : AN.fix 47 4 = [(2, [], 6)] := by kernel_rfl
theorem al47_4 : AN.frl 47 4 = false := by kernel_rfl
set_option maxRecDepth 100000
theorem anf : type_of% @ab3 ∧ type_of% @ap3 ∧ type_of% @ao3 ∧ type_of% @af3 ∧ type_of% @ar3 ∧ type_of% @ab4 ∧ type_of% @ap4 ∧ type_of% @ao4 ∧ type_of% @af4 ∧ type_of% @ar4 ∧ type_of% @ab5 ∧ type_of% @ap5 ∧ type_of% @ao5 ∧ type_of% @af5 ∧ type_of% @ar5 ∧ type_of% @ab6 ∧ type_of% @ap6 ∧ type_of% @ao6 ∧ type_of% @af6 ∧ type_of% @ar6 ∧ type_of% @ab7 ∧ type_of% @ap7 ∧ type_of% @ao7 ∧ type_of% @af7 ∧ type_of% @ar7 ∧ type_of% @ab8 ∧ type_of% @ap8 ∧ type_of% @ao8 ∧ type_of% @af8 ∧ type_of% @ar8 ∧ type_of% @ab9 ∧ type_of% @ap9 ∧ type_of% @ao9 ∧ type_of% @af9 ∧ type_of% @ar9 ∧ type_of% @ab10 ∧ type_of% @ap10 ∧ type_of% @ao10 ∧ type_of% @af10 ∧ type_of% @ar10 ∧ type_of% @ab11 ∧ type_of% @ap11 ∧ type_of% @ao11 ∧ type_of% @af11 ∧ type_of% @ar11 ∧ type_of% @ab12 ∧ type_of% @ap12 ∧ type_of% @ao12 ∧ type_of% @af12 ∧ type_of% @ar12 ∧ type_of% @ab13 ∧ type_of% @ap13 ∧ type_of% @ao13 ∧ type_of% @af13 ∧ type_of% @ar13 ∧ type_of% @ab14 ∧ type_of% @ap14 ∧ type_of% @ao14 ∧ type_of% @af14 ∧ type_of% @ar14 ∧ type_of% @ab15 ∧ type_of% @ap15 ∧ type_of% @ao15 ∧ type_of% @af15 ∧ type_of% @ar15 ∧ type_of% @ab16 ∧ type_of% @ap16 ∧ type_of% @ao16 ∧ type_of% @af16 ∧ type_of% @ar16 ∧ type_of% @ab17 ∧ type_of% @ap17 ∧ type_of% @ao17 ∧ type_of% @af17 ∧ type_of% @ar17 ∧ type_of% @ab18 ∧ type_of% @ap18 ∧ type_of% @ao18 ∧ type_of% @af18 ∧ type_of% @ar18 ∧ type_of% @ab19 ∧ type_of% @ap19 ∧ type_of% @ao19 ∧ type_of% @af19 ∧ type_of% @ar19 ∧ type_of% @ab20 ∧ type_of% @ap20 ∧ type_of% @ao20 ∧ type_of% @af20 ∧ type_of% @ar20 ∧ type_of% @ab21 ∧ type_of% @ap21 ∧ type_of% @ao21 ∧ type_of% @af21 ∧ type_of% @ar21 ∧ type_of% @ab22 ∧ type_of% @ap22 ∧ type_of% @ao22 ∧ type_of% @af22 ∧ type_of% @ar22 ∧ type_of% @ab23 ∧ type_of% @ap23 ∧ type_of% @ao23 ∧ type_of% @af23 ∧ type_of% @ar23 ∧ type_of% @ab24 ∧ type_of% @ap24 ∧ type_of% @ao24 ∧ type_of% @af24 ∧ type_of% @ar24 ∧ type_of% @ab25 ∧ type_of% @ap25 ∧ type_of% @ao25 ∧ type_of% @af25 ∧ type_of% @ar25 ∧ type_of% @ab26 ∧ type_of% @ap26 ∧ type_of% @ao26 ∧ type_of% @af26 ∧ type_of% @ar26 ∧ type_of% @ab27 ∧ type_of% @ap27 ∧ type_of% @ao27 ∧ type_of% @af27 ∧ type_of% @ar27 ∧ type_of% @ab28 ∧ type_of% @ap28 ∧ type_of% @ao28 ∧ type_of% @af28 ∧ type_of% @ar28 ∧ type_of% @ab29 ∧ type_of% @ap29 ∧ type_of% @ao29 ∧ type_of% @af29 ∧ type_of% @ar29 ∧ type_of% @ab30 ∧ type_of% @ap30 ∧ type_of% @ao30 ∧ type_of% @af30 ∧ type_of% @ar30 ∧ type_of% @ab31 ∧ type_of% @ap31 ∧ type_of% @ao31 ∧ type_of% @af31 ∧ type_of% @ar31 ∧ type_of% @ab32 ∧ type_of% @ap32 ∧ type_of% @ao32 ∧ type_of% @af32 ∧ type_of% @ar32 ∧ type_of% @ab33 ∧ type_of% @ap33 ∧ type_of% @ao33 ∧ type_of% @af33 ∧ type_of% @ar33 ∧ type_of% @ab34 ∧ type_of% @ap34 ∧ type_of% @ao34 ∧ type_of% @af34 ∧ type_of% @ar34 ∧ type_of% @ab35 ∧ type_of% @ap35 ∧ type_of% @ao35 ∧ type_of% @af35 ∧ type_of% @ar35 ∧ type_of% @ab36 ∧ type_of% @ap36 ∧ type_of% @ao36 ∧ type_of% @af36 ∧ type_of% @ar36 ∧ type_of% @ab37 ∧ type_of% @ap37 ∧ type_of% @ao37 ∧ type_of% @af37 ∧ type_of% @ar37 ∧ type_of% @ab38 ∧ type_of% @ap38 ∧ type_of% @ao38 ∧ type_of% @af38 ∧ type_of% @ar38 ∧ type_of% @ab39 ∧ type_of% @ap39 ∧ type_of% @ao39 ∧ type_of% @af39 ∧ type_of% @ar39 ∧ type_of% @ab40 ∧ type_of% @ap40 ∧ type_of% @ao40 ∧ type_of% @af40 ∧ type_of% @ar40 ∧ type_of% @ab41 ∧ type_of% @ap41 ∧ type_of% @ao41 ∧ type_of% @af41 ∧ type_of% @ar41 ∧ type_of% @ab42 ∧ type_of% @ap42 ∧ type_of% @ao42 ∧ type_of% @af42 ∧ type_of% @ar42 ∧ type_of% @ab43 ∧ type_of% @ap43 ∧ type_of% @ao43 ∧ type_of% @af43 ∧ type_of% @ar43 ∧ type_of% @ab44 ∧ type_of% @ap44 ∧ type_of% @ao44 ∧ type_of% @af44 ∧ type_of% @ar44 ∧ type_of% @ab45 ∧ type_of% @ap45 ∧ type_of% @ao45 ∧ type_of% @af45 ∧ type_of% @ar45 ∧ type_of% @ab46 ∧ type_of% @ap46 ∧ type_of% @ao46 ∧ type_of% @af46 ∧ type_of% @ar46 ∧ type_of% @ab47 ∧ type_of% @ap47 ∧ type_of% @ao47 ∧ type_of% @af47 ∧ type_of% @ar47 ∧ type_of% @ad3_31 ∧ type_of% @ad4_14 ∧ type_of% @ad6_14 ∧ type_of% @ad6_32 ∧ type_of% @ad11_3 ∧ type_of% @ad12_8 ∧ type_of% @ad13_6 ∧ type_of% @ad16_4 ∧ type_of% @ad18_9 ∧ type_of% @ad18_17 ∧ type_of% @ad18_21 ∧ type_of% @ad18_23 ∧ type_of% @ad18_24 ∧ type_of% @ad18_28 ∧ type_of% @ad19_16 ∧ type_of% @ad19_20 ∧ type_of% @ad19_22 ∧ type_of% @ad20_6 ∧ type_of% @ad25_3 ∧ type_of% @ad26_3 ∧ type_of% @ad27_4 ∧ type_of% @ad27_12 ∧ type_of% @ad27_16 ∧ type_of% @ad27_17 ∧ type_of% @ad27_20 ∧ type_of% @ad28_6 ∧ type_of% @ad29_3 ∧ type_of% @ad32_0 ∧ type_of% @ad38_4 ∧ type_of% @ad38_15 ∧ type_of% @ad39_0 ∧ type_of% @ad40_4 ∧ type_of% @ad40_5 ∧ type_of% @ad40_9 ∧ type_of% @ak3_9 ∧ type_of% @ax3_9 ∧ type_of% @al3_9 ∧ type_of% @ak4_5 ∧ type_of% @ax4_5 ∧ type_of% @al4_5 ∧ type_of% @ak6_30 ∧ type_of% @ax6_30 ∧ type_of% @al6_30 ∧ type_of% @ak6_23 ∧ type_of% @ax6_23 ∧ type_of% @al6_23 ∧ type_of% @ak6_20 ∧ type_of% @ax6_20 ∧ type_of% @al6_20 ∧ type_of% @ak6_9 ∧ type_of% @ax6_9 ∧ type_of% @al6_9 ∧ type_of% @ak8_6 ∧ type_of% @ax8_6 ∧ type_of% @al8_6 ∧ type_of% @ak13_5 ∧ type_of% @ax13_5 ∧ type_of% @al13_5 ∧ type_of% @ak14_4 ∧ type_of% @ax14_4 ∧ type_of% @al14_4 ∧ type_of% @ak18_14 ∧ type_of% @ax18_14 ∧ type_of% @al18_14 ∧ type_of% @ak19_15 ∧ type_of% @ax19_15 ∧ type_of% @al19_15 ∧ type_of% @ak20_5 ∧ type_of% @ax20_5 ∧ type_of% @al20_5 ∧ type_of% @ak23_4 ∧ type_of% @ax23_4 ∧ type_of% @al23_4 ∧ type_of% @ak24_4 ∧ type_of% @ax24_4 ∧ type_of% @al24_4 ∧ type_of% @ak27_15 ∧ type_of% @ax27_15 ∧ type_of% @al27_15 ∧ type_of% @ak27_7 ∧ type_of% @ax27_7 ∧ type_of% @al27_7 ∧ type_of% @ak38_31 ∧ type_of% @ax38_31 ∧ type_of% @al38_31 ∧ type_of% @ak41_2 ∧ type_of% @ax41_2 ∧ type_of% @al41_2 ∧ type_of% @ak42_6 ∧ type_of% @ax42_6 ∧ type_of% @al42_6 ∧ type_of% @ak47_4 ∧ type_of% @ax47_4 ∧ type_of% @al47_4 :=
  ⟨@ab3, @ap3, @ao3, @af3, @ar3, @ab4, @ap4, @ao4, @af4, @ar4, @ab5, @ap5, @ao5, @af5, @ar5, @ab6, @ap6, @ao6, @af6, @ar6, @ab7, @ap7, @ao7, @af7, @ar7, @ab8, @ap8, @ao8, @af8, @ar8, @ab9, @ap9, @ao9, @af9, @ar9, @ab10, @ap10, @ao10, @af10, @ar10, @ab11, @ap11, @ao11, @af11, @ar11, @ab12, @ap12, @ao12, @af12, @ar12, @ab13, @ap13, @ao13, @af13, @ar13, @ab14, @ap14, @ao14, @af14, @ar14, @ab15, @ap15, @ao15, @af15, @ar15, @ab16, @ap16, @ao16, @af16, @ar16, @ab17, @ap17, @ao17, @af17, @ar17, @ab18, @ap18, @ao18, @af18, @ar18, @ab19, @ap19, @ao19, @af19, @ar19, @ab20, @ap20, @ao20, @af20, @ar20, @ab21, @ap21, @ao21, @af21, @ar21, @ab22, @ap22, @ao22, @af22, @ar22, @ab23, @ap23, @ao23, @af23, @ar23, @ab24, @ap24, @ao24, @af24, @ar24, @ab25, @ap25, @ao25, @af25, @ar25, @ab26, @ap26, @ao26, @af26, @ar26, @ab27, @ap27, @ao27, @af27, @ar27, @ab28, @ap28, @ao28, @af28, @ar28, @ab29, @ap29, @ao29, @af29, @ar29, @ab30, @ap30, @ao30, @af30, @ar30, @ab31, @ap31, @ao31, @af31, @ar31, @ab32, @ap32, @ao32, @af32, @ar32, @ab33, @ap33, @ao33, @af33, @ar33, @ab34, @ap34, @ao34, @af34, @ar34, @ab35, @ap35, @ao35, @af35, @ar35, @ab36, @ap36, @ao36, @af36, @ar36, @ab37, @ap37, @ao37, @af37, @ar37, @ab38, @ap38, @ao38, @af38, @ar38, @ab39, @ap39, @ao39, @af39, @ar39, @ab40, @ap40, @ao40, @af40, @ar40, @ab41, @ap41, @ao41, @af41, @ar41, @ab42, @ap42, @ao42, @af42, @ar42, @ab43, @ap43, @ao43, @af43, @ar43, @ab44, @ap44, @ao44, @af44, @ar44, @ab45, @ap45, @ao45, @af45, @ar45, @ab46, @ap46, @ao46, @af46, @ar46, @ab47, @ap47, @ao47, @af47, @ar47, @ad3_31, @ad4_14, @ad6_14, @ad6_32, @ad11_3, @ad12_8, @ad13_6, @ad16_4, @ad18_9, @ad18_17, @ad18_21, @ad18_23, @ad18_24, @ad18_28, @ad19_16, @ad19_20, @ad19_22, @ad20_6, @ad25_3, @ad26_3, @ad27_4, @ad27_12, @ad27_16, @ad27_17, @ad27_20, @ad28_6, @ad29_3, @ad32_0, @ad38_4, @ad38_15, @ad39_0, @ad40_4, @ad40_5, @ad40_9, @ak3_9, @ax3_9, @al3_9, @ak4_5, @ax4_5, @al4_5, @ak6_30, @ax6_30, @al6_30, @ak6_23, @ax6_23, @al6_23, @ak6_20, @ax6_20, @al6_20, @ak6_9, @ax6_9, @al6_9, @ak8_6, @ax8_6, @al8_6, @ak13_5, @ax13_5, @al13_5, @ak14_4, @ax14_4, @al14_4, @ak18_14, @ax18_14, @al18_14, @ak19_15, @ax19_15, @al19_15, @ak20_5, @ax20_5, @al20_5, @ak23_4, @ax23_4, @al23_4, @ak24_4, @ax24_4, @al24_4, @ak27_15, @ax27_15, @al27_15, @ak27_7, @ax27_7, @al27_7, @ak38_31, @ax38_31, @al38_31, @ak41_2, @ax41_2, @al41_2, @ak42_6, @ax42_6, @al42_6, @ak47_4, @ax47_4, @al47_4⟩
theorem l3_9 (v : List AV) (l : HL) : type_of% (ev_loop (P := Try.prog) (G := G) (A := AN) (f := 3) (key := 9) (n := 168) (keep := [4, 5, 7, 60, 61, 62]) (by kernel_rfl) Try.func3 rfl rfl rfl (by kernel_rfl) v l) :=
  ev_loop (P := Try.prog) (G := G) (A := AN) (f := 3) (key := 9) (n := 168) (keep := [4, 5, 7, 60, 61, 62]) (by kernel_rfl) Try.func3 rfl rfl rfl (by kernel_rfl) v l
theorem l4_5 (v : List AV) (l : HL) : type_of% (ev_loop (P := Try.prog) (G := G) (A := AN) (f := 4) (key := 5) (n := 100) (keep := [0, 1, 4, 21]) (by kernel_rfl) Try.func4 rfl rfl rfl (by kernel_rfl) v l) :=
  ev_loop (P := Try.prog) (G := G) (A := AN) (f := 4) (key := 5) (n := 100) (keep := [0, 1, 4, 21]) (by kernel_rfl) Try.func4 rfl rfl rfl (by kernel_rfl) v l
theorem l6_30 (v : List AV) (l : HL) : type_of% (ev_loop (P := Try.prog) (G := G) (A := AN) (f := 6) (key := 30) (n := 127) (keep := [4, 5, 7, 93]) (by kernel_rfl) Try.func6 rfl rfl rfl (by kernel_rfl) v l) :=
  ev_loop (P := Try.prog) (G := G) (A := AN) (f := 6) (key := 30) (n := 127) (keep := [4, 5, 7, 93]) (by kernel_rfl) Try.func6 rfl rfl rfl (by kernel_rfl) v l
theorem l6_23 (v : List AV) (l : HL) : type_of% (ev_loop (P := Try.prog) (G := G) (A := AN) (f := 6) (key := 23) (n := 127) (keep := [4, 5, 7, 71, 83]) (by kernel_rfl) Try.func6 rfl rfl rfl (by kernel_rfl) v l) :=
  ev_loop (P := Try.prog) (G := G) (A := AN) (f := 6) (key := 23) (n := 127) (keep := [4, 5, 7, 71, 83]) (by kernel_rfl) Try.func6 rfl rfl rfl (by kernel_rfl) v l
theorem l6_20 (v : List AV) (l : HL) : type_of% (ev_loop (P := Try.prog) (G := G) (A := AN) (f := 6) (key := 20) (n := 127) (keep := [4, 5, 7, 71]) (by kernel_rfl) Try.func6 rfl rfl rfl (by kernel_rfl) v l) :=
  ev_loop (P := Try.prog) (G := G) (A := AN) (f := 6) (key := 20) (n := 127) (keep := [4, 5, 7, 71]) (by kernel_rfl) Try.func6 rfl rfl rfl (by kernel_rfl) v l
theorem l6_9 (v : List AV) (l : HL) : type_of% (ev_loop (P := Try.prog) (G := G) (A := AN) (f := 6) (key := 9) (n := 127) (keep := [5, 7, 32, 33, 34]) (by kernel_rfl) Try.func6 rfl rfl rfl (by kernel_rfl) v l) :=
  ev_loop (P := Try.prog) (G := G) (A := AN) (f := 6) (key := 9) (n := 127) (keep := [5, 7, 32, 33, 34]) (by kernel_rfl) Try.func6 rfl rfl rfl (by kernel_rfl) v l
theorem l8_6 (v : List AV) (l : HL) : type_of% (ev_loop (P := Try.prog) (G := G) (A := AN) (f := 8) (key := 6) (n := 45) (keep := [0, 1, 17, 18, 19]) (by kernel_rfl) Try.func8 rfl rfl rfl (by kernel_rfl) v l) :=
  ev_loop (P := Try.prog) (G := G) (A := AN) (f := 8) (key := 6) (n := 45) (keep := [0, 1, 17, 18, 19]) (by kernel_rfl) Try.func8 rfl rfl rfl (by kernel_rfl) v l
theorem l13_5 (v : List AV) (l : HL) : type_of% (ev_loop (P := Try.prog) (G := G) (A := AN) (f := 13) (key := 5) (n := 26) (keep := [0, 1, 4, 12, 13]) (by kernel_rfl) Try.func13 rfl rfl rfl (by kernel_rfl) v l) :=
  ev_loop (P := Try.prog) (G := G) (A := AN) (f := 13) (key := 5) (n := 26) (keep := [0, 1, 4, 12, 13]) (by kernel_rfl) Try.func13 rfl rfl rfl (by kernel_rfl) v l
theorem l14_4 (v : List AV) (l : HL) : type_of% (ev_loop (P := Try.prog) (G := G) (A := AN) (f := 14) (key := 4) (n := 18) (keep := [3, 6, 7, 8]) (by kernel_rfl) Try.func14 rfl rfl rfl (by kernel_rfl) v l) :=
  ev_loop (P := Try.prog) (G := G) (A := AN) (f := 14) (key := 4) (n := 18) (keep := [3, 6, 7, 8]) (by kernel_rfl) Try.func14 rfl rfl rfl (by kernel_rfl) v l
theorem l18_14 (v : List AV) (l : HL) : type_of% (ev_loop (P := Try.prog) (G := G) (A := AN) (f := 18) (key := 14) (n := 208) (keep := [0, 4, 5, 6, 7, 67, 68, 69]) (by kernel_rfl) Try.func18 rfl rfl rfl (by kernel_rfl) v l) :=
  ev_loop (P := Try.prog) (G := G) (A := AN) (f := 18) (key := 14) (n := 208) (keep := [0, 4, 5, 6, 7, 67, 68, 69]) (by kernel_rfl) Try.func18 rfl rfl rfl (by kernel_rfl) v l
theorem l19_15 (v : List AV) (l : HL) : type_of% (ev_loop (P := Try.prog) (G := G) (A := AN) (f := 19) (key := 15) (n := 135) (keep := [2, 4, 9, 10]) (by kernel_rfl) Try.func19 rfl rfl rfl (by kernel_rfl) v l) :=
  ev_loop (P := Try.prog) (G := G) (A := AN) (f := 19) (key := 15) (n := 135) (keep := [2, 4, 9, 10]) (by kernel_rfl) Try.func19 rfl rfl rfl (by kernel_rfl) v l
theorem l20_5 (v : List AV) (l : HL) : type_of% (ev_loop (P := Try.prog) (G := G) (A := AN) (f := 20) (key := 5) (n := 26) (keep := [0, 1, 4, 12, 13]) (by kernel_rfl) Try.func20 rfl rfl rfl (by kernel_rfl) v l) :=
  ev_loop (P := Try.prog) (G := G) (A := AN) (f := 20) (key := 5) (n := 26) (keep := [0, 1, 4, 12, 13]) (by kernel_rfl) Try.func20 rfl rfl rfl (by kernel_rfl) v l
theorem l23_4 (v : List AV) (l : HL) : type_of% (ev_loop (P := Try.prog) (G := G) (A := AN) (f := 23) (key := 4) (n := 29) (keep := [0, 2, 3, 4, 10]) (by kernel_rfl) Try.func23 rfl rfl rfl (by kernel_rfl) v l) :=
  ev_loop (P := Try.prog) (G := G) (A := AN) (f := 23) (key := 4) (n := 29) (keep := [0, 2, 3, 4, 10]) (by kernel_rfl) Try.func23 rfl rfl rfl (by kernel_rfl) v l
theorem l24_4 (v : List AV) (l : HL) : type_of% (ev_loop (P := Try.prog) (G := G) (A := AN) (f := 24) (key := 4) (n := 46) (keep := [0, 2, 6, 7, 8, 12, 13, 14]) (by kernel_rfl) Try.func24 rfl rfl rfl (by kernel_rfl) v l) :=
  ev_loop (P := Try.prog) (G := G) (A := AN) (f := 24) (key := 4) (n := 46) (keep := [0, 2, 6, 7, 8, 12, 13, 14]) (by kernel_rfl) Try.func24 rfl rfl rfl (by kernel_rfl) v l
theorem l27_15 (v : List AV) (l : HL) : type_of% (ev_loop (P := Try.prog) (G := G) (A := AN) (f := 27) (key := 15) (n := 101) (keep := [4, 5, 6, 7, 9, 38, 39, 40, 58]) (by kernel_rfl) Try.func27 rfl rfl rfl (by kernel_rfl) v l) :=
  ev_loop (P := Try.prog) (G := G) (A := AN) (f := 27) (key := 15) (n := 101) (keep := [4, 5, 6, 7, 9, 38, 39, 40, 58]) (by kernel_rfl) Try.func27 rfl rfl rfl (by kernel_rfl) v l
theorem l27_7 (v : List AV) (l : HL) : type_of% (ev_loop (P := Try.prog) (G := G) (A := AN) (f := 27) (key := 7) (n := 101) (keep := [4, 5, 6, 7, 9, 38, 39, 40]) (by kernel_rfl) Try.func27 rfl rfl rfl (by kernel_rfl) v l) :=
  ev_loop (P := Try.prog) (G := G) (A := AN) (f := 27) (key := 7) (n := 101) (keep := [4, 5, 6, 7, 9, 38, 39, 40]) (by kernel_rfl) Try.func27 rfl rfl rfl (by kernel_rfl) v l
theorem l38_31 (v : List AV) (l : HL) : type_of% (ev_loop (P := Try.prog) (G := G) (A := AN) (f := 38) (key := 31) (n := 160) (keep := [2, 4, 17]) (by kernel_rfl) Try.func38 rfl rfl rfl (by kernel_rfl) v l) :=
  ev_loop (P := Try.prog) (G := G) (A := AN) (f := 38) (key := 31) (n := 160) (keep := [2, 4, 17]) (by kernel_rfl) Try.func38 rfl rfl rfl (by kernel_rfl) v l
theorem l41_2 (v : List AV) (l : HL) : type_of% (ev_loop (P := Try.prog) (G := G) (A := AN) (f := 41) (key := 2) (n := 25) (keep := [0, 7, 8, 9]) (by kernel_rfl) Try.func41 rfl rfl rfl (by kernel_rfl) v l) :=
  ev_loop (P := Try.prog) (G := G) (A := AN) (f := 41) (key := 2) (n := 25) (keep := [0, 7, 8, 9]) (by kernel_rfl) Try.func41 rfl rfl rfl (by kernel_rfl) v l
theorem l42_6 (v : List AV) (l : HL) : type_of% (ev_loop (P := Try.prog) (G := G) (A := AN) (f := 42) (key := 6) (n := 38) (keep := [0, 2, 17, 18, 19]) (by kernel_rfl) Try.func42 rfl rfl rfl (by kernel_rfl) v l) :=
  ev_loop (P := Try.prog) (G := G) (A := AN) (f := 42) (key := 6) (n := 38) (keep := [0, 2, 17, 18, 19]) (by kernel_rfl) Try.func42 rfl rfl rfl (by kernel_rfl) v l
theorem l47_4 (v : List AV) (l : HL) : type_of% (ev_loop (P := Try.prog) (G := G) (A := AN) (f := 47) (key := 4) (n := 27) (keep := [1, 2, 3, 4]) (by kernel_rfl) Try.func47 rfl rfl rfl (by kernel_rfl) v l) :=
  ev_loop (P := Try.prog) (G := G) (A := AN) (f := 47) (key := 4) (n := 27) (keep := [1, 2, 3, 4]) (by kernel_rfl) Try.func47 rfl rfl rfl (by kernel_rfl) v l
theorem e3 (a : List AV) (l : HL) : type_of% (ev_fun (P := Try.prog) (G := G) (A := AN) (f := 3) (n := 168) (rs := [.tmp 4]) (by kernel_rfl) Try.func3 rfl rfl rfl a l) :=
  ev_fun (P := Try.prog) (G := G) (A := AN) (f := 3) (n := 168) (rs := [.tmp 4]) (by kernel_rfl) Try.func3 rfl rfl rfl a l
theorem e4 (a : List AV) (l : HL) : type_of% (ev_fun (P := Try.prog) (G := G) (A := AN) (f := 4) (n := 100) (rs := [.tmp 4]) (by kernel_rfl) Try.func4 rfl rfl rfl a l) :=
  ev_fun (P := Try.prog) (G := G) (A := AN) (f := 4) (n := 100) (rs := [.tmp 4]) (by kernel_rfl) Try.func4 rfl rfl rfl a l
theorem e5 (a : List AV) (l : HL) : type_of% (ev_fun (P := Try.prog) (G := G) (A := AN) (f := 5) (n := 24) (rs := [.tmp 4]) (by kernel_rfl) Try.func5 rfl rfl rfl a l) :=
  ev_fun (P := Try.prog) (G := G) (A := AN) (f := 5) (n := 24) (rs := [.tmp 4]) (by kernel_rfl) Try.func5 rfl rfl rfl a l
theorem e6 (a : List AV) (l : HL) : type_of% (ev_fun (P := Try.prog) (G := G) (A := AN) (f := 6) (n := 127) (rs := [.tmp 4]) (by kernel_rfl) Try.func6 rfl rfl rfl a l) :=
  ev_fun (P := Try.prog) (G := G) (A := AN) (f := 6) (n := 127) (rs := [.tmp 4]) (by kernel_rfl) Try.func6 rfl rfl rfl a l
theorem e7 (a : List AV) (l : HL) : type_of% (ev_fun (P := Try.prog) (G := G) (A := AN) (f := 7) (n := 105) (rs := [.tmp 4]) (by kernel_rfl) Try.func7 rfl rfl rfl a l) :=
  ev_fun (P := Try.prog) (G := G) (A := AN) (f := 7) (n := 105) (rs := [.tmp 4]) (by kernel_rfl) Try.func7 rfl rfl rfl a l
theorem e8 (a : List AV) (l : HL) : type_of% (ev_fun (P := Try.prog) (G := G) (A := AN) (f := 8) (n := 45) (rs := [.tmp 0]) (by kernel_rfl) Try.func8 rfl rfl rfl a l) :=
  ev_fun (P := Try.prog) (G := G) (A := AN) (f := 8) (n := 45) (rs := [.tmp 0]) (by kernel_rfl) Try.func8 rfl rfl rfl a l
theorem e9 (a : List AV) (l : HL) : type_of% (ev_fun (P := Try.prog) (G := G) (A := AN) (f := 9) (n := 13) (rs := [.tmp 2, .tmp 3]) (by kernel_rfl) Try.func9 rfl rfl rfl a l) :=
  ev_fun (P := Try.prog) (G := G) (A := AN) (f := 9) (n := 13) (rs := [.tmp 2, .tmp 3]) (by kernel_rfl) Try.func9 rfl rfl rfl a l
theorem e10 (a : List AV) (l : HL) : type_of% (ev_fun (P := Try.prog) (G := G) (A := AN) (f := 10) (n := 13) (rs := [.cell 2 30, .tmp 3]) (by kernel_rfl) Try.func10 rfl rfl rfl a l) :=
  ev_fun (P := Try.prog) (G := G) (A := AN) (f := 10) (n := 13) (rs := [.cell 2 30, .tmp 3]) (by kernel_rfl) Try.func10 rfl rfl rfl a l
theorem e11 (a : List AV) (l : HL) : type_of% (ev_fun (P := Try.prog) (G := G) (A := AN) (f := 11) (n := 61) (rs := [.tmp 4, .tmp 5]) (by kernel_rfl) Try.func11 rfl rfl rfl a l) :=
  ev_fun (P := Try.prog) (G := G) (A := AN) (f := 11) (n := 61) (rs := [.tmp 4, .tmp 5]) (by kernel_rfl) Try.func11 rfl rfl rfl a l
theorem e12 (a : List AV) (l : HL) : type_of% (ev_fun (P := Try.prog) (G := G) (A := AN) (f := 12) (n := 40) (rs := [.cell 4 30, .tmp 5, .tmp 6]) (by kernel_rfl) Try.func12 rfl rfl rfl a l) :=
  ev_fun (P := Try.prog) (G := G) (A := AN) (f := 12) (n := 40) (rs := [.cell 4 30, .tmp 5, .tmp 6]) (by kernel_rfl) Try.func12 rfl rfl rfl a l
theorem e13 (a : List AV) (l : HL) : type_of% (ev_fun (P := Try.prog) (G := G) (A := AN) (f := 13) (n := 26) (rs := [.tmp 4]) (by kernel_rfl) Try.func13 rfl rfl rfl a l) :=
  ev_fun (P := Try.prog) (G := G) (A := AN) (f := 13) (n := 26) (rs := [.tmp 4]) (by kernel_rfl) Try.func13 rfl rfl rfl a l
theorem e14 (a : List AV) (l : HL) : type_of% (ev_fun (P := Try.prog) (G := G) (A := AN) (f := 14) (n := 18) (rs := [.tmp 2]) (by kernel_rfl) Try.func14 rfl rfl rfl a l) :=
  ev_fun (P := Try.prog) (G := G) (A := AN) (f := 14) (n := 18) (rs := [.tmp 2]) (by kernel_rfl) Try.func14 rfl rfl rfl a l
theorem e15 (a : List AV) (l : HL) : type_of% (ev_fun (P := Try.prog) (G := G) (A := AN) (f := 15) (n := 25) (rs := [.tmp 2, .tmp 3]) (by kernel_rfl) Try.func15 rfl rfl rfl a l) :=
  ev_fun (P := Try.prog) (G := G) (A := AN) (f := 15) (n := 25) (rs := [.tmp 2, .tmp 3]) (by kernel_rfl) Try.func15 rfl rfl rfl a l
theorem e16 (a : List AV) (l : HL) : type_of% (ev_fun (P := Try.prog) (G := G) (A := AN) (f := 16) (n := 15) (rs := [.cell 2 30, .tmp 3, .tmp 4]) (by kernel_rfl) Try.func16 rfl rfl rfl a l) :=
  ev_fun (P := Try.prog) (G := G) (A := AN) (f := 16) (n := 15) (rs := [.cell 2 30, .tmp 3, .tmp 4]) (by kernel_rfl) Try.func16 rfl rfl rfl a l
theorem e17 (a : List AV) (l : HL) : type_of% (ev_fun (P := Try.prog) (G := G) (A := AN) (f := 17) (n := 8) (rs := []) (by kernel_rfl) Try.func17 rfl rfl rfl a l) :=
  ev_fun (P := Try.prog) (G := G) (A := AN) (f := 17) (n := 8) (rs := []) (by kernel_rfl) Try.func17 rfl rfl rfl a l
theorem e18 (a : List AV) (l : HL) : type_of% (ev_fun (P := Try.prog) (G := G) (A := AN) (f := 18) (n := 208) (rs := [.tmp 4, .cell 5 37, .tmp 6]) (by kernel_rfl) Try.func18 rfl rfl rfl a l) :=
  ev_fun (P := Try.prog) (G := G) (A := AN) (f := 18) (n := 208) (rs := [.tmp 4, .cell 5 37, .tmp 6]) (by kernel_rfl) Try.func18 rfl rfl rfl a l
theorem e19 (a : List AV) (l : HL) : type_of% (ev_fun (P := Try.prog) (G := G) (A := AN) (f := 19) (n := 135) (rs := [.cell 4 30, .tmp 5, .tmp 6, .tmp 7]) (by kernel_rfl) Try.func19 rfl rfl rfl a l) :=
  ev_fun (P := Try.prog) (G := G) (A := AN) (f := 19) (n := 135) (rs := [.cell 4 30, .tmp 5, .tmp 6, .tmp 7]) (by kernel_rfl) Try.func19 rfl rfl rfl a l
theorem e20 (a : List AV) (l : HL) : type_of% (ev_fun (P := Try.prog) (G := G) (A := AN) (f := 20) (n := 26) (rs := [.tmp 4]) (by kernel_rfl) Try.func20 rfl rfl rfl a l) :=
  ev_fun (P := Try.prog) (G := G) (A := AN) (f := 20) (n := 26) (rs := [.tmp 4]) (by kernel_rfl) Try.func20 rfl rfl rfl a l
theorem e21 (a : List AV) (l : HL) : type_of% (ev_fun (P := Try.prog) (G := G) (A := AN) (f := 21) (n := 38) (rs := [.tmp 4]) (by kernel_rfl) Try.func21 rfl rfl rfl a l) :=
  ev_fun (P := Try.prog) (G := G) (A := AN) (f := 21) (n := 38) (rs := [.tmp 4]) (by kernel_rfl) Try.func21 rfl rfl rfl a l
theorem e22 (a : List AV) (l : HL) : type_of% (ev_fun (P := Try.prog) (G := G) (A := AN) (f := 22) (n := 16) (rs := [.cell 2 55]) (by kernel_rfl) Try.func22 rfl rfl rfl a l) :=
  ev_fun (P := Try.prog) (G := G) (A := AN) (f := 22) (n := 16) (rs := [.cell 2 55]) (by kernel_rfl) Try.func22 rfl rfl rfl a l
theorem e23 (a : List AV) (l : HL) : type_of% (ev_fun (P := Try.prog) (G := G) (A := AN) (f := 23) (n := 29) (rs := [.tmp 2, .tmp 3]) (by kernel_rfl) Try.func23 rfl rfl rfl a l) :=
  ev_fun (P := Try.prog) (G := G) (A := AN) (f := 23) (n := 29) (rs := [.tmp 2, .tmp 3]) (by kernel_rfl) Try.func23 rfl rfl rfl a l
theorem e24 (a : List AV) (l : HL) : type_of% (ev_fun (P := Try.prog) (G := G) (A := AN) (f := 24) (n := 46) (rs := [.tmp 6, .tmp 7]) (by kernel_rfl) Try.func24 rfl rfl rfl a l) :=
  ev_fun (P := Try.prog) (G := G) (A := AN) (f := 24) (n := 46) (rs := [.tmp 6, .tmp 7]) (by kernel_rfl) Try.func24 rfl rfl rfl a l
theorem e25 (a : List AV) (l : HL) : type_of% (ev_fun (P := Try.prog) (G := G) (A := AN) (f := 25) (n := 15) (rs := [.tmp 4]) (by kernel_rfl) Try.func25 rfl rfl rfl a l) :=
  ev_fun (P := Try.prog) (G := G) (A := AN) (f := 25) (n := 15) (rs := [.tmp 4]) (by kernel_rfl) Try.func25 rfl rfl rfl a l
theorem e26 (a : List AV) (l : HL) : type_of% (ev_fun (P := Try.prog) (G := G) (A := AN) (f := 26) (n := 16) (rs := [.cell 4 55]) (by kernel_rfl) Try.func26 rfl rfl rfl a l) :=
  ev_fun (P := Try.prog) (G := G) (A := AN) (f := 26) (n := 16) (rs := [.cell 4 55]) (by kernel_rfl) Try.func26 rfl rfl rfl a l
theorem e27 (a : List AV) (l : HL) : type_of% (ev_fun (P := Try.prog) (G := G) (A := AN) (f := 27) (n := 101) (rs := [.tmp 4, .cell 5 72, .tmp 6]) (by kernel_rfl) Try.func27 rfl rfl rfl a l) :=
  ev_fun (P := Try.prog) (G := G) (A := AN) (f := 27) (n := 101) (rs := [.tmp 4, .cell 5 72, .tmp 6]) (by kernel_rfl) Try.func27 rfl rfl rfl a l
theorem e28 (a : List AV) (l : HL) : type_of% (ev_fun (P := Try.prog) (G := G) (A := AN) (f := 28) (n := 48) (rs := [.tmp 4]) (by kernel_rfl) Try.func28 rfl rfl rfl a l) :=
  ev_fun (P := Try.prog) (G := G) (A := AN) (f := 28) (n := 48) (rs := [.tmp 4]) (by kernel_rfl) Try.func28 rfl rfl rfl a l
theorem e29 (a : List AV) (l : HL) : type_of% (ev_fun (P := Try.prog) (G := G) (A := AN) (f := 29) (n := 15) (rs := [.tmp 4]) (by kernel_rfl) Try.func29 rfl rfl rfl a l) :=
  ev_fun (P := Try.prog) (G := G) (A := AN) (f := 29) (n := 15) (rs := [.tmp 4]) (by kernel_rfl) Try.func29 rfl rfl rfl a l
theorem e30 (a : List AV) (l : HL) : type_of% (ev_fun (P := Try.prog) (G := G) (A := AN) (f := 30) (n := 7) (rs := []) (by kernel_rfl) Try.func30 rfl rfl rfl a l) :=
  ev_fun (P := Try.prog) (G := G) (A := AN) (f := 30) (n := 7) (rs := []) (by kernel_rfl) Try.func30 rfl rfl rfl a l
theorem e31 (a : List AV) (l : HL) : type_of% (ev_fun (P := Try.prog) (G := G) (A := AN) (f := 31) (n := 32) (rs := [.tmp 2]) (by kernel_rfl) Try.func31 rfl rfl rfl a l) :=
  ev_fun (P := Try.prog) (G := G) (A := AN) (f := 31) (n := 32) (rs := [.tmp 2]) (by kernel_rfl) Try.func31 rfl rfl rfl a l
theorem e32 (a : List AV) (l : HL) : type_of% (ev_fun (P := Try.prog) (G := G) (A := AN) (f := 32) (n := 27) (rs := []) (by kernel_rfl) Try.func32 rfl rfl rfl a l) :=
  ev_fun (P := Try.prog) (G := G) (A := AN) (f := 32) (n := 27) (rs := []) (by kernel_rfl) Try.func32 rfl rfl rfl a l
theorem e33 (a : List AV) (l : HL) : type_of% (ev_fun (P := Try.prog) (G := G) (A := AN) (f := 33) (n := 42) (rs := [.tmp 2]) (by kernel_rfl) Try.func33 rfl rfl rfl a l) :=
  ev_fun (P := Try.prog) (G := G) (A := AN) (f := 33) (n := 42) (rs := [.tmp 2]) (by kernel_rfl) Try.func33 rfl rfl rfl a l
theorem e34 (a : List AV) (l : HL) : type_of% (ev_fun (P := Try.prog) (G := G) (A := AN) (f := 34) (n := 18) (rs := [.cell 4 30]) (by kernel_rfl) Try.func34 rfl rfl rfl a l) :=
  ev_fun (P := Try.prog) (G := G) (A := AN) (f := 34) (n := 18) (rs := [.cell 4 30]) (by kernel_rfl) Try.func34 rfl rfl rfl a l
theorem e35 (a : List AV) (l : HL) : type_of% (ev_fun (P := Try.prog) (G := G) (A := AN) (f := 35) (n := 8) (rs := [.tmp 2]) (by kernel_rfl) Try.func35 rfl rfl rfl a l) :=
  ev_fun (P := Try.prog) (G := G) (A := AN) (f := 35) (n := 8) (rs := [.tmp 2]) (by kernel_rfl) Try.func35 rfl rfl rfl a l
theorem e36 (a : List AV) (l : HL) : type_of% (ev_fun (P := Try.prog) (G := G) (A := AN) (f := 36) (n := 7) (rs := [.tmp 2]) (by kernel_rfl) Try.func36 rfl rfl rfl a l) :=
  ev_fun (P := Try.prog) (G := G) (A := AN) (f := 36) (n := 7) (rs := [.tmp 2]) (by kernel_rfl) Try.func36 rfl rfl rfl a l
theorem e37 (a : List AV) (l : HL) : type_of% (ev_fun (P := Try.prog) (G := G) (A := AN) (f := 37) (n := 21) (rs := [.cell 2 72, .tmp 3]) (by kernel_rfl) Try.func37 rfl rfl rfl a l) :=
  ev_fun (P := Try.prog) (G := G) (A := AN) (f := 37) (n := 21) (rs := [.cell 2 72, .tmp 3]) (by kernel_rfl) Try.func37 rfl rfl rfl a l
theorem e38 (a : List AV) (l : HL) : type_of% (ev_fun (P := Try.prog) (G := G) (A := AN) (f := 38) (n := 160) (rs := [.cell 4 72, .tmp 5]) (by kernel_rfl) Try.func38 rfl rfl rfl a l) :=
  ev_fun (P := Try.prog) (G := G) (A := AN) (f := 38) (n := 160) (rs := [.cell 4 72, .tmp 5]) (by kernel_rfl) Try.func38 rfl rfl rfl a l
theorem e39 (a : List AV) (l : HL) : type_of% (ev_fun (P := Try.prog) (G := G) (A := AN) (f := 39) (n := 19) (rs := []) (by kernel_rfl) Try.func39 rfl rfl rfl a l) :=
  ev_fun (P := Try.prog) (G := G) (A := AN) (f := 39) (n := 19) (rs := []) (by kernel_rfl) Try.func39 rfl rfl rfl a l
theorem e40 (a : List AV) (l : HL) : type_of% (ev_fun (P := Try.prog) (G := G) (A := AN) (f := 40) (n := 75) (rs := [.tmp 4]) (by kernel_rfl) Try.func40 rfl rfl rfl a l) :=
  ev_fun (P := Try.prog) (G := G) (A := AN) (f := 40) (n := 75) (rs := [.tmp 4]) (by kernel_rfl) Try.func40 rfl rfl rfl a l
theorem e41 (a : List AV) (l : HL) : type_of% (ev_fun (P := Try.prog) (G := G) (A := AN) (f := 41) (n := 25) (rs := []) (by kernel_rfl) Try.func41 rfl rfl rfl a l) :=
  ev_fun (P := Try.prog) (G := G) (A := AN) (f := 41) (n := 25) (rs := []) (by kernel_rfl) Try.func41 rfl rfl rfl a l
theorem e42 (a : List AV) (l : HL) : type_of% (ev_fun (P := Try.prog) (G := G) (A := AN) (f := 42) (n := 38) (rs := [.tmp 2]) (by kernel_rfl) Try.func42 rfl rfl rfl a l) :=
  ev_fun (P := Try.prog) (G := G) (A := AN) (f := 42) (n := 38) (rs := [.tmp 2]) (by kernel_rfl) Try.func42 rfl rfl rfl a l
theorem e43 (a : List AV) (l : HL) : type_of% (ev_fun (P := Try.prog) (G := G) (A := AN) (f := 43) (n := 8) (rs := [.tmp 2]) (by kernel_rfl) Try.func43 rfl rfl rfl a l) :=
  ev_fun (P := Try.prog) (G := G) (A := AN) (f := 43) (n := 8) (rs := [.tmp 2]) (by kernel_rfl) Try.func43 rfl rfl rfl a l
theorem e44 (a : List AV) (l : HL) : type_of% (ev_fun (P := Try.prog) (G := G) (A := AN) (f := 44) (n := 6) (rs := [.tmp 2]) (by kernel_rfl) Try.func44 rfl rfl rfl a l) :=
  ev_fun (P := Try.prog) (G := G) (A := AN) (f := 44) (n := 6) (rs := [.tmp 2]) (by kernel_rfl) Try.func44 rfl rfl rfl a l
theorem e45 (a : List AV) (l : HL) : type_of% (ev_fun (P := Try.prog) (G := G) (A := AN) (f := 45) (n := 26) (rs := [.cell 6 72]) (by kernel_rfl) Try.func45 rfl rfl rfl a l) :=
  ev_fun (P := Try.prog) (G := G) (A := AN) (f := 45) (n := 26) (rs := [.cell 6 72]) (by kernel_rfl) Try.func45 rfl rfl rfl a l
theorem e46 (a : List AV) (l : HL) : type_of% (ev_fun (P := Try.prog) (G := G) (A := AN) (f := 46) (n := 18) (rs := [.cell 6 72]) (by kernel_rfl) Try.func46 rfl rfl rfl a l) :=
  ev_fun (P := Try.prog) (G := G) (A := AN) (f := 46) (n := 18) (rs := [.cell 6 72]) (by kernel_rfl) Try.func46 rfl rfl rfl a l
theorem e47 (a : List AV) (l : HL) : type_of% (ev_fun (P := Try.prog) (G := G) (A := AN) (f := 47) (n := 27) (rs := [.cell 2 72]) (by kernel_rfl) Try.func47 rfl rfl rfl a l) :=
  ev_fun (P := Try.prog) (G := G) (A := AN) (f := 47) (n := 27) (rs := [.cell 2 72]) (by kernel_rfl) Try.func47 rfl rfl rfl a l
end Go.Proofs.Ytmjfccnmeiagbaa
