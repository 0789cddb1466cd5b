/- A part of the proof of ColourFindsCardSaid. -/
import Derived.Test.YtikppcfabnnhfaaDoorCTy
import Derived.Test.YtikppcfabnnhfaaDoorCAw5
namespace Go.Proofs.YtikppcfabnnhfaaDoor
open Go Go.Aw
def tab : List Int := [0, 1, 56, 2, 57, 49, 28, 3, 61, 58, 42, 50, 38, 29, 17, 4, 62, 47, 59, 36, 45, 43, 51, 22, 53, 39, 33, 30, 24, 18, 12, 5, 63, 55, 48, 27, 60, 41, 37, 16, 46, 35, 44, 21, 52, 32, 23, 11, 54, 26, 40, 15, 34, 20, 31, 10, 25, 14, 19, 9, 13, 8, 7, 6]
def G : Nat → AV := fun g => if g = 0 then .rop (.agg (tab.map (AV.int .u8))) 0 else .junk
def AN : Go.Aw.An := mkAn [12, 13, 20, 23, 26, 27, 30, 32, 33, 38, 41, 42, 47, 48, 50, 54, 57, 58, 60, 61, 62, 67, 69, 71, 72, 75, 80, 81, 84, 85, 86, 87, 93] [15, 28, 31, 36, 37, 53, 63, 64, 65, 66, 78, 82, 83] []
  [3, 4, 6, 7, 8, 9, 11, 12, 13, 14, 15, 17, 18, 19, 20, 21, 22, 23, 25, 26, 27, 28, 29, 30, 31, 32, 33, 34, 36, 37, 38, 39, 40, 41, 42, 43, 44, 45, 46, 47, 48, 49, 50, 51, 52, 53, 54, 55, 56, 57, 58, 59, 60, 61, 62, 63, 64, 66, 67, 68, 69, 70, 71, 72, 73, 74, 75, 76, 77, 78, 79, 80, 81, 82, 83, 84, 85, 86, 87, 88, 89, 90, 91, 92, 93]
  [(3, 6, [0, 1, 2, 3, 4, 11, 12]), (4, 10, [1, 2, 4, 5, 7, 8]), (6, 27, [5, 6, 7, 10, 13, 15, 16, 17]), (6, 23, [4, 5, 6, 7, 10, 13, 15]), (6, 19, [5, 6, 7, 10, 13, 14]), (7, 25, [1, 3, 5, 6, 7, 9, 10, 11, 12]), (7, 21, [1, 2, 3, 5, 6, 7, 9, 10]), (7, 17, [1, 2, 3, 5, 6, 7, 9]), (7, 12, [1, 3, 5, 6, 7, 8]), (8, 24, [1, 2, 5, 7, 8, 11, 12, 13]), (8, 20, [1, 2, 4, 5, 7, 8, 11]), (8, 15, [1, 2, 4, 5, 7, 8, 10]), (9, 16, [2, 12, 13, 14]), (14, 11, [1, 3, 4, 5, 7]), (14, 6, [1, 3, 4, 5, 6]), (15, 17, [5, 6, 8, 9]), (15, 10, [5, 6, 22]), (17, 13, [2, 6, 7, 8, 12, 13, 51, 52, 53]), (18, 32, [2, 10, 12, 14, 15, 16, 19, 20, 21]), (18, 29, [2, 10, 12, 14, 15, 16, 19, 20]), (18, 23, [2, 10, 12, 14, 15, 16, 17, 18]), (18, 18, [2, 6, 7, 8, 10, 12, 14, 15]), (18, 11, [1, 2, 10, 12, 13]), (19, 4, [0, 3, 4]), (20, 5, [0, 1, 4, 5]), (23, 5, [0, 1, 4, 5]), (25, 18, [1, 2, 8, 9, 10, 11, 12, 13]), (25, 16, [1, 2, 8, 9, 10, 11, 12, 13]), (25, 12, [1, 2, 8, 9, 10, 11, 12]), (25, 8, [1, 2, 8, 9, 10]), (27, 17, [1, 2, 4, 6, 8, 9]), (27, 14, [1, 2, 4, 6, 8]), (27, 9, [1, 2, 4, 6, 7]), (28, 10, [1, 2, 3, 5, 6]), (29, 8, [5, 6, 21, 22]), (30, 27, [1, 2, 9]), (30, 20, [1, 2, 6, 7, 8]), (30, 16, [1, 2, 6]), (30, 10, [1, 2, 4]), (30, 5, [1, 2, 3]), (31, 9, [1, 3, 4, 5, 6, 7]), (31, 5, [1, 3, 4, 5]), (32, 16, [1, 2, 47, 48, 49]), (32, 9, [1, 2, 31, 32, 33]), (33, 3, [0, 1, 4, 5]), (34, 38, [1, 7, 8, 9, 10, 11, 22, 105, 106, 107, 120, 121, 122]), (34, 33, [1, 7, 8, 9, 10, 11, 105, 106, 107]), (34, 27, [1, 7, 8, 9, 10, 11, 14, 18, 75, 76, 77, 90, 91, 92]), (34, 22, [1, 7, 8, 9, 10, 11, 14, 75, 76, 77]), (34, 17, [1, 7, 8, 9, 10, 11, 14, 64, 65, 66]), (34, 13, [1, 7, 8, 9, 10, 11]), (34, 9, [1, 7, 8, 9, 10, 11, 41, 42, 43]), (36, 11, [5, 6, 7, 8, 16]), (36, 8, [5, 6, 16]), (37, 11, [1, 5, 6, 7, 8]), (37, 8, [1, 5, 6, 7]), (38, 3, [0, 1, 4, 5]), (40, 11, [3, 5, 7, 13, 14, 15, 19, 20, 21, 34, 35, 36]), (40, 7, [3, 5, 13, 14, 15, 19, 20, 21]), (40, 4, [3, 13, 14, 15]), (41, 4, [3, 6, 7]), (43, 9, [7, 8]), (44, 7, [0, 1, 2, 3, 8, 9, 10, 11]), (47, 3, [0, 3]), (50, 4, [0, 2, 6, 7, 10, 11, 12]), (51, 3, [2, 5, 6]), (52, 4, [1, 2, 4, 5, 6]), (53, 7, [1, 3, 4, 5]), (53, 4, [1, 3, 4]), (54, 3, [1, 2, 3, 6, 7]), (55, 10, [1, 10, 40, 41, 42]), (55, 4, [1, 2, 3, 7, 17, 18, 19]), (56, 7, [1, 7, 8, 9]), (56, 5, [1, 7, 8, 9]), (57, 3, [1, 2, 5, 8, 9, 10]), (59, 9, [7, 8]), (60, 3, [0, 1, 4, 5]), (61, 3, [0, 1, 2, 6, 7]), (62, 11, [0, 1, 4, 39, 40, 41]), (62, 5, [0, 1, 4, 15, 16, 17]), (63, 7, [1, 3, 4, 5]), (63, 4, [1, 3, 4]), (64, 4, [0, 3, 4]), (66, 3, [0, 1, 4, 5]), (71, 3, [0, 1, 4, 7, 8, 9]), (74, 4, [3, 6, 7, 8]), (76, 8, [1, 5, 7]), (76, 4, [0, 1, 5, 6]), (80, 6, [0, 3, 4]), (81, 3, [0, 1, 4, 7, 8]), (83, 3, [1, 2, 3, 6, 7]), (84, 3, [0, 1, 4, 7, 8]), (85, 3, [0, 1, 4, 7, 8]), (86, 3, [0, 1, 4, 7, 8]), (89, 4, [0, 1, 2, 8, 9, 10]), (93, 3, [0, 1, 4, 7, 8])]
  [(3, 6, [(0, [], 2), (1, [], 1), (2, [], 1), (5, [], 2)]), (4, 10, [(0, [], 2)]), (6, 27, [(3, [], 1)]), (6, 23, [(4, [], 1)]), (6, 19, [(3, [], 1)]), (7, 25, [(1, [], 1), (2, [], 2), (3, [], 1)]), (7, 21, [(2, [], 1), (3, [], 2), (4, [], 1)]), (7, 17, [(2, [], 1), (3, [], 2), (4, [], 1)]), (7, 12, [(1, [], 1), (2, [], 2), (3, [], 1)]), (8, 24, [(0, [], 2), (2, [], 1), (3, [], 1), (4, [], 1)]), (8, 20, [(0, [], 2), (3, [], 1), (4, [], 1), (5, [], 1)]), (8, 15, [(0, [], 2), (3, [], 1), (4, [], 1), (5, [], 1)]), (9, 16, [(1, [], 2), (2, [], 2)]), (15, 17, [(1, [], 1), (2, [], 1)]), (15, 10, [(1, [], 1)]), (17, 13, [(0, [], 2), (1, [], 1), (2, [], 1), (6, [], 2)]), (18, 32, [(0, [], 2), (2, [], 1), (3, [], 1)]), (18, 29, [(0, [], 2), (2, [], 1), (3, [], 1)]), (18, 23, [(0, [], 2), (2, [], 1), (3, [], 1)]), (18, 18, [(0, [], 2), (1, [], 1), (2, [], 1), (5, [], 1), (6, [], 1)]), (18, 11, [(0, [], 1), (1, [], 2), (3, [], 1)]), (19, 4, [(0, [], 2), (1, [], 2)]), (20, 5, [(0, [], 1), (1, [], 1)]), (23, 5, [(0, [], 2), (1, [], 2)]), (25, 18, [(0, [], 1), (2, [], 2), (3, [], 1), (5, [], 2)]), (25, 16, [(0, [], 1), (2, [], 2), (3, [], 1), (5, [], 2)]), (25, 12, [(0, [], 1), (2, [], 2), (3, [], 1), (5, [], 2)]), (25, 8, [(0, [], 1), (2, [], 2), (3, [], 1)]), (27, 17, [(0, [], 1), (3, [], 1)]), (27, 14, [(0, [], 1), (3, [], 1)]), (27, 9, [(0, [], 1), (3, [], 1)]), (28, 10, [(3, [], 1)]), (29, 8, [(1, [], 1)]), (30, 20, [(3, [], 2)]), (31, 9, [(1, [], 1)]), (31, 5, [(1, [], 1)]), (32, 16, [(2, [], 3)]), (32, 9, [(2, [], 1)]), (33, 3, [(0, [], 1)]), (34, 38, [(2, [], 1), (3, [], 1), (7, [], 1), (10, [], 1)]), (34, 33, [(2, [], 1), (3, [], 1), (6, [], 1)]), (34, 27, [(2, [], 1), (3, [], 1), (8, [], 1), (11, [], 1)]), (34, 22, [(2, [], 1), (3, [], 1), (7, [], 1)]), (34, 17, [(2, [], 1), (3, [], 1), (7, [], 1)]), (34, 13, [(2, [], 1), (3, [], 1)]), (34, 9, [(2, [], 1), (3, [], 1), (6, [], 1)]), (36, 11, [(1, [], 2)]), (36, 8, [(1, [], 2)]), (37, 11, [(1, [], 1), (2, [], 2)]), (37, 8, [(1, [], 1), (2, [], 2)]), (38, 3, [(0, [], 1), (1, [], 1)]), (40, 11, [(1, [], 2), (3, [], 1), (6, [], 2), (9, [], 2)]), (40, 7, [(1, [], 2), (2, [], 1), (5, [], 2)]), (40, 4, [(1, [], 1)]), (43, 9, [(0, [], 1)]), (44, 7, [(1, [], 1), (2, [], 1)]), (50, 4, [(4, [], 1)]), (52, 4, [(0, [], 2)]), (55, 10, [(0, [], 1), (1, [], 2), (2, [], 2)]), (55, 4, [(0, [], 1), (4, [], 2)]), (56, 7, [(0, [], 1), (1, [], 2), (2, [], 2)]), (56, 5, [(0, [], 1), (1, [], 2), (2, [], 2)]), (57, 3, [(3, [], 2)]), (59, 9, [(0, [], 2)]), (60, 3, [(0, [], 1)]), (61, 3, [(0, [], 2), (1, [], 2)]), (62, 11, [(1, [], 1), (3, [], 1)]), (62, 5, [(1, [], 1), (3, [], 1)]), (63, 7, [(1, [], 1)]), (63, 4, [(1, [], 1)]), (64, 4, [(0, [], 1), (1, [], 1)]), (66, 3, [(0, [], 1)]), (71, 3, [(0, [], 2), (3, [], 2)]), (74, 4, [(0, [], 1), (1, [], 1)]), (76, 8, [(0, [], 1), (1, [], 1)]), (76, 4, [(0, [], 1), (1, [], 1), (2, [], 1)]), (80, 6, [(0, [], 1)]), (81, 3, [(0, [], 2)]), (84, 3, [(0, [], 1)]), (85, 3, [(0, [], 1)]), (86, 3, [(0, [], 3)]), (89, 4, [(0, [], 2)]), (93, 3, [(0, [], 1)])]
  []
  [(17, [(0, [], 1), (1, [], 1)]), (18, [(0, [], 1), (1, [], 1)]), (19, [(0, [], 2)]), (21, [(0, [], 2)]), (22, [(0, [], 2)]), (25, [(0, [], 2), (1, [], 1)]), (29, [(0, [], 1)]), (34, [(0, [], 1), (1, [], 1), (2, [], 1)]), (36, [(0, [], 2)]), (37, [(0, [], 2)]), (39, [(0, [0], 1), (0, [1], 3), (0, [2], 1), (0, [1, 0, 0], 1), (0, [1, 0, 1], 1), (0, [1, 0, 2], 1), (0, [1, 1, 0], 1), (0, [1, 1, 1], 1), (0, [1, 1, 2], 1), (0, [1, 2, 0], 1), (0, [1, 2, 1], 1), (0, [1, 2, 2], 1), (0, [1, 3, 0], 1), (0, [1, 3, 1], 1), (0, [1, 3, 2], 1)]), (43, [(0, [], 1)]), (45, [(0, [], 1)]), (46, [(0, [], 1)]), (52, [(0, [0], 1), (0, [1], 3), (0, [2], 1)]), (55, [(0, [], 2)]), (56, [(0, [], 2)]), (59, [(0, [], 2)]), (63, [(0, [], 1)]), (64, [(0, [], 1)]), (74, [(0, [], 1)]), (76, [(0, [], 1)])]
  [15, 17, 18, 21, 22, 24, 25, 28, 29, 31, 34, 35, 36, 37, 39, 53, 63, 64, 65, 66, 83]
  [(3, 7, ([45, 1000000, 1000034, 1000012, 1000035, 1000034, 1000035, 1000036, 1000036, 1000037, 1000000, 1000039, 1000012, 1000040, 1000039, 1000040, 1000041, 1000041, 1000042], false, [], [some 33, some 34, some 35, some 36, some 37, some 39, some 40, some 41, some 42])), (4, 11, ([53, 1000007, 1000046, 1000002, 1000048, 1000008, 1000050, 1000049, 1000050, 1000051, 1000007, 1000055], false, [7], [some 46, some 48, some 50, some 51, some 55])), (6, 4, ([], false, [], [])), (8, 16, ([], false, [], [])), (8, 25, ([], false, [], [])), (8, 26, ([], false, [], [])), (8, 29, ([1000002, 1000168, 1000169, 1000170, 1000172, 1000165], false, [], [some 167, some 168, some 170, some 165])), (9, 4, ([], false, [], [])), (9, 17, ([], false, [], [])), (12, 3, ([], false, [], [])), (13, 3, ([], false, [], [])), (14, 3, ([], false, [], [])), (18, 24, ([], false, [], [])), (19, 5, ([23, 1000000, 1000012, 1000004, 1000013, 1000012, 1000013, 1000014, 1000014, 1000015, 1000000, 1000017, 1000004, 1000018, 1000017, 1000018, 1000019, 1000019, 1000020], false, [], [some 11, some 12, some 13, some 14, some 15, some 17, some 18, some 19, some 20])), (20, 6, ([], false, [], [])), (23, 6, ([], false, [], [])), (27, 18, ([], false, [], [])), (30, 21, ([], false, [], [])), (30, 23, ([], false, [], [])), (31, 10, ([], false, [], [])), (34, 4, ([33, 37, 38, 7, 700033, 700037, 700038, 700007], true, [7], [])), (34, 13, ([14], false, [14], [])), (37, 12, ([], false, [], [])), (37, 13, ([51, 1000005, 1000042, 1000007, 1000043, 1000042, 1000043, 1000044, 1000005, 1000046, 1000008, 1000047, 1000046, 1000047, 1000048], false, [], [some 41, some 42, some 43, some 44, some 46, some 47, some 48])), (40, 8, ([1000003, 1000026, 1000026, 1000027, 1000007, 1000029], false, [], [some 26, some 27, some 28, some 29])), (40, 12, ([1000003, 1000040, 1000007, 1000041, 1000040, 1000043, 1000043, 1000044, 1000009, 1000046], false, [], [some 40, some 41, some 43, some 44, some 45, some 46])), (40, 13, ([1000003, 1000049, 1000009, 1000050, 1000049, 1000052, 1000052, 1000053, 1000007, 1000055], false, [], [some 49, some 50, some 52, some 53, some 54, some 55])), (43, 9, ([], false, [], [])), (49, 1, ([], false, [], [])), (51, 3, ([], false, [], [])), (52, 5, ([26, 1000005, 1000019, 1000002, 1000021, 1000006, 1000023, 1000022, 1000023, 1000024, 1000005, 1000028], false, [5], [some 19, some 21, some 23, some 24, some 28])), (55, 11, ([], false, [10], [])), (56, 8, ([], false, [7], [])), (59, 9, ([], false, [], [])), (71, 6, ([], false, [], [])), (77, 0, ([], false, [0], []))] [17, 21, 24, 29, 34, 40] [(43, 7), (43, 9), (59, 7), (59, 9)]
noncomputable abbrev E : Sig := ev Tryd.prog G AN
theorem ok3 : fchk Tryd.prog AN 3 = true := by kernel_rfl
theorem ok4 : fchk Tryd.prog AN 4 = true := by kernel_rfl
theorem ok6 : fchk Tryd.prog AN 6 = true := by kernel_rfl
theorem ok7 : fchk Tryd.prog AN 7 = true := by kernel_rfl
theorem ok8 : fchk Tryd.prog AN 8 = true := by kernel_rfl
theorem ok9 : fchk Tryd.prog AN 9 = true := by kernel_rfl
theorem ok11 : fchk Tryd.prog AN 11 = true := by kernel_rfl
theorem ok12 : fchk Tryd.prog AN 12 = true := by kernel_rfl
theorem ok13 : fchk Tryd.prog AN 13 = true := by kernel_rfl
theorem ok14 : fchk Tryd.prog AN 14 = true := by kernel_rfl
theorem ok15 : fchk Tryd.prog AN 15 = true := by kernel_rfl
theorem ok17 : fchk Tryd.prog AN 17 = true := by kernel_rfl
theorem ok18 : fchk Tryd.prog AN 18 = true := by kernel_rfl
theorem ok19 : fchk Tryd.prog AN 19 = true := by kernel_rfl
theorem ok20 : fchk Tryd.prog AN 20 = true := by kernel_rfl
theorem ok21 : fchk Tryd.prog AN 21 = true := by kernel_rfl
theorem ok22 : fchk Tryd.prog AN 22 = true := by kernel_rfl
theorem ok23 : fchk Tryd.prog AN 23 = true := by kernel_rfl
theorem ok25 : fchk Tryd.prog AN 25 = true := by kernel_rfl
theorem ok26 : fchk Tryd.prog AN 26 = true := by kernel_rfl
theorem ok27 : fchk Tryd.prog AN 27 = true := by kernel_rfl
theorem ok28 : fchk Tryd.prog AN 28 = true := by kernel_rfl
theorem ok29 : fchk Tryd.prog AN 29 = true := by kernel_rfl
theorem ok30 : fchk Tryd.prog AN 30 = true := by kernel_rfl
theorem ok31 : fchk Tryd.prog AN 31 = true := by kernel_rfl
theorem ok32 : fchk Tryd.prog AN 32 = true := by kernel_rfl
theorem ok33 : fchk Tryd.prog AN 33 = true := by kernel_rfl
theorem ok34 : fchk Tryd.prog AN 34 = true := by kernel_rfl
theorem ok36 : fchk Tryd.prog AN 36 = true := by kernel_rfl
theorem ok37 : fchk Tryd.prog AN 37 = true := by kernel_rfl
theorem ok38 : fchk Tryd.prog AN 38 = true := by kernel_rfl
theorem ok39 : fchk Tryd.prog AN 39 = true := by kernel_rfl
theorem ok40 : fchk Tryd.prog AN 40 = true := by kernel_rfl
theorem ok41 : fchk Tryd.prog AN 41 = true := by kernel_rfl
theorem ok42 : fchk Tryd.prog AN 42 = true := by kernel_rfl
theorem ok43 : fchk Tryd.prog AN 43 = true := by kernel_rfl
theorem ok44 : fchk Tryd.prog AN 44 = true := by kernel_rfl
theorem ok45 : fchk Tryd.prog AN 45 = true := by kernel_rfl
theorem ok46 : fchk Tryd.prog AN 46 = true := by kernel_rfl
theorem ok47 : fchk Tryd.prog AN 47 = true := by kernel_rfl
theorem ok48 : fchk Tryd.prog AN 48 = true := by kernel_rfl
theorem ok49 : fchk Tryd.prog AN 49 = true := by kernel_rfl
theorem ok50 : fchk Tryd.prog AN 50 = true := by kernel_rfl
theorem ok51 : fchk Tryd.prog AN 51 = true := by kernel_rfl
theorem ok52 : fchk Tryd.prog AN 52 = true := by kernel_rfl
theorem ok53 : fchk Tryd.prog AN 53 = true := by kernel_rfl
theorem ok54 : fchk Tryd.prog AN 54 = true := by kernel_rfl
theorem ok55 : fchk Tryd.prog AN 55 = true := by kernel_rfl
theorem ok56 : fchk Tryd.prog AN 56 = true := by kernel_rfl
theorem ok57 : fchk Tryd.prog AN 57 = true := by kernel_rfl
theorem ok58 : fchk Tryd.prog AN 58 = true := by kernel_rfl
theorem ok59 : fchk Tryd.prog AN 59 = true := by kernel_rfl
theorem ok60 : fchk Tryd.prog AN 60 = true := by kernel_rfl
theorem ok61 : fchk Tryd.prog AN 61 = true := by kernel_rfl
theorem ok62 : fchk Tryd.prog AN 62 = true := by kernel_rfl
theorem ok63 : fchk Tryd.prog AN 63 = true := by kernel_rfl
theorem ok64 : fchk Tryd.prog AN 64 = true := by kernel_rfl
theorem ok66 : fchk Tryd.prog AN 66 = true := by kernel_rfl
theorem ok67 : fchk Tryd.prog AN 67 = true := by kernel_rfl
theorem ok68 : fchk Tryd.prog AN 68 = true := by kernel_rfl
theorem ok69 : fchk Tryd.prog AN 69 = true := by kernel_rfl
theorem ok70 : fchk Tryd.prog AN 70 = true := by kernel_rfl
theorem ok71 : fchk Tryd.prog AN 71 = true := by kernel_rfl
theorem ok72 : fchk Tryd.prog AN 72 = true := by kernel_rfl
theorem ok73 : fchk Tryd.prog AN 73 = true := by kernel_rfl
theorem ok74 : fchk Tryd.prog AN 74 = true := by kernel_rfl
theorem ok75 : fchk Tryd.prog AN 75 = true := by kernel_rfl
theorem ok76 : fchk Tryd.prog AN 76 = true := by kernel_rfl
theorem ok77 : fchk Tryd.prog AN 77 = true := by kernel_rfl
theorem ok78 : fchk Tryd.prog AN 78 = true := by kernel_rfl
theorem ok79 : fchk Tryd.prog AN 79 = true := by kernel_rfl
theorem ok80 : fchk Tryd.prog AN 80 = true := by kernel_rfl
theorem ok81 : fchk Tryd.prog AN 81 = true := by kernel_rfl
theorem ok82 : fchk Tryd.prog AN 82 = true := by kernel_rfl
theorem ok83 : fchk Tryd.prog AN 83 = true := by kernel_rfl
theorem ok84 : fchk Tryd.prog AN 84 = true := by kernel_rfl
theorem ok85 : fchk Tryd.prog AN 85 = true := by kernel_rfl
theorem ok86 : fchk Tryd.prog AN 86 = true := by kernel_rfl
theorem ok87 : fchk Tryd.prog AN 87 = true := by kernel_rfl
theorem ok88 : fchk Tryd.prog AN 88 = true := by kernel_rfl
theorem ok89 : fchk Tryd.prog AN 89 = true := by kernel_rfl
theorem ok90 : fchk Tryd.prog AN 90 = true := by kernel_rfl
theorem ok91 : fchk Tryd.prog AN 91 = true := by kernel_rfl
theorem ok92 : fchk Tryd.prog AN 92 = true := by kernel_rfl
theorem ok93 : fchk Tryd.prog AN 93 = true := by kernel_rfl
theorem evok : EvOk Tryd.prog G AN where
  chk f h := by
    have h : [3, 4, 6, 7, 8, 9, 11, 12, 13, 14, 15, 17, 18, 19, 20, 21, 22, 23, 25, 26, 27, 28, 29, 30, 31, 32, 33, 34, 36, 37, 38, 39, 40, 41, 42, 43, 44, 45, 46, 47, 48, 49, 50, 51, 52, 53, 54, 55, 56, 57, 58, 59, 60, 61, 62, 63, 64, 66, 67, 68, 69, 70, 71, 72, 73, 74, 75, 76, 77, 78, 79, 80, 81, 82, 83, 84, 85, 86, 87, 88, 89, 90, 91, 92, 93].contains f = true := h
    have h := List.contains_iff_mem.1 h
    simp only [List.mem_cons, List.mem_nil_iff, or_false] at h
    rcases h with rfl | rfl | rfl | rfl | rfl | rfl | rfl | rfl | rfl | rfl | rfl | rfl | rfl | rfl | rfl | rfl | rfl | rfl | rfl | rfl | rfl | rfl | rfl | rfl | rfl | rfl | rfl | rfl | rfl | rfl | rfl | rfl | rfl | rfl | rfl | rfl | rfl | rfl | rfl | rfl | rfl | rfl | rfl | rfl | rfl | rfl | rfl | rfl | rfl | rfl | rfl | rfl | rfl | rfl | rfl | rfl | rfl | rfl | rfl | rfl | rfl | rfl | rfl | rfl | rfl | rfl | rfl | rfl | rfl | rfl | rfl | rfl | rfl | rfl | rfl | rfl | rfl | rfl | rfl | rfl | rfl | rfl | rfl | rfl | rfl
    · exact ok3
    · exact ok4
    · exact ok6
    · exact ok7
    · exact ok8
    · exact ok9
    · exact ok11
    · exact ok12
    · exact ok13
    · exact ok14
    · exact ok15
    · exact ok17
    · exact ok18
    · exact ok19
    · exact ok20
    · exact ok21
    · exact ok22
    · exact ok23
    · exact ok25
    · exact ok26
    · exact ok27
    · exact ok28
    · exact ok29
    · exact ok30
    · exact ok31
    · exact ok32
    · exact ok33
    · exact ok34
    · exact ok36
    · exact ok37
    · exact ok38
    · exact ok39
    · exact ok40
    · exact ok41
    · exact ok42
    · exact ok43
    · exact ok44
    · exact ok45
    · exact ok46
    · exact ok47
    · exact ok48
    · exact ok49
    · exact ok50
    · exact ok51
    · exact ok52
    · exact ok53
    · exact ok54
    · exact ok55
    · exact ok56
    · exact ok57
    · exact ok58
    · exact ok59
    · exact ok60
    · exact ok61
    · exact ok62
    · exact ok63
    · exact ok64
    · exact ok66
    · exact ok67
    · exact ok68
    · exact ok69
    · exact ok70
    · exact ok71
    · exact ok72
    · exact ok73
    · exact ok74
    · exact ok75
    · exact ok76
    · exact ok77
    · exact ok78
    · exact ok79
    · exact ok80
    · exact ok81
    · exact ok82
    · exact ok83
    · exact ok84
    · exact ok85
    · exact ok86
    · exact ok87
    · exact ok88
    · exact ok89
    · exact ok90
    · exact ok91
    · exact ok92
    · exact ok93
  pureG g := by
    by_cases h : g = 0
    · subst h; exact .inl (by kernel_rfl)
    · exact .inr (if_neg h)
  mixed := by kernel_rfl
  giv _ _ _ _ _ _ h := by cases h
theorem ab3 : AN.bor 3 = false := by kernel_rfl
theorem ap3 : AN.pur 3 = false := by kernel_rfl
theorem ao3 : AN.ro 3 = false := by kernel_rfl
theorem af3 : AN.frz 3 = false := by kernel_rfl
theorem aa3 : AN.fra 3 = false := by kernel_rfl
theorem ar3 : AN.res 3 = [] := by kernel_rfl
theorem ab4 : AN.bor 4 = false := by kernel_rfl
theorem ap4 : AN.pur 4 = false := by kernel_rfl
theorem ao4 : AN.ro 4 = false := by kernel_rfl
theorem af4 : AN.frz 4 = false := by kernel_rfl
theorem aa4 : AN.fra 4 = false := by kernel_rfl
theorem ar4 : AN.res 4 = [] := by kernel_rfl
theorem ab6 : AN.bor 6 = false := by kernel_rfl
theorem ap6 : AN.pur 6 = false := by kernel_rfl
theorem ao6 : AN.ro 6 = false := by kernel_rfl
theorem af6 : AN.frz 6 = false := by kernel_rfl
theorem aa6 : AN.fra 6 = false := by kernel_rfl
theorem ar6 : AN.res 6 = [] := by kernel_rfl
theorem ab7 : AN.bor 7 = false := by kernel_rfl
theorem ap7 : AN.pur 7 = false := by kernel_rfl
theorem ao7 : AN.ro 7 = false := by kernel_rfl
theorem af7 : AN.frz 7 = false := by kernel_rfl
theorem aa7 : AN.fra 7 = false := by kernel_rfl
theorem ar7 : AN.res 7 = [] := by kernel_rfl
theorem ab8 : AN.bor 8 = false := by kernel_rfl
theorem ap8 : AN.pur 8 = false := by kernel_rfl
theorem ao8 : AN.ro 8 = false := by kernel_rfl
theorem af8 : AN.frz 8 = false := by kernel_rfl
theorem aa8 : AN.fra 8 = false := by kernel_rfl
theorem ar8 : AN.res 8 = [] := by kernel_rfl
theorem ab9 : AN.bor 9 = false := by kernel_rfl
theorem ap9 : AN.pur 9 = false := by kernel_rfl
theorem ao9 : AN.ro 9 = false := by kernel_rfl
theorem af9 : AN.frz 9 = false := by kernel_rfl
theorem aa9 : AN.fra 9 = false := by kernel_rfl
theorem ar9 : AN.res 9 = [] := by kernel_rfl
theorem ab11 : AN.bor 11 = false := by kernel_rfl
theorem ap11 : AN.pur 11 = false := by kernel_rfl
theorem ao11 : AN.ro 11 = false := by kernel_rfl
theorem af11 : AN.frz 11 = false := by kernel_rfl
theorem aa11 : AN.fra 11 = false := by kernel_rfl
theorem ar11 : AN.res 11 = [] := by kernel_rfl
theorem ab12 : AN.bor 12 = true := by kernel_rfl
theorem ap12 : AN.pur 12 = false := by kernel_rfl
theorem ao12 : AN.ro 12 = false := by kernel_rfl
theorem af12 : AN.frz 12 = false := by kernel_rfl
theorem aa12 : AN.fra 12 = false := by kernel_rfl
theorem ar12 : AN.res 12 = [] := by kernel_rfl
theorem ab13 : AN.bor 13 = true := by kernel_rfl
theorem ap13 : AN.pur 13 = false := by kernel_rfl
theorem ao13 : AN.ro 13 = false := by kernel_rfl
theorem af13 : AN.frz 13 = false := by kernel_rfl
theorem aa13 : AN.fra 13 = false := by kernel_rfl
theorem ar13 : AN.res 13 = [] := by kernel_rfl
theorem ab14 : AN.bor 14 = false := by kernel_rfl
theorem ap14 : AN.pur 14 = false := by kernel_rfl
theorem ao14 : AN.ro 14 = false := by kernel_rfl
theorem af14 : AN.frz 14 = false := by kernel_rfl
theorem aa14 : AN.fra 14 = false := by kernel_rfl
theorem ar14 : AN.res 14 = [] := by kernel_rfl
theorem ab15 : AN.bor 15 = false := by kernel_rfl
theorem ap15 : AN.pur 15 = true := by kernel_rfl
theorem ao15 : AN.ro 15 = false := by kernel_rfl
theorem af15 : AN.frz 15 = true := by kernel_rfl
theorem aa15 : AN.fra 15 = false := by kernel_rfl
theorem ar15 : AN.res 15 = [] := by kernel_rfl
theorem ab17 : AN.bor 17 = false := by kernel_rfl
theorem ap17 : AN.pur 17 = false := by kernel_rfl
theorem ao17 : AN.ro 17 = false := by kernel_rfl
theorem af17 : AN.frz 17 = true := by kernel_rfl
theorem aa17 : AN.fra 17 = true := by kernel_rfl
theorem ar17 : AN.res 17 = [(0, [], 1), (1, [], 1)] := by kernel_rfl
theorem ab18 : AN.bor 18 = false := by kernel_rfl
theorem ap18 : AN.pur 18 = false := by kernel_rfl
theorem ao18 : AN.ro 18 = false := by kernel_rfl
theorem af18 : AN.frz 18 = true := by kernel_rfl
theorem aa18 : AN.fra 18 = false := by kernel_rfl
theorem ar18 : AN.res 18 = [(0, [], 1), (1, [], 1)] := by kernel_rfl
theorem ab19 : AN.bor 19 = false := by kernel_rfl
theorem ap19 : AN.pur 19 = false := by kernel_rfl
theorem ao19 : AN.ro 19 = false := by kernel_rfl
theorem af19 : AN.frz 19 = false := by kernel_rfl
theorem aa19 : AN.fra 19 = false := by kernel_rfl
theorem ar19 : AN.res 19 = [(0, [], 2)] := by kernel_rfl
theorem ab20 : AN.bor 20 = true := by kernel_rfl
theorem ap20 : AN.pur 20 = false := by kernel_rfl
theorem ao20 : AN.ro 20 = false := by kernel_rfl
theorem af20 : AN.frz 20 = false := by kernel_rfl
theorem aa20 : AN.fra 20 = false := by kernel_rfl
theorem ar20 : AN.res 20 = [] := by kernel_rfl
theorem ab21 : AN.bor 21 = false := by kernel_rfl
theorem ap21 : AN.pur 21 = false := by kernel_rfl
theorem ao21 : AN.ro 21 = false := by kernel_rfl
theorem af21 : AN.frz 21 = true := by kernel_rfl
theorem aa21 : AN.fra 21 = true := by kernel_rfl
theorem ar21 : AN.res 21 = [(0, [], 2)] := by kernel_rfl
theorem ab22 : AN.bor 22 = false := by kernel_rfl
theorem ap22 : AN.pur 22 = false := by kernel_rfl
theorem ao22 : AN.ro 22 = false := by kernel_rfl
theorem af22 : AN.frz 22 = true := by kernel_rfl
theorem aa22 : AN.fra 22 = false := by kernel_rfl
theorem ar22 : AN.res 22 = [(0, [], 2)] := by kernel_rfl
theorem ab23 : AN.bor 23 = true := by kernel_rfl
theorem ap23 : AN.pur 23 = false := by kernel_rfl
theorem ao23 : AN.ro 23 = false := by kernel_rfl
theorem af23 : AN.frz 23 = false := by kernel_rfl
theorem aa23 : AN.fra 23 = false := by kernel_rfl
theorem ar23 : AN.res 23 = [] := by kernel_rfl
theorem ab25 : AN.bor 25 = false := by kernel_rfl
theorem ap25 : AN.pur 25 = false := by kernel_rfl
theorem ao25 : AN.ro 25 = false := by kernel_rfl
theorem af25 : AN.frz 25 = true := by kernel_rfl
theorem aa25 : AN.fra 25 = false := by kernel_rfl
theorem ar25 : AN.res 25 = [(0, [], 2), (1, [], 1)] := by kernel_rfl
theorem ab26 : AN.bor 26 = true := by kernel_rfl
theorem ap26 : AN.pur 26 = false := by kernel_rfl
theorem ao26 : AN.ro 26 = false := by kernel_rfl
theorem af26 : AN.frz 26 = false := by kernel_rfl
theorem aa26 : AN.fra 26 = false := by kernel_rfl
theorem ar26 : AN.res 26 = [] := by kernel_rfl
theorem ab27 : AN.bor 27 = true := by kernel_rfl
theorem ap27 : AN.pur 27 = false := by kernel_rfl
theorem ao27 : AN.ro 27 = false := by kernel_rfl
theorem af27 : AN.frz 27 = false := by kernel_rfl
theorem aa27 : AN.fra 27 = false := by kernel_rfl
theorem ar27 : AN.res 27 = [] := by kernel_rfl
theorem ab28 : AN.bor 28 = false := by kernel_rfl
theorem ap28 : AN.pur 28 = true := by kernel_rfl
theorem ao28 : AN.ro 28 = false := by kernel_rfl
theorem af28 : AN.frz 28 = true := by kernel_rfl
theorem aa28 : AN.fra 28 = false := by kernel_rfl
theorem ar28 : AN.res 28 = [] := by kernel_rfl
theorem ab29 : AN.bor 29 = false := by kernel_rfl
theorem ap29 : AN.pur 29 = false := by kernel_rfl
theorem ao29 : AN.ro 29 = false := by kernel_rfl
theorem af29 : AN.frz 29 = true := by kernel_rfl
theorem aa29 : AN.fra 29 = true := by kernel_rfl
theorem ar29 : AN.res 29 = [(0, [], 1)] := by kernel_rfl
theorem ab30 : AN.bor 30 = true := by kernel_rfl
theorem ap30 : AN.pur 30 = false := by kernel_rfl
theorem ao30 : AN.ro 30 = false := by kernel_rfl
theorem af30 : AN.frz 30 = false := by kernel_rfl
theorem aa30 : AN.fra 30 = false := by kernel_rfl
theorem ar30 : AN.res 30 = [] := by kernel_rfl
theorem ab31 : AN.bor 31 = false := by kernel_rfl
theorem ap31 : AN.pur 31 = true := by kernel_rfl
theorem ao31 : AN.ro 31 = false := by kernel_rfl
theorem af31 : AN.frz 31 = true := by kernel_rfl
theorem aa31 : AN.fra 31 = false := by kernel_rfl
theorem ar31 : AN.res 31 = [] := by kernel_rfl
theorem ab32 : AN.bor 32 = true := by kernel_rfl
theorem ap32 : AN.pur 32 = false := by kernel_rfl
theorem ao32 : AN.ro 32 = false := by kernel_rfl
theorem af32 : AN.frz 32 = false := by kernel_rfl
theorem aa32 : AN.fra 32 = false := by kernel_rfl
theorem ar32 : AN.res 32 = [] := by kernel_rfl
theorem ab33 : AN.bor 33 = true := by kernel_rfl
theorem ap33 : AN.pur 33 = false := by kernel_rfl
theorem ao33 : AN.ro 33 = false := by kernel_rfl
theorem af33 : AN.frz 33 = false := by kernel_rfl
theorem aa33 : AN.fra 33 = false := by kernel_rfl
theorem ar33 : AN.res 33 = [] := by kernel_rfl
theorem ab34 : AN.bor 34 = false := by kernel_rfl
theorem ap34 : AN.pur 34 = false := by kernel_rfl
theorem ao34 : AN.ro 34 = false := by kernel_rfl
theorem af34 : AN.frz 34 = true := by kernel_rfl
theorem aa34 : AN.fra 34 = true := by kernel_rfl
theorem ar34 : AN.res 34 = [(0, [], 1), (1, [], 1), (2, [], 1)] := by kernel_rfl
theorem ab36 : AN.bor 36 = false := by kernel_rfl
theorem ap36 : AN.pur 36 = true := by kernel_rfl
theorem ao36 : AN.ro 36 = false := by kernel_rfl
theorem af36 : AN.frz 36 = true := by kernel_rfl
theorem aa36 : AN.fra 36 = false := by kernel_rfl
theorem ar36 : AN.res 36 = [(0, [], 2)] := by kernel_rfl
theorem ab37 : AN.bor 37 = false := by kernel_rfl
theorem ap37 : AN.pur 37 = true := by kernel_rfl
theorem ao37 : AN.ro 37 = false := by kernel_rfl
theorem af37 : AN.frz 37 = true := by kernel_rfl
theorem aa37 : AN.fra 37 = false := by kernel_rfl
theorem ar37 : AN.res 37 = [(0, [], 2)] := by kernel_rfl
theorem ab38 : AN.bor 38 = true := by kernel_rfl
theorem ap38 : AN.pur 38 = false := by kernel_rfl
theorem ao38 : AN.ro 38 = false := by kernel_rfl
theorem af38 : AN.frz 38 = false := by kernel_rfl
theorem aa38 : AN.fra 38 = false := by kernel_rfl
theorem ar38 : AN.res 38 = [] := by kernel_rfl
theorem ab39 : AN.bor 39 = false := by kernel_rfl
theorem ap39 : AN.pur 39 = false := by kernel_rfl
theorem ao39 : AN.ro 39 = false := by kernel_rfl
theorem af39 : AN.frz 39 = true := by kernel_rfl
theorem aa39 : AN.fra 39 = false := by kernel_rfl
theorem ar39 : AN.res 39 = [(0, [0], 1), (0, [1], 3), (0, [2], 1), (0, [1, 0, 0], 1), (0, [1, 0, 1], 1), (0, [1, 0, 2], 1), (0, [1, 1, 0], 1), (0, [1, 1, 1], 1), (0, [1, 1, 2], 1), (0, [1, 2, 0], 1), (0, [1, 2, 1], 1), (0, [1, 2, 2], 1), (0, [1, 3, 0], 1), (0, [1, 3, 1], 1), (0, [1, 3, 2], 1)] := by kernel_rfl
theorem ab40 : AN.bor 40 = false := by kernel_rfl
theorem ap40 : AN.pur 40 = false := by kernel_rfl
theorem ao40 : AN.ro 40 = false := by kernel_rfl
theorem af40 : AN.frz 40 = false := by kernel_rfl
theorem aa40 : AN.fra 40 = true := by kernel_rfl
theorem ar40 : AN.res 40 = [] := by kernel_rfl
theorem ab41 : AN.bor 41 = true := by kernel_rfl
theorem ap41 : AN.pur 41 = false := by kernel_rfl
theorem ao41 : AN.ro 41 = false := by kernel_rfl
theorem af41 : AN.frz 41 = false := by kernel_rfl
theorem aa41 : AN.fra 41 = false := by kernel_rfl
theorem ar41 : AN.res 41 = [] := by kernel_rfl
theorem ab42 : AN.bor 42 = true := by kernel_rfl
theorem ap42 : AN.pur 42 = false := by kernel_rfl
theorem ao42 : AN.ro 42 = false := by kernel_rfl
theorem af42 : AN.frz 42 = false := by kernel_rfl
theorem aa42 : AN.fra 42 = false := by kernel_rfl
theorem ar42 : AN.res 42 = [] := by kernel_rfl
theorem ab43 : AN.bor 43 = false := by kernel_rfl
theorem ap43 : AN.pur 43 = false := by kernel_rfl
theorem ao43 : AN.ro 43 = false := by kernel_rfl
theorem af43 : AN.frz 43 = false := by kernel_rfl
theorem aa43 : AN.fra 43 = false := by kernel_rfl
theorem ar43 : AN.res 43 = [(0, [], 1)] := by kernel_rfl
theorem ab44 : AN.bor 44 = false := by kernel_rfl
theorem ap44 : AN.pur 44 = false := by kernel_rfl
theorem ao44 : AN.ro 44 = false := by kernel_rfl
theorem af44 : AN.frz 44 = false := by kernel_rfl
theorem aa44 : AN.fra 44 = false := by kernel_rfl
theorem ar44 : AN.res 44 = [] := by kernel_rfl
theorem ab45 : AN.bor 45 = false := by kernel_rfl
theorem ap45 : AN.pur 45 = false := by kernel_rfl
theorem ao45 : AN.ro 45 = false := by kernel_rfl
theorem af45 : AN.frz 45 = false := by kernel_rfl
theorem aa45 : AN.fra 45 = false := by kernel_rfl
theorem ar45 : AN.res 45 = [(0, [], 1)] := by kernel_rfl
theorem ab46 : AN.bor 46 = false := by kernel_rfl
theorem ap46 : AN.pur 46 = false := by kernel_rfl
theorem ao46 : AN.ro 46 = false := by kernel_rfl
theorem af46 : AN.frz 46 = false := by kernel_rfl
theorem aa46 : AN.fra 46 = false := by kernel_rfl
theorem ar46 : AN.res 46 = [(0, [], 1)] := by kernel_rfl
theorem ab47 : AN.bor 47 = true := by kernel_rfl
theorem ap47 : AN.pur 47 = false := by kernel_rfl
theorem ao47 : AN.ro 47 = false := by kernel_rfl
theorem af47 : AN.frz 47 = false := by kernel_rfl
theorem aa47 : AN.fra 47 = false := by kernel_rfl
theorem ar47 : AN.res 47 = [] := by kernel_rfl
theorem ab48 : AN.bor 48 = true := by kernel_rfl
theorem ap48 : AN.pur 48 = false := by kernel_rfl
theorem ao48 : AN.ro 48 = false := by kernel_rfl
theorem af48 : AN.frz 48 = false := by kernel_rfl
theorem aa48 : AN.fra 48 = false := by kernel_rfl
theorem ar48 : AN.res 48 = [] := by kernel_rfl
theorem ab49 : AN.bor 49 = false := by kernel_rfl
theorem ap49 : AN.pur 49 = false := by kernel_rfl
theorem ao49 : AN.ro 49 = false := by kernel_rfl
theorem af49 : AN.frz 49 = false := by kernel_rfl
theorem aa49 : AN.fra 49 = false := by kernel_rfl
theorem ar49 : AN.res 49 = [] := by kernel_rfl
theorem ab50 : AN.bor 50 = true := by kernel_rfl
theorem ap50 : AN.pur 50 = false := by kernel_rfl
theorem ao50 : AN.ro 50 = false := by kernel_rfl
theorem af50 : AN.frz 50 = false := by kernel_rfl
theorem aa50 : AN.fra 50 = false := by kernel_rfl
theorem ar50 : AN.res 50 = [] := by kernel_rfl
theorem ab51 : AN.bor 51 = false := by kernel_rfl
theorem ap51 : AN.pur 51 = false := by kernel_rfl
theorem ao51 : AN.ro 51 = false := by kernel_rfl
theorem af51 : AN.frz 51 = false := by kernel_rfl
theorem aa51 : AN.fra 51 = false := by kernel_rfl
theorem ar51 : AN.res 51 = [] := by kernel_rfl
theorem ab52 : AN.bor 52 = false := by kernel_rfl
theorem ap52 : AN.pur 52 = false := by kernel_rfl
theorem ao52 : AN.ro 52 = false := by kernel_rfl
theorem af52 : AN.frz 52 = false := by kernel_rfl
theorem aa52 : AN.fra 52 = false := by kernel_rfl
theorem ar52 : AN.res 52 = [(0, [0], 1), (0, [1], 3), (0, [2], 1)] := by kernel_rfl
theorem ab53 : AN.bor 53 = false := by kernel_rfl
theorem ap53 : AN.pur 53 = true := by kernel_rfl
theorem ao53 : AN.ro 53 = false := by kernel_rfl
theorem af53 : AN.frz 53 = true := by kernel_rfl
theorem aa53 : AN.fra 53 = false := by kernel_rfl
theorem ar53 : AN.res 53 = [] := by kernel_rfl
theorem ab54 : AN.bor 54 = true := by kernel_rfl
theorem ap54 : AN.pur 54 = false := by kernel_rfl
theorem ao54 : AN.ro 54 = false := by kernel_rfl
theorem af54 : AN.frz 54 = false := by kernel_rfl
theorem aa54 : AN.fra 54 = false := by kernel_rfl
theorem ar54 : AN.res 54 = [] := by kernel_rfl
theorem ab55 : AN.bor 55 = false := by kernel_rfl
theorem ap55 : AN.pur 55 = false := by kernel_rfl
theorem ao55 : AN.ro 55 = false := by kernel_rfl
theorem af55 : AN.frz 55 = false := by kernel_rfl
theorem aa55 : AN.fra 55 = false := by kernel_rfl
theorem ar55 : AN.res 55 = [(0, [], 2)] := by kernel_rfl
theorem ab56 : AN.bor 56 = false := by kernel_rfl
theorem ap56 : AN.pur 56 = false := by kernel_rfl
theorem ao56 : AN.ro 56 = false := by kernel_rfl
theorem af56 : AN.frz 56 = false := by kernel_rfl
theorem aa56 : AN.fra 56 = false := by kernel_rfl
theorem ar56 : AN.res 56 = [(0, [], 2)] := by kernel_rfl
theorem ab57 : AN.bor 57 = true := by kernel_rfl
theorem ap57 : AN.pur 57 = false := by kernel_rfl
theorem ao57 : AN.ro 57 = false := by kernel_rfl
theorem af57 : AN.frz 57 = false := by kernel_rfl
theorem aa57 : AN.fra 57 = false := by kernel_rfl
theorem ar57 : AN.res 57 = [] := by kernel_rfl
theorem ab58 : AN.bor 58 = true := by kernel_rfl
theorem ap58 : AN.pur 58 = false := by kernel_rfl
theorem ao58 : AN.ro 58 = false := by kernel_rfl
theorem af58 : AN.frz 58 = false := by kernel_rfl
theorem aa58 : AN.fra 58 = false := by kernel_rfl
theorem ar58 : AN.res 58 = [] := by kernel_rfl
theorem ab59 : AN.bor 59 = false := by kernel_rfl
theorem ap59 : AN.pur 59 = false := by kernel_rfl
theorem ao59 : AN.ro 59 = false := by kernel_rfl
theorem af59 : AN.frz 59 = false := by kernel_rfl
theorem aa59 : AN.fra 59 = false := by kernel_rfl
theorem ar59 : AN.res 59 = [(0, [], 2)] := by kernel_rfl
theorem ab60 : AN.bor 60 = true := by kernel_rfl
theorem ap60 : AN.pur 60 = false := by kernel_rfl
theorem ao60 : AN.ro 60 = false := by kernel_rfl
theorem af60 : AN.frz 60 = false := by kernel_rfl
theorem aa60 : AN.fra 60 = false := by kernel_rfl
theorem ar60 : AN.res 60 = [] := by kernel_rfl
theorem ab61 : AN.bor 61 = true := by kernel_rfl
theorem ap61 : AN.pur 61 = false := by kernel_rfl
theorem ao61 : AN.ro 61 = false := by kernel_rfl
theorem af61 : AN.frz 61 = false := by kernel_rfl
theorem aa61 : AN.fra 61 = false := by kernel_rfl
theorem ar61 : AN.res 61 = [] := by kernel_rfl
theorem ab62 : AN.bor 62 = true := by kernel_rfl
theorem ap62 : AN.pur 62 = false := by kernel_rfl
theorem ao62 : AN.ro 62 = false := by kernel_rfl
theorem af62 : AN.frz 62 = false := by kernel_rfl
theorem aa62 : AN.fra 62 = false := by kernel_rfl
theorem ar62 : AN.res 62 = [] := by kernel_rfl
theorem ab63 : AN.bor 63 = false := by kernel_rfl
theorem ap63 : AN.pur 63 = true := by kernel_rfl
theorem ao63 : AN.ro 63 = false := by kernel_rfl
theorem af63 : AN.frz 63 = true := by kernel_rfl
theorem aa63 : AN.fra 63 = false := by kernel_rfl
theorem ar63 : AN.res 63 = [(0, [], 1)] := by kernel_rfl
theorem ab64 : AN.bor 64 = false := by kernel_rfl
theorem ap64 : AN.pur 64 = true := by kernel_rfl
theorem ao64 : AN.ro 64 = false := by kernel_rfl
theorem af64 : AN.frz 64 = true := by kernel_rfl
theorem aa64 : AN.fra 64 = false := by kernel_rfl
theorem ar64 : AN.res 64 = [(0, [], 1)] := by kernel_rfl
theorem ab66 : AN.bor 66 = false := by kernel_rfl
theorem ap66 : AN.pur 66 = true := by kernel_rfl
theorem ao66 : AN.ro 66 = false := by kernel_rfl
theorem af66 : AN.frz 66 = true := by kernel_rfl
theorem aa66 : AN.fra 66 = false := by kernel_rfl
theorem ar66 : AN.res 66 = [] := by kernel_rfl
theorem ab67 : AN.bor 67 = true := by kernel_rfl
theorem ap67 : AN.pur 67 = false := by kernel_rfl
theorem ao67 : AN.ro 67 = false := by kernel_rfl
theorem af67 : AN.frz 67 = false := by kernel_rfl
theorem aa67 : AN.fra 67 = false := by kernel_rfl
theorem ar67 : AN.res 67 = [] := by kernel_rfl
theorem ab68 : AN.bor 68 = false := by kernel_rfl
theorem ap68 : AN.pur 68 = false := by kernel_rfl
theorem ao68 : AN.ro 68 = false := by kernel_rfl
theorem af68 : AN.frz 68 = false := by kernel_rfl
theorem aa68 : AN.fra 68 = false := by kernel_rfl
theorem ar68 : AN.res 68 = [] := by kernel_rfl
theorem ab69 : AN.bor 69 = true := by kernel_rfl
theorem ap69 : AN.pur 69 = false := by kernel_rfl
theorem ao69 : AN.ro 69 = false := by kernel_rfl
theorem af69 : AN.frz 69 = false := by kernel_rfl
theorem aa69 : AN.fra 69 = false := by kernel_rfl
theorem ar69 : AN.res 69 = [] := by kernel_rfl
theorem ab70 : AN.bor 70 = false := by kernel_rfl
theorem ap70 : AN.pur 70 = false := by kernel_rfl
theorem ao70 : AN.ro 70 = false := by kernel_rfl
theorem af70 : AN.frz 70 = false := by kernel_rfl
theorem aa70 : AN.fra 70 = false := by kernel_rfl
theorem ar70 : AN.res 70 = [] := by kernel_rfl
theorem ab71 : AN.bor 71 = true := by kernel_rfl
theorem ap71 : AN.pur 71 = false := by kernel_rfl
theorem ao71 : AN.ro 71 = false := by kernel_rfl
theorem af71 : AN.frz 71 = false := by kernel_rfl
theorem aa71 : AN.fra 71 = false := by kernel_rfl
theorem ar71 : AN.res 71 = [] := by kernel_rfl
theorem ab72 : AN.bor 72 = true := by kernel_rfl
theorem ap72 : AN.pur 72 = false := by kernel_rfl
theorem ao72 : AN.ro 72 = false := by kernel_rfl
theorem af72 : AN.frz 72 = false := by kernel_rfl
theorem aa72 : AN.fra 72 = false := by kernel_rfl
theorem ar72 : AN.res 72 = [] := by kernel_rfl
theorem ab73 : AN.bor 73 = false := by kernel_rfl
theorem ap73 : AN.pur 73 = false := by kernel_rfl
theorem ao73 : AN.ro 73 = false := by kernel_rfl
theorem af73 : AN.frz 73 = false := by kernel_rfl
theorem aa73 : AN.fra 73 = false := by kernel_rfl
theorem ar73 : AN.res 73 = [] := by kernel_rfl
theorem ab74 : AN.bor 74 = false := by kernel_rfl
theorem ap74 : AN.pur 74 = false := by kernel_rfl
theorem ao74 : AN.ro 74 = false := by kernel_rfl
theorem af74 : AN.frz 74 = false := by kernel_rfl
theorem aa74 : AN.fra 74 = false := by kernel_rfl
theorem ar74 : AN.res 74 = [(0, [], 1)] := by kernel_rfl
theorem ab75 : AN.bor 75 = true := by kernel_rfl
theorem ap75 : AN.pur 75 = false := by kernel_rfl
theorem ao75 : AN.ro 75 = false := by kernel_rfl
theorem af75 : AN.frz 75 = false := by kernel_rfl
theorem aa75 : AN.fra 75 = false := by kernel_rfl
theorem ar75 : AN.res 75 = [] := by kernel_rfl
theorem ab76 : AN.bor 76 = false := by kernel_rfl
theorem ap76 : AN.pur 76 = false := by kernel_rfl
theorem ao76 : AN.ro 76 = false := by kernel_rfl
theorem af76 : AN.frz 76 = false := by kernel_rfl
theorem aa76 : AN.fra 76 = false := by kernel_rfl
theorem ar76 : AN.res 76 = [(0, [], 1)] := by kernel_rfl
theorem ab77 : AN.bor 77 = false := by kernel_rfl
theorem ap77 : AN.pur 77 = false := by kernel_rfl
theorem ao77 : AN.ro 77 = false := by kernel_rfl
theorem af77 : AN.frz 77 = false := by kernel_rfl
theorem aa77 : AN.fra 77 = false := by kernel_rfl
theorem ar77 : AN.res 77 = [] := by kernel_rfl
theorem ab78 : AN.bor 78 = false := by kernel_rfl
theorem ap78 : AN.pur 78 = true := by kernel_rfl
theorem ao78 : AN.ro 78 = false := by kernel_rfl
theorem af78 : AN.frz 78 = false := by kernel_rfl
theorem aa78 : AN.fra 78 = false := by kernel_rfl
theorem ar78 : AN.res 78 = [] := by kernel_rfl
theorem ab79 : AN.bor 79 = false := by kernel_rfl
theorem ap79 : AN.pur 79 = false := by kernel_rfl
theorem ao79 : AN.ro 79 = false := by kernel_rfl
theorem af79 : AN.frz 79 = false := by kernel_rfl
theorem aa79 : AN.fra 79 = false := by kernel_rfl
theorem ar79 : AN.res 79 = [] := by kernel_rfl
theorem ab80 : AN.bor 80 = true := by kernel_rfl
theorem ap80 : AN.pur 80 = false := by kernel_rfl
theorem ao80 : AN.ro 80 = false := by kernel_rfl
theorem af80 : AN.frz 80 = false := by kernel_rfl
theorem aa80 : AN.fra 80 = false := by kernel_rfl
theorem ar80 : AN.res 80 = [] := by kernel_rfl
theorem ab81 : AN.bor 81 = true := by kernel_rfl
theorem ap81 : AN.pur 81 = false := by kernel_rfl
theorem ao81 : AN.ro 81 = false := by kernel_rfl
theorem af81 : AN.frz 81 = false := by kernel_rfl
theorem aa81 : AN.fra 81 = false := by kernel_rfl
theorem ar81 : AN.res 81 = [] := by kernel_rfl
theorem ab82 : AN.bor 82 = false := by kernel_rfl
theorem ap82 : AN.pur 82 = true := by kernel_rfl
theorem ao82 : AN.ro 82 = false := by kernel_rfl
theorem af82 : AN.frz 82 = false := by kernel_rfl
theorem aa82 : AN.fra 82 = false := by kernel_rfl
theorem ar82 : AN.res 82 = [] := by kernel_rfl
theorem ab83 : AN.bor 83 = false := by kernel_rfl
theorem ap83 : AN.pur 83 = true := by kernel_rfl
theorem ao83 : AN.ro 83 = false := by kernel_rfl
theorem af83 : AN.frz 83 = true := by kernel_rfl
theorem aa83 : AN.fra 83 = false := by kernel_rfl
theorem ar83 : AN.res 83 = [] := by kernel_rfl
theorem ab84 : AN.bor 84 = true := by kernel_rfl
theorem ap84 : AN.pur 84 = false := by kernel_rfl
theorem ao84 : AN.ro 84 = false := by kernel_rfl
theorem af84 : AN.frz 84 = false := by kernel_rfl
theorem aa84 : AN.fra 84 = false := by kernel_rfl
theorem ar84 : AN.res 84 = [] := by kernel_rfl
theorem ab85 : AN.bor 85 = true := by kernel_rfl
theorem ap85 : AN.pur 85 = false := by kernel_rfl
theorem ao85 : AN.ro 85 = false := by kernel_rfl
theorem af85 : AN.frz 85 = false := by kernel_rfl
theorem aa85 : AN.fra 85 = false := by kernel_rfl
theorem ar85 : AN.res 85 = [] := by kernel_rfl
theorem ab86 : AN.bor 86 = true := by kernel_rfl
theorem ap86 : AN.pur 86 = false := by kernel_rfl
theorem ao86 : AN.ro 86 = false := by kernel_rfl
theorem af86 : AN.frz 86 = false := by kernel_rfl
theorem aa86 : AN.fra 86 = false := by kernel_rfl
theorem ar86 : AN.res 86 = [] := by kernel_rfl
theorem ab87 : AN.bor 87 = true := by kernel_rfl
theorem ap87 : AN.pur 87 = false := by kernel_rfl
theorem ao87 : AN.ro 87 = false := by kernel_rfl
theorem af87 : AN.frz 87 = false := by kernel_rfl
theorem aa87 : AN.fra 87 = false := by kernel_rfl
theorem ar87 : AN.res 87 = [] := by kernel_rfl
theorem ab88 : AN.bor 88 = false := by kernel_rfl
theorem ap88 : AN.pur 88 = false := by kernel_rfl
theorem ao88 : AN.ro 88 = false := by kernel_rfl
theorem af88 : AN.frz 88 = false := by kernel_rfl
theorem aa88 : AN.fra 88 = false := by kernel_rfl
theorem ar88 : AN.res 88 = [] := by kernel_rfl
theorem ab89 : AN.bor 89 = false := by kernel_rfl
theorem ap89 : AN.pur 89 = false := by kernel_rfl
theorem ao89 : AN.ro 89 = false := by kernel_rfl
theorem af89 : AN.frz 89 = false := by kernel_rfl
theorem aa89 : AN.fra 89 = false := by kernel_rfl
theorem ar89 : AN.res 89 = [] := by kernel_rfl
theorem ab90 : AN.bor 90 = false := by kernel_rfl
theorem ap90 : AN.pur 90 = false := by kernel_rfl
theorem ao90 : AN.ro 90 = false := by kernel_rfl
theorem af90 : AN.frz 90 = false := by kernel_rfl
theorem aa90 : AN.fra 90 = false := by kernel_rfl
theorem ar90 : AN.res 90 = [] := by kernel_rfl
theorem ab91 : AN.bor 91 = false := by kernel_rfl
theorem ap91 : AN.pur 91 = false := by kernel_rfl
theorem ao91 : AN.ro 91 = false := by kernel_rfl
theorem af91 : AN.frz 91 = false := by kernel_rfl
theorem aa91 : AN.fra 91 = false := by kernel_rfl
theorem ar91 : AN.res 91 = [] := by kernel_rfl
theorem ab92 : AN.bor 92 = false := by kernel_rfl
theorem ap92 : AN.pur 92 = false := by kernel_rfl
theorem ao92 : AN.ro 92 = false := by kernel_rfl
theorem af92 : AN.frz 92 = false := by kernel_rfl
theorem aa92 : AN.fra 92 = false := by kernel_rfl
theorem ar92 : AN.res 92 = [] := by kernel_rfl
theorem ab93 : AN.bor 93 = true := by kernel_rfl
theorem ap93 : AN.pur 93 = false := by kernel_rfl
theorem ao93 : AN.ro 93 = false := by kernel_rfl
theorem af93 : AN.frz 93 = false := by kernel_rfl
theorem aa93 : AN.fra 93 = false := by kernel_rfl
theorem ar93 : AN.res 93 = [] := by kernel_rfl
theorem ad3_7 : AN.dr 3 7 = some ([45, 1000000, 1000034, 1000012, 1000035, 1000034, 1000035, 1000036, 1000036, 1000037, 1000000, 1000039, 1000012, 1000040, 1000039, 1000040, 1000041, 1000041, 1000042], false, [], [some 33, some 34, some 35, some 36, some 37, some 39, some 40, some 41, some 42]) := by kernel_rfl
theorem ad4_11 : AN.dr 4 11 = some ([53, 1000007, 1000046, 1000002, 1000048, 1000008, 1000050, 1000049, 1000050, 1000051, 1000007, 1000055], false, [7], [some 46, some 48, some 50, some 51, some 55]) := by kernel_rfl
theorem ad6_4 : AN.dr 6 4 = some ([], false, [], []) := by kernel_rfl
theorem ad8_16 : AN.dr 8 16 = some ([], false, [], []) := by kernel_rfl
theorem ad8_25 : AN.dr 8 25 = some ([], false, [], []) := by kernel_rfl
theorem ad8_26 : AN.dr 8 26 = some ([], false, [], []) := by kernel_rfl
theorem ad8_29 : AN.dr 8 29 = some ([1000002, 1000168, 1000169, 1000170, 1000172, 1000165], false, [], [some 167, some 168, some 170, some 165]) := by kernel_rfl
theorem ad9_4 : AN.dr 9 4 = some ([], false, [], []) := by kernel_rfl
theorem ad9_17 : AN.dr 9 17 = some ([], false, [], []) := by kernel_rfl
theorem ad12_3 : AN.dr 12 3 = some ([], false, [], []) := by kernel_rfl
theorem ad13_3 : AN.dr 13 3 = some ([], false, [], []) := by kernel_rfl
theorem ad14_3 : AN.dr 14 3 = some ([], false, [], []) := by kernel_rfl
theorem ad18_24 : AN.dr 18 24 = some ([], false, [], []) := by kernel_rfl
theorem ad19_5 : AN.dr 19 5 = some ([23, 1000000, 1000012, 1000004, 1000013, 1000012, 1000013, 1000014, 1000014, 1000015, 1000000, 1000017, 1000004, 1000018, 1000017, 1000018, 1000019, 1000019, 1000020], false, [], [some 11, some 12, some 13, some 14, some 15, some 17, some 18, some 19, some 20]) := by kernel_rfl
theorem ad20_6 : AN.dr 20 6 = some ([], false, [], []) := by kernel_rfl
theorem ad23_6 : AN.dr 23 6 = some ([], false, [], []) := by kernel_rfl
theorem ad27_18 : AN.dr 27 18 = some ([], false, [], []) := by kernel_rfl
theorem ad30_21 : AN.dr 30 21 = some ([], false, [], []) := by kernel_rfl
theorem ad30_23 : AN.dr 30 23 = some ([], false, [], []) := by kernel_rfl
theorem ad31_10 : AN.dr 31 10 = some ([], false, [], []) := by kernel_rfl
theorem ad34_4 : AN.dr 34 4 = some ([33, 37, 38, 7, 700033, 700037, 700038, 700007], true, [7], []) := by kernel_rfl
theorem ad34_13 : AN.dr 34 13 = some ([14], false, [14], []) := by kernel_rfl
theorem ad37_12 : AN.dr 37 12 = some ([], false, [], []) := by kernel_rfl
theorem ad37_13 : AN.dr 37 13 = some ([51, 1000005, 1000042, 1000007, 1000043, 1000042, 1000043, 1000044, 1000005, 1000046, 1000008, 1000047, 1000046, 1000047, 1000048], false, [], [some 41, some 42, some 43, some 44, some 46, some 47, some 48]) := by kernel_rfl
theorem ad40_8 : AN.dr 40 8 = some ([1000003, 1000026, 1000026, 1000027, 1000007, 1000029], false, [], [some 26, some 27, some 28, some 29]) := by kernel_rfl
theorem ad40_12 : AN.dr 40 12 = some ([1000003, 1000040, 1000007, 1000041, 1000040, 1000043, 1000043, 1000044, 1000009, 1000046], false, [], [some 40, some 41, some 43, some 44, some 45, some 46]) := by kernel_rfl
theorem ad40_13 : AN.dr 40 13 = some ([1000003, 1000049, 1000009, 1000050, 1000049, 1000052, 1000052, 1000053, 1000007, 1000055], false, [], [some 49, some 50, some 52, some 53, some 54, some 55]) := by kernel_rfl
theorem ad43_9 : AN.dr 43 9 = some ([], false, [], []) := by kernel_rfl
theorem ad49_1 : AN.dr 49 1 = some ([], false, [], []) := by kernel_rfl
theorem ad51_3 : AN.dr 51 3 = some ([], false, [], []) := by kernel_rfl
theorem ad52_5 : AN.dr 52 5 = some ([26, 1000005, 1000019, 1000002, 1000021, 1000006, 1000023, 1000022, 1000023, 1000024, 1000005, 1000028], false, [5], [some 19, some 21, some 23, some 24, some 28]) := by kernel_rfl
theorem ad55_11 : AN.dr 55 11 = some ([], false, [10], []) := by kernel_rfl
theorem ad56_8 : AN.dr 56 8 = some ([], false, [7], []) := by kernel_rfl
theorem ad59_9 : AN.dr 59 9 = some ([], false, [], []) := by kernel_rfl
theorem ad71_6 : AN.dr 71 6 = some ([], false, [], []) := by kernel_rfl
theorem ad77_0 : AN.dr 77 0 = some ([], false, [0], []) := by kernel_rfl
theorem ak3_6 : AN.keep 3 6 = some [0, 1, 2, 3, 4, 11, 12] := by kernel_rfl
theorem ax3_6 : AN.fix 3 6 = [(0, [], 2), (1, [], 1), (2, [], 1), (5, [], 2)] := by kernel_rfl
theorem al3_6 : AN.frl 3 6 = false := by kernel_rfl
theorem ak4_10 : AN.keep 4 10 = some [1, 2, 4, 5, 7, 8] := by kernel_rfl
theorem ax4_10 : AN.fix 4 10 = [(0, [], 2)] := by kernel_rfl
theorem al4_10 : AN.frl 4 10 = false := by kernel_rfl
theorem ak6_27 : AN.keep 6 27 = some [5, 6, 7, 10, 13, 15, 16, 17] := by kernel_rfl
theorem ax6_27 : AN.fix 6 27 = [(3, [], 1)] := by kernel_rfl
theorem al6_27 : AN.frl 6 27 = false := by kernel_rfl
theorem ak6_23 : AN.keep 6 23 = some [4, 5, 6, 7, 10, 13, 15] := by kernel_rfl
theorem ax6_23 : AN.fix 6 23 = [(4, [], 1)] := by kernel_rfl
theorem al6_23 : AN.frl 6 23 = false := by kernel_rfl
theorem ak6_19 : AN.keep 6 19 = some [5, 6, 7, 10, 13, 14] := by kernel_rfl
theorem ax6_19 : AN.fix 6 19 = [(3, [], 1)] := by kernel_rfl
theorem al6_19 : AN.frl 6 19 = false := by kernel_rfl
theorem ak7_25 : AN.keep 7 25 = some [1, 3, 5, 6, 7, 9, 10, 11, 12] := by kernel_rfl
theorem ax7_25 : AN.fix 7 25 = [(1, [], 1), (2, [], 2), (3, [], 1)] := by kernel_rfl
theorem al7_25 : AN.frl 7 25 = false := by kernel_rfl
theorem ak7_21 : AN.keep 7 21 = some [1, 2, 3, 5, 6, 7, 9, 10] := by kernel_rfl
theorem ax7_21 : AN.fix 7 21 = [(2, [], 1), (3, [], 2), (4, [], 1)] := by kernel_rfl
theorem al7_21 : AN.frl 7 21 = false := by kernel_rfl
theorem ak7_17 : AN.keep 7 17 = some [1, 2, 3, 5, 6, 7, 9] := by kernel_rfl
theorem ax7_17 : AN.fix 7 17 = [(2, [], 1), (3, [], 2), (4, [], 1)] := by kernel_rfl
theorem al7_17 : AN.frl 7 17 = false := by kernel_rfl
theorem ak7_12 : AN.keep 7 12 = some [1, 3, 5, 6, 7, 8] := by kernel_rfl
theorem ax7_12 : AN.fix 7 12 = [(1, [], 1), (2, [], 2), (3, [], 1)] := by kernel_rfl
theorem al7_12 : AN.frl 7 12 = false := by kernel_rfl
theorem ak8_24 : AN.keep 8 24 = some [1, 2, 5, 7, 8, 11, 12, 13] := by kernel_rfl
theorem ax8_24 : AN.fix 8 24 = [(0, [], 2), (2, [], 1), (3, [], 1), (4, [], 1)] := by kernel_rfl
theorem al8_24 : AN.frl 8 24 = false := by kernel_rfl
theorem ak8_20 : AN.keep 8 20 = some [1, 2, 4, 5, 7, 8, 11] := by kernel_rfl
theorem ax8_20 : AN.fix 8 20 = [(0, [], 2), (3, [], 1), (4, [], 1), (5, [], 1)] := by kernel_rfl
theorem al8_20 : AN.frl 8 20 = false := by kernel_rfl
theorem ak8_15 : AN.keep 8 15 = some [1, 2, 4, 5, 7, 8, 10] := by kernel_rfl
theorem ax8_15 : AN.fix 8 15 = [(0, [], 2), (3, [], 1), (4, [], 1), (5, [], 1)] := by kernel_rfl
theorem al8_15 : AN.frl 8 15 = false := by kernel_rfl
theorem ak9_16 : AN.keep 9 16 = some [2, 12, 13, 14] := by kernel_rfl
theorem ax9_16 : AN.fix 9 16 = [(1, [], 2), (2, [], 2)] := by kernel_rfl
theorem al9_16 : AN.frl 9 16 = false := by kernel_rfl
theorem ak14_11 : AN.keep 14 11 = some [1, 3, 4, 5, 7] := by kernel_rfl
theorem ax14_11 : AN.fix 14 11 = [] := by kernel_rfl
theorem al14_11 : AN.frl 14 11 = false := by kernel_rfl
theorem ak14_6 : AN.keep 14 6 = some [1, 3, 4, 5, 6] := by kernel_rfl
theorem ax14_6 : AN.fix 14 6 = [] := by kernel_rfl
theorem al14_6 : AN.frl 14 6 = false := by kernel_rfl
theorem ak15_17 : AN.keep 15 17 = some [5, 6, 8, 9] := by kernel_rfl
theorem ax15_17 : AN.fix 15 17 = [(1, [], 1), (2, [], 1)] := by kernel_rfl
theorem al15_17 : AN.frl 15 17 = false := by kernel_rfl
theorem ak15_10 : AN.keep 15 10 = some [5, 6, 22] := by kernel_rfl
theorem ax15_10 : AN.fix 15 10 = [(1, [], 1)] := by kernel_rfl
theorem al15_10 : AN.frl 15 10 = false := by kernel_rfl
theorem ak17_13 : AN.keep 17 13 = some [2, 6, 7, 8, 12, 13, 51, 52, 53] := by kernel_rfl
theorem ax17_13 : AN.fix 17 13 = [(0, [], 2), (1, [], 1), (2, [], 1), (6, [], 2)] := by kernel_rfl
theorem al17_13 : AN.frl 17 13 = false := by kernel_rfl
theorem ak18_32 : AN.keep 18 32 = some [2, 10, 12, 14, 15, 16, 19, 20, 21] := by kernel_rfl
theorem ax18_32 : AN.fix 18 32 = [(0, [], 2), (2, [], 1), (3, [], 1)] := by kernel_rfl
theorem al18_32 : AN.frl 18 32 = false := by kernel_rfl
theorem ak18_29 : AN.keep 18 29 = some [2, 10, 12, 14, 15, 16, 19, 20] := by kernel_rfl
theorem ax18_29 : AN.fix 18 29 = [(0, [], 2), (2, [], 1), (3, [], 1)] := by kernel_rfl
theorem al18_29 : AN.frl 18 29 = false := by kernel_rfl
theorem ak18_23 : AN.keep 18 23 = some [2, 10, 12, 14, 15, 16, 17, 18] := by kernel_rfl
theorem ax18_23 : AN.fix 18 23 = [(0, [], 2), (2, [], 1), (3, [], 1)] := by kernel_rfl
theorem al18_23 : AN.frl 18 23 = false := by kernel_rfl
theorem ak18_18 : AN.keep 18 18 = some [2, 6, 7, 8, 10, 12, 14, 15] := by kernel_rfl
theorem ax18_18 : AN.fix 18 18 = [(0, [], 2), (1, [], 1), (2, [], 1), (5, [], 1), (6, [], 1)] := by kernel_rfl
theorem al18_18 : AN.frl 18 18 = false := by kernel_rfl
theorem ak18_11 : AN.keep 18 11 = some [1, 2, 10, 12, 13] := by kernel_rfl
theorem ax18_11 : AN.fix 18 11 = [(0, [], 1), (1, [], 2), (3, [], 1)] := by kernel_rfl
theorem al18_11 : AN.frl 18 11 = false := by kernel_rfl
theorem ak19_4 : AN.keep 19 4 = some [0, 3, 4] := by kernel_rfl
theorem ax19_4 : AN.fix 19 4 = [(0, [], 2), (1, [], 2)] := by kernel_rfl
theorem al19_4 : AN.frl 19 4 = false := by kernel_rfl
theorem ak20_5 : AN.keep 20 5 = some [0, 1, 4, 5] := by kernel_rfl
theorem ax20_5 : AN.fix 20 5 = [(0, [], 1), (1, [], 1)] := by kernel_rfl
theorem al20_5 : AN.frl 20 5 = false := by kernel_rfl
theorem ak23_5 : AN.keep 23 5 = some [0, 1, 4, 5] := by kernel_rfl
theorem ax23_5 : AN.fix 23 5 = [(0, [], 2), (1, [], 2)] := by kernel_rfl
theorem al23_5 : AN.frl 23 5 = false := by kernel_rfl
theorem ak25_18 : AN.keep 25 18 = some [1, 2, 8, 9, 10, 11, 12, 13] := by kernel_rfl
theorem ax25_18 : AN.fix 25 18 = [(0, [], 1), (2, [], 2), (3, [], 1), (5, [], 2)] := by kernel_rfl
theorem al25_18 : AN.frl 25 18 = false := by kernel_rfl
theorem ak25_16 : AN.keep 25 16 = some [1, 2, 8, 9, 10, 11, 12, 13] := by kernel_rfl
theorem ax25_16 : AN.fix 25 16 = [(0, [], 1), (2, [], 2), (3, [], 1), (5, [], 2)] := by kernel_rfl
theorem al25_16 : AN.frl 25 16 = false := by kernel_rfl
theorem ak25_12 : AN.keep 25 12 = some [1, 2, 8, 9, 10, 11, 12] := by kernel_rfl
theorem ax25_12 : AN.fix 25 12 = [(0, [], 1), (2, [], 2), (3, [], 1), (5, [], 2)] := by kernel_rfl
theorem al25_12 : AN.frl 25 12 = false := by kernel_rfl
theorem ak25_8 : AN.keep 25 8 = some [1, 2, 8, 9, 10] := by kernel_rfl
theorem ax25_8 : AN.fix 25 8 = [(0, [], 1), (2, [], 2), (3, [], 1)] := by kernel_rfl
theorem al25_8 : AN.frl 25 8 = false := by kernel_rfl
theorem ak27_17 : AN.keep 27 17 = some [1, 2, 4, 6, 8, 9] := by kernel_rfl
theorem ax27_17 : AN.fix 27 17 = [(0, [], 1), (3, [], 1)] := by kernel_rfl
theorem al27_17 : AN.frl 27 17 = false := by kernel_rfl
theorem ak27_14 : AN.keep 27 14 = some [1, 2, 4, 6, 8] := by kernel_rfl
theorem ax27_14 : AN.fix 27 14 = [(0, [], 1), (3, [], 1)] := by kernel_rfl
theorem al27_14 : AN.frl 27 14 = false := by kernel_rfl
theorem ak27_9 : AN.keep 27 9 = some [1, 2, 4, 6, 7] := by kernel_rfl
theorem ax27_9 : AN.fix 27 9 = [(0, [], 1), (3, [], 1)] := by kernel_rfl
theorem al27_9 : AN.frl 27 9 = false := by kernel_rfl
theorem ak28_10 : AN.keep 28 10 = some [1, 2, 3, 5, 6] := by kernel_rfl
theorem ax28_10 : AN.fix 28 10 = [(3, [], 1)] := by kernel_rfl
theorem al28_10 : AN.frl 28 10 = false := by kernel_rfl
theorem ak29_8 : AN.keep 29 8 = some [5, 6, 21, 22] := by kernel_rfl
theorem ax29_8 : AN.fix 29 8 = [(1, [], 1)] := by kernel_rfl
theorem al29_8 : AN.frl 29 8 = false := by kernel_rfl
theorem ak30_27 : AN.keep 30 27 = some [1, 2, 9] := by kernel_rfl
theorem ax30_27 : AN.fix 30 27 = [] := by kernel_rfl
theorem al30_27 : AN.frl 30 27 = false := by kernel_rfl
theorem ak30_20 : AN.keep 30 20 = some [1, 2, 6, 7, 8] := by kernel_rfl
theorem ax30_20 : AN.fix 30 20 = [(3, [], 2)] := by kernel_rfl
theorem al30_20 : AN.frl 30 20 = false := by kernel_rfl
theorem ak30_16 : AN.keep 30 16 = some [1, 2, 6] := by kernel_rfl
theorem ax30_16 : AN.fix 30 16 = [] := by kernel_rfl
theorem al30_16 : AN.frl 30 16 = false := by kernel_rfl
theorem ak30_10 : AN.keep 30 10 = some [1, 2, 4] := by kernel_rfl
theorem ax30_10 : AN.fix 30 10 = [] := by kernel_rfl
theorem al30_10 : AN.frl 30 10 = false := by kernel_rfl
theorem ak30_5 : AN.keep 30 5 = some [1, 2, 3] := by kernel_rfl
theorem ax30_5 : AN.fix 30 5 = [] := by kernel_rfl
theorem al30_5 : AN.frl 30 5 = false := by kernel_rfl
theorem ak31_9 : AN.keep 31 9 = some [1, 3, 4, 5, 6, 7] := by kernel_rfl
theorem ax31_9 : AN.fix 31 9 = [(1, [], 1)] := by kernel_rfl
theorem al31_9 : AN.frl 31 9 = false := by kernel_rfl
theorem ak31_5 : AN.keep 31 5 = some [1, 3, 4, 5] := by kernel_rfl
theorem ax31_5 : AN.fix 31 5 = [(1, [], 1)] := by kernel_rfl
theorem al31_5 : AN.frl 31 5 = false := by kernel_rfl
theorem ak32_16 : AN.keep 32 16 = some [1, 2, 47, 48, 49] := by kernel_rfl
theorem ax32_16 : AN.fix 32 16 = [(2, [], 3)] := by kernel_rfl
theorem al32_16 : AN.frl 32 16 = false := by kernel_rfl
theorem ak32_9 : AN.keep 32 9 = some [1, 2, 31, 32, 33] := by kernel_rfl
theorem ax32_9 : AN.fix 32 9 = [(2, [], 1)] := by kernel_rfl
theorem al32_9 : AN.frl 32 9 = false := by kernel_rfl
theorem ak33_3 : AN.keep 33 3 = some [0, 1, 4, 5] := by kernel_rfl
theorem ax33_3 : AN.fix 33 3 = [(0, [], 1)] := by kernel_rfl
theorem al33_3 : AN.frl 33 3 = false := by kernel_rfl
theorem ak34_38 : AN.keep 34 38 = some [1, 7, 8, 9, 10, 11, 22, 105, 106, 107, 120, 121, 122] := by kernel_rfl
theorem ax34_38 : AN.fix 34 38 = [(2, [], 1), (3, [], 1), (7, [], 1), (10, [], 1)] := by kernel_rfl
theorem al34_38 : AN.frl 34 38 = false := by kernel_rfl
theorem ak34_33 : AN.keep 34 33 = some [1, 7, 8, 9, 10, 11, 105, 106, 107] := by kernel_rfl
theorem ax34_33 : AN.fix 34 33 = [(2, [], 1), (3, [], 1), (6, [], 1)] := by kernel_rfl
theorem al34_33 : AN.frl 34 33 = false := by kernel_rfl
theorem ak34_27 : AN.keep 34 27 = some [1, 7, 8, 9, 10, 11, 14, 18, 75, 76, 77, 90, 91, 92] := by kernel_rfl
theorem ax34_27 : AN.fix 34 27 = [(2, [], 1), (3, [], 1), (8, [], 1), (11, [], 1)] := by kernel_rfl
theorem al34_27 : AN.frl 34 27 = false := by kernel_rfl
theorem ak34_22 : AN.keep 34 22 = some [1, 7, 8, 9, 10, 11, 14, 75, 76, 77] := by kernel_rfl
theorem ax34_22 : AN.fix 34 22 = [(2, [], 1), (3, [], 1), (7, [], 1)] := by kernel_rfl
theorem al34_22 : AN.frl 34 22 = false := by kernel_rfl
theorem ak34_17 : AN.keep 34 17 = some [1, 7, 8, 9, 10, 11, 14, 64, 65, 66] := by kernel_rfl
theorem ax34_17 : AN.fix 34 17 = [(2, [], 1), (3, [], 1), (7, [], 1)] := by kernel_rfl
theorem al34_17 : AN.frl 34 17 = false := by kernel_rfl
theorem ak34_13 : AN.keep 34 13 = some [1, 7, 8, 9, 10, 11] := by kernel_rfl
theorem ax34_13 : AN.fix 34 13 = [(2, [], 1), (3, [], 1)] := by kernel_rfl
theorem al34_13 : AN.frl 34 13 = false := by kernel_rfl
theorem ak34_9 : AN.keep 34 9 = some [1, 7, 8, 9, 10, 11, 41, 42, 43] := by kernel_rfl
theorem ax34_9 : AN.fix 34 9 = [(2, [], 1), (3, [], 1), (6, [], 1)] := by kernel_rfl
theorem al34_9 : AN.frl 34 9 = false := by kernel_rfl
theorem ak36_11 : AN.keep 36 11 = some [5, 6, 7, 8, 16] := by kernel_rfl
theorem ax36_11 : AN.fix 36 11 = [(1, [], 2)] := by kernel_rfl
theorem al36_11 : AN.frl 36 11 = false := by kernel_rfl
theorem ak36_8 : AN.keep 36 8 = some [5, 6, 16] := by kernel_rfl
theorem ax36_8 : AN.fix 36 8 = [(1, [], 2)] := by kernel_rfl
theorem al36_8 : AN.frl 36 8 = false := by kernel_rfl
theorem ak37_11 : AN.keep 37 11 = some [1, 5, 6, 7, 8] := by kernel_rfl
theorem ax37_11 : AN.fix 37 11 = [(1, [], 1), (2, [], 2)] := by kernel_rfl
theorem al37_11 : AN.frl 37 11 = false := by kernel_rfl
theorem ak37_8 : AN.keep 37 8 = some [1, 5, 6, 7] := by kernel_rfl
theorem ax37_8 : AN.fix 37 8 = [(1, [], 1), (2, [], 2)] := by kernel_rfl
theorem al37_8 : AN.frl 37 8 = false := by kernel_rfl
theorem ak38_3 : AN.keep 38 3 = some [0, 1, 4, 5] := by kernel_rfl
theorem ax38_3 : AN.fix 38 3 = [(0, [], 1), (1, [], 1)] := by kernel_rfl
theorem al38_3 : AN.frl 38 3 = false := by kernel_rfl
theorem ak40_11 : AN.keep 40 11 = some [3, 5, 7, 13, 14, 15, 19, 20, 21, 34, 35, 36] := by kernel_rfl
theorem ax40_11 : AN.fix 40 11 = [(1, [], 2), (3, [], 1), (6, [], 2), (9, [], 2)] := by kernel_rfl
theorem al40_11 : AN.frl 40 11 = false := by kernel_rfl
theorem ak40_7 : AN.keep 40 7 = some [3, 5, 13, 14, 15, 19, 20, 21] := by kernel_rfl
theorem ax40_7 : AN.fix 40 7 = [(1, [], 2), (2, [], 1), (5, [], 2)] := by kernel_rfl
theorem al40_7 : AN.frl 40 7 = false := by kernel_rfl
theorem ak40_4 : AN.keep 40 4 = some [3, 13, 14, 15] := by kernel_rfl
theorem ax40_4 : AN.fix 40 4 = [(1, [], 1)] := by kernel_rfl
theorem al40_4 : AN.frl 40 4 = false := by kernel_rfl
theorem ak41_4 : AN.keep 41 4 = some [3, 6, 7] := by kernel_rfl
theorem ax41_4 : AN.fix 41 4 = [] := by kernel_rfl
theorem al41_4 : AN.frl 41 4 = false := by kernel_rfl
theorem ak43_9 : AN.keep 43 9 = some [7, 8] := by kernel_rfl
theorem ax43_9 : AN.fix 43 9 = [(0, [], 1)] := by kernel_rfl
theorem al43_9 : AN.frl 43 9 = false := by kernel_rfl
theorem ak44_7 : AN.keep 44 7 = some [0, 1, 2, 3, 8, 9, 10, 11] := by kernel_rfl
theorem ax44_7 : AN.fix 44 7 = [(1, [], 1), (2, [], 1)] := by kernel_rfl
theorem al44_7 : AN.frl 44 7 = false := by kernel_rfl
theorem ak47_3 : AN.keep 47 3 = some [0, 3] := by kernel_rfl
theorem ax47_3 : AN.fix 47 3 = [] := by kernel_rfl
theorem al47_3 : AN.frl 47 3 = false := by kernel_rfl
theorem ak50_4 : AN.keep 50 4 = some [0, 2, 6, 7, 10, 11, 12] := by kernel_rfl
theorem ax50_4 : AN.fix 50 4 = [(4, [], 1)] := by kernel_rfl
theorem al50_4 : AN.frl 50 4 = false := by kernel_rfl
theorem ak51_3 : AN.keep 51 3 = some [2, 5, 6] := by kernel_rfl
theorem ax51_3 : AN.fix 51 3 = [] := by kernel_rfl
theorem al51_3 : AN.frl 51 3 = false := by kernel_rfl
theorem ak52_4 : AN.keep 52 4 = some [1, 2, 4, 5, 6] := by kernel_rfl
theorem ax52_4 : AN.fix 52 4 = [(0, [], 2)] := by kernel_rfl
theorem al52_4 : AN.frl 52 4 = false := by kernel_rfl
theorem ak53_7 : AN.keep 53 7 = some [1, 3, 4, 5] := by kernel_rfl
theorem ax53_7 : AN.fix 53 7 = [] := by kernel_rfl
theorem al53_7 : AN.frl 53 7 = false := by kernel_rfl
theorem ak53_4 : AN.keep 53 4 = some [1, 3, 4] := by kernel_rfl
theorem ax53_4 : AN.fix 53 4 = [] := by kernel_rfl
theorem al53_4 : AN.frl 53 4 = false := by kernel_rfl
theorem ak54_3 : AN.keep 54 3 = some [1, 2, 3, 6, 7] := by kernel_rfl
theorem ax54_3 : AN.fix 54 3 = [] := by kernel_rfl
theorem al54_3 : AN.frl 54 3 = false := by kernel_rfl
theorem ak55_10 : AN.keep 55 10 = some [1, 10, 40, 41, 42] := by kernel_rfl
theorem ax55_10 : AN.fix 55 10 = [(0, [], 1), (1, [], 2), (2, [], 2)] := by kernel_rfl
theorem al55_10 : AN.frl 55 10 = false := by kernel_rfl
theorem ak55_4 : AN.keep 55 4 = some [1, 2, 3, 7, 17, 18, 19] := by kernel_rfl
theorem ax55_4 : AN.fix 55 4 = [(0, [], 1), (4, [], 2)] := by kernel_rfl
theorem al55_4 : AN.frl 55 4 = false := by kernel_rfl
theorem ak56_7 : AN.keep 56 7 = some [1, 7, 8, 9] := by kernel_rfl
theorem ax56_7 : AN.fix 56 7 = [(0, [], 1), (1, [], 2), (2, [], 2)] := by kernel_rfl
theorem al56_7 : AN.frl 56 7 = false := by kernel_rfl
theorem ak56_5 : AN.keep 56 5 = some [1, 7, 8, 9] := by kernel_rfl
theorem ax56_5 : AN.fix 56 5 = [(0, [], 1), (1, [], 2), (2, [], 2)] := by kernel_rfl
theorem al56_5 : AN.frl 56 5 = false := by kernel_rfl
theorem ak57_3 : AN.keep 57 3 = some [1, 2, 5, 8, 9, 10] := by kernel_rfl
theorem ax57_3 : AN.fix 57 3 = [(3, [], 2)] := by kernel_rfl
theorem al57_3 : AN.frl 57 3 = false := by kernel_rfl
theorem ak59_9 : AN.keep 59 9 = some [7, 8] := by kernel_rfl
theorem ax59_9 : AN.fix 59 9 = [(0, [], 2)] := by kernel_rfl
theorem al59_9 : AN.frl 59 9 = false := by kernel_rfl
theorem ak60_3 : AN.keep 60 3 = some [0, 1, 4, 5] := by kernel_rfl
theorem ax60_3 : AN.fix 60 3 = [(0, [], 1)] := by kernel_rfl
theorem al60_3 : AN.frl 60 3 = false := by kernel_rfl
theorem ak61_3 : AN.keep 61 3 = some [0, 1, 2, 6, 7] := by kernel_rfl
theorem ax61_3 : AN.fix 61 3 = [(0, [], 2), (1, [], 2)] := by kernel_rfl
theorem al61_3 : AN.frl 61 3 = false := by kernel_rfl
theorem ak62_11 : AN.keep 62 11 = some [0, 1, 4, 39, 40, 41] := by kernel_rfl
theorem ax62_11 : AN.fix 62 11 = [(1, [], 1), (3, [], 1)] := by kernel_rfl
theorem al62_11 : AN.frl 62 11 = false := by kernel_rfl
theorem ak62_5 : AN.keep 62 5 = some [0, 1, 4, 15, 16, 17] := by kernel_rfl
theorem ax62_5 : AN.fix 62 5 = [(1, [], 1), (3, [], 1)] := by kernel_rfl
theorem al62_5 : AN.frl 62 5 = false := by kernel_rfl
theorem ak63_7 : AN.keep 63 7 = some [1, 3, 4, 5] := by kernel_rfl
theorem ax63_7 : AN.fix 63 7 = [(1, [], 1)] := by kernel_rfl
theorem al63_7 : AN.frl 63 7 = false := by kernel_rfl
theorem ak63_4 : AN.keep 63 4 = some [1, 3, 4] := by kernel_rfl
theorem ax63_4 : AN.fix 63 4 = [(1, [], 1)] := by kernel_rfl
theorem al63_4 : AN.frl 63 4 = false := by kernel_rfl
theorem ak64_4 : AN.keep 64 4 = some [0, 3, 4] := by kernel_rfl
theorem ax64_4 : AN.fix 64 4 = [(0, [], 1), (1, [], 1)] := by kernel_rfl
theorem al64_4 : AN.frl 64 4 = false := by kernel_rfl
theorem ak66_3 : AN.keep 66 3 = some [0, 1, 4, 5] := by kernel_rfl
theorem ax66_3 : AN.fix 66 3 = [(0, [], 1)] := by kernel_rfl
theorem al66_3 : AN.frl 66 3 = false := by kernel_rfl
theorem ak71_3 : AN.keep 71 3 = some [0, 1, 4, 7, 8, 9] := by kernel_rfl
theorem ax71_3 : AN.fix 71 3 = [(0, [], 2), (3, [], 2)] := by kernel_rfl
theorem al71_3 : AN.frl 71 3 = false := by kernel_rfl
theorem ak74_4 : AN.keep 74 4 = some [3, 6, 7, 8] := by kernel_rfl
theorem ax74_4 : AN.fix 74 4 = [(0, [], 1), (1, [], 1)] := by kernel_rfl
theorem al74_4 : AN.frl 74 4 = false := by kernel_rfl
theorem ak76_8 : AN.keep 76 8 = some [1, 5, 7] := by kernel_rfl
theorem ax76_8 : AN.fix 76 8 = [(0, [], 1), (1, [], 1)] := by kernel_rfl
theorem al76_8 : AN.frl 76 8 = false := by kernel_rfl
theorem ak76_4 : AN.keep 76 4 = some [0, 1, 5, 6] := by kernel_rfl
theorem ax76_4 : AN.fix 76 4 = [(0, [], 1), (1, [], 1), (2, [], 1)] := by kernel_rfl
theorem al76_4 : AN.frl 76 4 = false := by kernel_rfl
theorem ak80_6 : AN.keep 80 6 = some [0, 3, 4] := by kernel_rfl
theorem ax80_6 : AN.fix 80 6 = [(0, [], 1)] := by kernel_rfl
theorem al80_6 : AN.frl 80 6 = false := by kernel_rfl
theorem ak81_3 : AN.keep 81 3 = some [0, 1, 4, 7, 8] := by kernel_rfl
theorem ax81_3 : AN.fix 81 3 = [(0, [], 2)] := by kernel_rfl
theorem al81_3 : AN.frl 81 3 = false := by kernel_rfl
theorem ak83_3 : AN.keep 83 3 = some [1, 2, 3, 6, 7] := by kernel_rfl
theorem ax83_3 : AN.fix 83 3 = [] := by kernel_rfl
theorem al83_3 : AN.frl 83 3 = false := by kernel_rfl
theorem ak84_3 : AN.keep 84 3 = some [0, 1, 4, 7, 8] := by kernel_rfl
theorem ax84_3 : AN.fix 84 3 = [(0, [], 1)] := by kernel_rfl
theorem al84_3 : AN.frl 84 3 = false := by kernel_rfl
theorem ak85_3 : AN.keep 85 3 = some [0, 1, 4, 7, 8] := by kernel_rfl
theorem ax85_3 : AN.fix 85 3 = [(0, [], 1)] := by kernel_rfl
theorem al85_3 : AN.frl 85 3 = false := by kernel_rfl
theorem ak86_3 : AN.keep 86 3 = some [0, 1, 4, 7, 8] := by kernel_rfl
theorem ax86_3 : AN.fix 86 3 = [(0, [], 3)] := by kernel_rfl
theorem al86_3 : AN.frl 86 3 = false := by kernel_rfl
theorem ak89_4 : AN.keep 89 4 = some [0, 1, 2, 8, 9, 10] := by kernel_rfl
theorem ax89_4 : AN.fix 89 4 = [(0, [], 2)] := by kernel_rfl
theorem al89_4 : AN.frl 89 4 = false := by kernel_rfl
theorem ak93_3 : AN.keep 93 3 = some [0, 1, 4, 7, 8] := by kernel_rfl
theorem ax93_3 : AN.fix 93 3 = [(0, [], 1)] := by kernel_rfl
theorem al93_3 : AN.frl 93 3 = false := by kernel_rfl
theorem acp : ∀ f k, AN.cp f k = has2 f k [(43, 7), (43, 9), (59, 7), (59, 9)] := fun _ _ => rfl
set_option maxRecDepth 100000
theorem anf : type_of% @ab3 ∧ type_of% @ap3 ∧ type_of% @ao3 ∧ type_of% @af3 ∧ type_of% @aa3 ∧ type_of% @ar3 ∧ type_of% @ab4 ∧ type_of% @ap4 ∧ type_of% @ao4 ∧ type_of% @af4 ∧ type_of% @aa4 ∧ type_of% @ar4 ∧ type_of% @ab6 ∧ type_of% @ap6 ∧ type_of% @ao6 ∧ type_of% @af6 ∧ type_of% @aa6 ∧ type_of% @ar6 ∧ type_of% @ab7 ∧ type_of% @ap7 ∧ type_of% @ao7 ∧ type_of% @af7 ∧ type_of% @aa7 ∧ type_of% @ar7 ∧ type_of% @ab8 ∧ type_of% @ap8 ∧ type_of% @ao8 ∧ type_of% @af8 ∧ type_of% @aa8 ∧ type_of% @ar8 ∧ type_of% @ab9 ∧ type_of% @ap9 ∧ type_of% @ao9 ∧ type_of% @af9 ∧ type_of% @aa9 ∧ type_of% @ar9 ∧ type_of% @ab11 ∧ type_of% @ap11 ∧ type_of% @ao11 ∧ type_of% @af11 ∧ type_of% @aa11 ∧ type_of% @ar11 ∧ type_of% @ab12 ∧ type_of% @ap12 ∧ type_of% @ao12 ∧ type_of% @af12 ∧ type_of% @aa12 ∧ type_of% @ar12 ∧ type_of% @ab13 ∧ type_of% @ap13 ∧ type_of% @ao13 ∧ type_of% @af13 ∧ type_of% @aa13 ∧ type_of% @ar13 ∧ type_of% @ab14 ∧ type_of% @ap14 ∧ type_of% @ao14 ∧ type_of% @af14 ∧ type_of% @aa14 ∧ type_of% @ar14 ∧ type_of% @ab15 ∧ type_of% @ap15 ∧ type_of% @ao15 ∧ type_of% @af15 ∧ type_of% @aa15 ∧ type_of% @ar15 ∧ type_of% @ab17 ∧ type_of% @ap17 ∧ type_of% @ao17 ∧ type_of% @af17 ∧ type_of% @aa17 ∧ type_of% @ar17 ∧ type_of% @ab18 ∧ type_of% @ap18 ∧ type_of% @ao18 ∧ type_of% @af18 ∧ type_of% @aa18 ∧ type_of% @ar18 ∧ type_of% @ab19 ∧ type_of% @ap19 ∧ type_of% @ao19 ∧ type_of% @af19 ∧ type_of% @aa19 ∧ type_of% @ar19 ∧ type_of% @ab20 ∧ type_of% @ap20 ∧ type_of% @ao20 ∧ type_of% @af20 ∧ type_of% @aa20 ∧ type_of% @ar20 ∧ type_of% @ab21 ∧ type_of% @ap21 ∧ type_of% @ao21 ∧ type_of% @af21 ∧ type_of% @aa21 ∧ type_of% @ar21 ∧ type_of% @ab22 ∧ type_of% @ap22 ∧ type_of% @ao22 ∧ type_of% @af22 ∧ type_of% @aa22 ∧ type_of% @ar22 ∧ type_of% @ab23 ∧ type_of% @ap23 ∧ type_of% @ao23 ∧ type_of% @af23 ∧ type_of% @aa23 ∧ type_of% @ar23 ∧ type_of% @ab25 ∧ type_of% @ap25 ∧ type_of% @ao25 ∧ type_of% @af25 ∧ type_of% @aa25 ∧ type_of% @ar25 ∧ type_of% @ab26 ∧ type_of% @ap26 ∧ type_of% @ao26 ∧ type_of% @af26 ∧ type_of% @aa26 ∧ type_of% @ar26 ∧ type_of% @ab27 ∧ type_of% @ap27 ∧ type_of% @ao27 ∧ type_of% @af27 ∧ type_of% @aa27 ∧ type_of% @ar27 ∧ type_of% @ab28 ∧ type_of% @ap28 ∧ type_of% @ao28 ∧ type_of% @af28 ∧ type_of% @aa28 ∧ type_of% @ar28 ∧ type_of% @ab29 ∧ type_of% @ap29 ∧ type_of% @ao29 ∧ type_of% @af29 ∧ type_of% @aa29 ∧ type_of% @ar29 ∧ type_of% @ab30 ∧ type_of% @ap30 ∧ type_of% @ao30 ∧ type_of% @af30 ∧ type_of% @aa30 ∧ type_of% @ar30 ∧ type_of% @ab31 ∧ type_of% @ap31 ∧ type_of% @ao31 ∧ type_of% @af31 ∧ type_of% @aa31 ∧ type_of% @ar31 ∧ type_of% @ab32 ∧ type_of% @ap32 ∧ type_of% @ao32 ∧ type_of% @af32 ∧ type_of% @aa32 ∧ type_of% @ar32 ∧ type_of% @ab33 ∧ type_of% @ap33 ∧ type_of% @ao33 ∧ type_of% @af33 ∧ type_of% @aa33 ∧ type_of% @ar33 ∧ type_of% @ab34 ∧ type_of% @ap34 ∧ type_of% @ao34 ∧ type_of% @af34 ∧ type_of% @aa34 ∧ type_of% @ar34 ∧ type_of% @ab36 ∧ type_of% @ap36 ∧ type_of% @ao36 ∧ type_of% @af36 ∧ type_of% @aa36 ∧ type_of% @ar36 ∧ type_of% @ab37 ∧ type_of% @ap37 ∧ type_of% @ao37 ∧ type_of% @af37 ∧ type_of% @aa37 ∧ type_of% @ar37 ∧ type_of% @ab38 ∧ type_of% @ap38 ∧ type_of% @ao38 ∧ type_of% @af38 ∧ type_of% @aa38 ∧ type_of% @ar38 ∧ type_of% @ab39 ∧ type_of% @ap39 ∧ type_of% @ao39 ∧ type_of% @af39 ∧ type_of% @aa39 ∧ type_of% @ar39 ∧ type_of% @ab40 ∧ type_of% @ap40 ∧ type_of% @ao40 ∧ type_of% @af40 ∧ type_of% @aa40 ∧ type_of% @ar40 ∧ type_of% @ab41 ∧ type_of% @ap41 ∧ type_of% @ao41 ∧ type_of% @af41 ∧ type_of% @aa41 ∧ type_of% @ar41 ∧ type_of% @ab42 ∧ type_of% @ap42 ∧ type_of% @ao42 ∧ type_of% @af42 ∧ type_of% @aa42 ∧ type_of% @ar42 ∧ type_of% @ab43 ∧ type_of% @ap43 ∧ type_of% @ao43 ∧ type_of% @af43 ∧ type_of% @aa43 ∧ type_of% @ar43 ∧ type_of% @ab44 ∧ type_of% @ap44 ∧ type_of% @ao44 ∧ type_of% @af44 ∧ type_of% @aa44 ∧ type_of% @ar44 ∧ type_of% @ab45 ∧ type_of% @ap45 ∧ type_of% @ao45 ∧ type_of% @af45 ∧ type_of% @aa45 ∧ type_of% @ar45 ∧ type_of% @ab46 ∧ type_of% @ap46 ∧ type_of% @ao46 ∧ type_of% @af46 ∧ type_of% @aa46 ∧ type_of% @ar46 ∧ type_of% @ab47 ∧ type_of% @ap47 ∧ type_of% @ao47 ∧ type_of% @af47 ∧ type_of% @aa47 ∧ type_of% @ar47 ∧ type_of% @ab48 ∧ type_of% @ap48 ∧ type_of% @ao48 ∧ type_of% @af48 ∧ type_of% @aa48 ∧ type_of% @ar48 ∧ type_of% @ab49 ∧ type_of% @ap49 ∧ type_of% @ao49 ∧ type_of% @af49 ∧ type_of% @aa49 ∧ type_of% @ar49 ∧ type_of% @ab50 ∧ type_of% @ap50 ∧ type_of% @ao50 ∧ type_of% @af50 ∧ type_of% @aa50 ∧ type_of% @ar50 ∧ type_of% @ab51 ∧ type_of% @ap51 ∧ type_of% @ao51 ∧ type_of% @af51 ∧ type_of% @aa51 ∧ type_of% @ar51 ∧ type_of% @ab52 ∧ type_of% @ap52 ∧ type_of% @ao52 ∧ type_of% @af52 ∧ type_of% @aa52 ∧ type_of% @ar52 ∧ type_of% @ab53 ∧ type_of% @ap53 ∧ type_of% @ao53 ∧ type_of% @af53 ∧ type_of% @aa53 ∧ type_of% @ar53 ∧ type_of% @ab54 ∧ type_of% @ap54 ∧ type_of% @ao54 ∧ type_of% @af54 ∧ type_of% @aa54 ∧ type_of% @ar54 ∧ type_of% @ab55 ∧ type_of% @ap55 ∧ type_of% @ao55 ∧ type_of% @af55 ∧ type_of% @aa55 ∧ type_of% @ar55 ∧ type_of% @ab56 ∧ type_of% @ap56 ∧ type_of% @ao56 ∧ type_of% @af56 ∧ type_of% @aa56 ∧ type_of% @ar56 ∧ type_of% @ab57 ∧ type_of% @ap57 ∧ type_of% @ao57 ∧ type_of% @af57 ∧ type_of% @aa57 ∧ type_of% @ar57 ∧ type_of% @ab58 ∧ type_of% @ap58 ∧ type_of% @ao58 ∧ type_of% @af58 ∧ type_of% @aa58 ∧ type_of% @ar58 ∧ type_of% @ab59 ∧ type_of% @ap59 ∧ type_of% @ao59 ∧ type_of% @af59 ∧ type_of% @aa59 ∧ type_of% @ar59 ∧ type_of% @ab60 ∧ type_of% @ap60 ∧ type_of% @ao60 ∧ type_of% @af60 ∧ type_of% @aa60 ∧ type_of% @ar60 ∧ type_of% @ab61 ∧ type_of% @ap61 ∧ type_of% @ao61 ∧ type_of% @af61 ∧ type_of% @aa61 ∧ type_of% @ar61 ∧ type_of% @ab62 ∧ type_of% @ap62 ∧ type_of% @ao62 ∧ type_of% @af62 ∧ type_of% @aa62 ∧ type_of% @ar62 ∧ type_of% @ab63 ∧ type_of% @ap63 ∧ type_of% @ao63 ∧ type_of% @af63 ∧ type_of% @aa63 ∧ type_of% @ar63 ∧ type_of% @ab64 ∧ type_of% @ap64 ∧ type_of% @ao64 ∧ type_of% @af64 ∧ type_of% @aa64 ∧ type_of% @ar64 ∧ type_of% @ab66 ∧ type_of% @ap66 ∧ type_of% @ao66 ∧ type_of% @af66 ∧ type_of% @aa66 ∧ type_of% @ar66 ∧ type_of% @ab67 ∧ type_of% @ap67 ∧ type_of% @ao67 ∧ type_of% @af67 ∧ type_of% @aa67 ∧ type_of% @ar67 ∧ type_of% @ab68 ∧ type_of% @ap68 ∧ type_of% @ao68 ∧ type_of% @af68 ∧ type_of% @aa68 ∧ type_of% @ar68 ∧ type_of% @ab69 ∧ type_of% @ap69 ∧ type_of% @ao69 ∧ type_of% @af69 ∧ type_of% @aa69 ∧ type_of% @ar69 ∧ type_of% @ab70 ∧ type_of% @ap70 ∧ type_of% @ao70 ∧ type_of% @af70 ∧ type_of% @aa70 ∧ type_of% @ar70 ∧ type_of% @ab71 ∧ type_of% @ap71 ∧ type_of% @ao71 ∧ type_of% @af71 ∧ type_of% @aa71 ∧ type_of% @ar71 ∧ type_of% @ab72 ∧ type_of% @ap72 ∧ type_of% @ao72 ∧ type_of% @af72 ∧ type_of% @aa72 ∧ type_of% @ar72 ∧ type_of% @ab73 ∧ type_of% @ap73 ∧ type_of% @ao73 ∧ type_of% @af73 ∧ type_of% @aa73 ∧ type_of% @ar73 ∧ type_of% @ab74 ∧ type_of% @ap74 ∧ type_of% @ao74 ∧ type_of% @af74 ∧ type_of% @aa74 ∧ type_of% @ar74 ∧ type_of% @ab75 ∧ type_of% @ap75 ∧ type_of% @ao75 ∧ type_of% @af75 ∧ type_of% @aa75 ∧ type_of% @ar75 ∧ type_of% @ab76 ∧ type_of% @ap76 ∧ type_of% @ao76 ∧ type_of% @af76 ∧ type_of% @aa76 ∧ type_of% @ar76 ∧ type_of% @ab77 ∧ type_of% @ap77 ∧ type_of% @ao77 ∧ type_of% @af77 ∧ type_of% @aa77 ∧ type_of% @ar77 ∧ type_of% @ab78 ∧ type_of% @ap78 ∧ type_of% @ao78 ∧ type_of% @af78 ∧ type_of% @aa78 ∧ type_of% @ar78 ∧ type_of% @ab79 ∧ type_of% @ap79 ∧ type_of% @ao79 ∧ type_of% @af79 ∧ type_of% @aa79 ∧ type_of% @ar79 ∧ type_of% @ab80 ∧ type_of% @ap80 ∧ type_of% @ao80 ∧ type_of% @af80 ∧ type_of% @aa80 ∧ type_of% @ar80 ∧ type_of% @ab81 ∧ type_of% @ap81 ∧ type_of% @ao81 ∧ type_of% @af81 ∧ type_of% @aa81 ∧ type_of% @ar81 ∧ type_of% @ab82 ∧ type_of% @ap82 ∧ type_of% @ao82 ∧ type_of% @af82 ∧ type_of% @aa82 ∧ type_of% @ar82 ∧ type_of% @ab83 ∧ type_of% @ap83 ∧ type_of% @ao83 ∧ type_of% @af83 ∧ type_of% @aa83 ∧ type_of% @ar83 ∧ type_of% @ab84 ∧ type_of% @ap84 ∧ type_of% @ao84 ∧ type_of% @af84 ∧ type_of% @aa84 ∧ type_of% @ar84 ∧ type_of% @ab85 ∧ type_of% @ap85 ∧ type_of% @ao85 ∧ type_of% @af85 ∧ type_of% @aa85 ∧ type_of% @ar85 ∧ type_of% @ab86 ∧ type_of% @ap86 ∧ type_of% @ao86 ∧ type_of% @af86 ∧ type_of% @aa86 ∧ type_of% @ar86 ∧ type_of% @ab87 ∧ type_of% @ap87 ∧ type_of% @ao87 ∧ type_of% @af87 ∧ type_of% @aa87 ∧ type_of% @ar87 ∧ type_of% @ab88 ∧ type_of% @ap88 ∧ type_of% @ao88 ∧ type_of% @af88 ∧ type_of% @aa88 ∧ type_of% @ar88 ∧ type_of% @ab89 ∧ type_of% @ap89 ∧ type_of% @ao89 ∧ type_of% @af89 ∧ type_of% @aa89 ∧ type_of% @ar89 ∧ type_of% @ab90 ∧ type_of% @ap90 ∧ type_of% @ao90 ∧ type_of% @af90 ∧ type_of% @aa90 ∧ type_of% @ar90 ∧ type_of% @ab91 ∧ type_of% @ap91 ∧ type_of% @ao91 ∧ type_of% @af91 ∧ type_of% @aa91 ∧ type_of% @ar91 ∧ type_of% @ab92 ∧ type_of% @ap92 ∧ type_of% @ao92 ∧ type_of% @af92 ∧ type_of% @aa92 ∧ type_of% @ar92 ∧ type_of% @ab93 ∧ type_of% @ap93 ∧ type_of% @ao93 ∧ type_of% @af93 ∧ type_of% @aa93 ∧ type_of% @ar93 ∧ type_of% @ad3_7 ∧ type_of% @ad4_11 ∧ type_of% @ad6_4 ∧ type_of% @ad8_16 ∧ type_of% @ad8_25 ∧ type_of% @ad8_26 ∧ type_of% @ad8_29 ∧ type_of% @ad9_4 ∧ type_of% @ad9_17 ∧ type_of% @ad12_3 ∧ type_of% @ad13_3 ∧ type_of% @ad14_3 ∧ type_of% @ad18_24 ∧ type_of% @ad19_5 ∧ type_of% @ad20_6 ∧ type_of% @ad23_6 ∧ type_of% @ad27_18 ∧ type_of% @ad30_21 ∧ type_of% @ad30_23 ∧ type_of% @ad31_10 ∧ type_of% @ad34_4 ∧ type_of% @ad34_13 ∧ type_of% @ad37_12 ∧ type_of% @ad37_13 ∧ type_of% @ad40_8 ∧ type_of% @ad40_12 ∧ type_of% @ad40_13 ∧ type_of% @ad43_9 ∧ type_of% @ad49_1 ∧ type_of% @ad51_3 ∧ type_of% @ad52_5 ∧ type_of% @ad55_11 ∧ type_of% @ad56_8 ∧ type_of% @ad59_9 ∧ type_of% @ad71_6 ∧ type_of% @ad77_0 ∧ type_of% @ak3_6 ∧ type_of% @ax3_6 ∧ type_of% @al3_6 ∧ type_of% @ak4_10 ∧ type_of% @ax4_10 ∧ type_of% @al4_10 ∧ type_of% @ak6_27 ∧ type_of% @ax6_27 ∧ type_of% @al6_27 ∧ type_of% @ak6_23 ∧ type_of% @ax6_23 ∧ type_of% @al6_23 ∧ type_of% @ak6_19 ∧ type_of% @ax6_19 ∧ type_of% @al6_19 ∧ type_of% @ak7_25 ∧ type_of% @ax7_25 ∧ type_of% @al7_25 ∧ type_of% @ak7_21 ∧ type_of% @ax7_21 ∧ type_of% @al7_21 ∧ type_of% @ak7_17 ∧ type_of% @ax7_17 ∧ type_of% @al7_17 ∧ type_of% @ak7_12 ∧ type_of% @ax7_12 ∧ type_of% @al7_12 ∧ type_of% @ak8_24 ∧ type_of% @ax8_24 ∧ type_of% @al8_24 ∧ type_of% @ak8_20 ∧ type_of% @ax8_20 ∧ type_of% @al8_20 ∧ type_of% @ak8_15 ∧ type_of% @ax8_15 ∧ type_of% @al8_15 ∧ type_of% @ak9_16 ∧ type_of% @ax9_16 ∧ type_of% @al9_16 ∧ type_of% @ak14_11 ∧ type_of% @ax14_11 ∧ type_of% @al14_11 ∧ type_of% @ak14_6 ∧ type_of% @ax14_6 ∧ type_of% @al14_6 ∧ type_of% @ak15_17 ∧ type_of% @ax15_17 ∧ type_of% @al15_17 ∧ type_of% @ak15_10 ∧ type_of% @ax15_10 ∧ type_of% @al15_10 ∧ type_of% @ak17_13 ∧ type_of% @ax17_13 ∧ type_of% @al17_13 ∧ type_of% @ak18_32 ∧ type_of% @ax18_32 ∧ type_of% @al18_32 ∧ type_of% @ak18_29 ∧ type_of% @ax18_29 ∧ type_of% @al18_29 ∧ type_of% @ak18_23 ∧ type_of% @ax18_23 ∧ type_of% @al18_23 ∧ type_of% @ak18_18 ∧ type_of% @ax18_18 ∧ type_of% @al18_18 ∧ type_of% @ak18_11 ∧ type_of% @ax18_11 ∧ type_of% @al18_11 ∧ type_of% @ak19_4 ∧ type_of% @ax19_4 ∧ type_of% @al19_4 ∧ type_of% @ak20_5 ∧ type_of% @ax20_5 ∧ type_of% @al20_5 ∧ type_of% @ak23_5 ∧ type_of% @ax23_5 ∧ type_of% @al23_5 ∧ type_of% @ak25_18 ∧ type_of% @ax25_18 ∧ type_of% @al25_18 ∧ type_of% @ak25_16 ∧ type_of% @ax25_16 ∧ type_of% @al25_16 ∧ type_of% @ak25_12 ∧ type_of% @ax25_12 ∧ type_of% @al25_12 ∧ type_of% @ak25_8 ∧ type_of% @ax25_8 ∧ type_of% @al25_8 ∧ type_of% @ak27_17 ∧ type_of% @ax27_17 ∧ type_of% @al27_17 ∧ type_of% @ak27_14 ∧ type_of% @ax27_14 ∧ type_of% @al27_14 ∧ type_of% @ak27_9 ∧ type_of% @ax27_9 ∧ type_of% @al27_9 ∧ type_of% @ak28_10 ∧ type_of% @ax28_10 ∧ type_of% @al28_10 ∧ type_of% @ak29_8 ∧ type_of% @ax29_8 ∧ type_of% @al29_8 ∧ type_of% @ak30_27 ∧ type_of% @ax30_27 ∧ type_of% @al30_27 ∧ type_of% @ak30_20 ∧ type_of% @ax30_20 ∧ type_of% @al30_20 ∧ type_of% @ak30_16 ∧ type_of% @ax30_16 ∧ type_of% @al30_16 ∧ type_of% @ak30_10 ∧ type_of% @ax30_10 ∧ type_of% @al30_10 ∧ type_of% @ak30_5 ∧ type_of% @ax30_5 ∧ type_of% @al30_5 ∧ type_of% @ak31_9 ∧ type_of% @ax31_9 ∧ type_of% @al31_9 ∧ type_of% @ak31_5 ∧ type_of% @ax31_5 ∧ type_of% @al31_5 ∧ type_of% @ak32_16 ∧ type_of% @ax32_16 ∧ type_of% @al32_16 ∧ type_of% @ak32_9 ∧ type_of% @ax32_9 ∧ type_of% @al32_9 ∧ type_of% @ak33_3 ∧ type_of% @ax33_3 ∧ type_of% @al33_3 ∧ type_of% @ak34_38 ∧ type_of% @ax34_38 ∧ type_of% @al34_38 ∧ type_of% @ak34_33 ∧ type_of% @ax34_33 ∧ type_of% @al34_33 ∧ type_of% @ak34_27 ∧ type_of% @ax34_27 ∧ type_of% @al34_27 ∧ type_of% @ak34_22 ∧ type_of% @ax34_22 ∧ type_of% @al34_22 ∧ type_of% @ak34_17 ∧ type_of% @ax34_17 ∧ type_of% @al34_17 ∧ type_of% @ak34_13 ∧ type_of% @ax34_13 ∧ type_of% @al34_13 ∧ type_of% @ak34_9 ∧ type_of% @ax34_9 ∧ type_of% @al34_9 ∧ type_of% @ak36_11 ∧ type_of% @ax36_11 ∧ type_of% @al36_11 ∧ type_of% @ak36_8 ∧ type_of% @ax36_8 ∧ type_of% @al36_8 ∧ type_of% @ak37_11 ∧ type_of% @ax37_11 ∧ type_of% @al37_11 ∧ type_of% @ak37_8 ∧ type_of% @ax37_8 ∧ type_of% @al37_8 ∧ type_of% @ak38_3 ∧ type_of% @ax38_3 ∧ type_of% @al38_3 ∧ type_of% @ak40_11 ∧ type_of% @ax40_11 ∧ type_of% @al40_11 ∧ type_of% @ak40_7 ∧ type_of% @ax40_7 ∧ type_of% @al40_7 ∧ type_of% @ak40_4 ∧ type_of% @ax40_4 ∧ type_of% @al40_4 ∧ type_of% @ak41_4 ∧ type_of% @ax41_4 ∧ type_of% @al41_4 ∧ type_of% @ak43_9 ∧ type_of% @ax43_9 ∧ type_of% @al43_9 ∧ type_of% @ak44_7 ∧ type_of% @ax44_7 ∧ type_of% @al44_7 ∧ type_of% @ak47_3 ∧ type_of% @ax47_3 ∧ type_of% @al47_3 ∧ type_of% @ak50_4 ∧ type_of% @ax50_4 ∧ type_of% @al50_4 ∧ type_of% @ak51_3 ∧ type_of% @ax51_3 ∧ type_of% @al51_3 ∧ type_of% @ak52_4 ∧ type_of% @ax52_4 ∧ type_of% @al52_4 ∧ type_of% @ak53_7 ∧ type_of% @ax53_7 ∧ type_of% @al53_7 ∧ type_of% @ak53_4 ∧ type_of% @ax53_4 ∧ type_of% @al53_4 ∧ type_of% @ak54_3 ∧ type_of% @ax54_3 ∧ type_of% @al54_3 ∧ type_of% @ak55_10 ∧ type_of% @ax55_10 ∧ type_of% @al55_10 ∧ type_of% @ak55_4 ∧ type_of% @ax55_4 ∧ type_of% @al55_4 ∧ type_of% @ak56_7 ∧ type_of% @ax56_7 ∧ type_of% @al56_7 ∧ type_of% @ak56_5 ∧ type_of% @ax56_5 ∧ type_of% @al56_5 ∧ type_of% @ak57_3 ∧ type_of% @ax57_3 ∧ type_of% @al57_3 ∧ type_of% @ak59_9 ∧ type_of% @ax59_9 ∧ type_of% @al59_9 ∧ type_of% @ak60_3 ∧ type_of% @ax60_3 ∧ type_of% @al60_3 ∧ type_of% @ak61_3 ∧ type_of% @ax61_3 ∧ type_of% @al61_3 ∧ type_of% @ak62_11 ∧ type_of% @ax62_11 ∧ type_of% @al62_11 ∧ type_of% @ak62_5 ∧ type_of% @ax62_5 ∧ type_of% @al62_5 ∧ type_of% @ak63_7 ∧ type_of% @ax63_7 ∧ type_of% @al63_7 ∧ type_of% @ak63_4 ∧ type_of% @ax63_4 ∧ type_of% @al63_4 ∧ type_of% @ak64_4 ∧ type_of% @ax64_4 ∧ type_of% @al64_4 ∧ type_of% @ak66_3 ∧ type_of% @ax66_3 ∧ type_of% @al66_3 ∧ type_of% @ak71_3 ∧ type_of% @ax71_3 ∧ type_of% @al71_3 ∧ type_of% @ak74_4 ∧ type_of% @ax74_4 ∧ type_of% @al74_4 ∧ type_of% @ak76_8 ∧ type_of% @ax76_8 ∧ type_of% @al76_8 ∧ type_of% @ak76_4 ∧ type_of% @ax76_4 ∧ type_of% @al76_4 ∧ type_of% @ak80_6 ∧ type_of% @ax80_6 ∧ type_of% @al80_6 ∧ type_of% @ak81_3 ∧ type_of% @ax81_3 ∧ type_of% @al81_3 ∧ type_of% @ak83_3 ∧ type_of% @ax83_3 ∧ type_of% @al83_3 ∧ type_of% @ak84_3 ∧ type_of% @ax84_3 ∧ type_of% @al84_3 ∧ type_of% @ak85_3 ∧ type_of% @ax85_3 ∧ type_of% @al85_3 ∧ type_of% @ak86_3 ∧ type_of% @ax86_3 ∧ type_of% @al86_3 ∧ type_of% @ak89_4 ∧ type_of% @ax89_4 ∧ type_of% @al89_4 ∧ type_of% @ak93_3 ∧ type_of% @ax93_3 ∧ type_of% @al93_3 ∧ type_of% @acp :=
  ⟨@ab3, @ap3, @ao3, @af3, @aa3, @ar3, @ab4, @ap4, @ao4, @af4, @aa4, @ar4, @ab6, @ap6, @ao6, @af6, @aa6, @ar6, @ab7, @ap7, @ao7, @af7, @aa7, @ar7, @ab8, @ap8, @ao8, @af8, @aa8, @ar8, @ab9, @ap9, @ao9, @af9, @aa9, @ar9, @ab11, @ap11, @ao11, @af11, @aa11, @ar11, @ab12, @ap12, @ao12, @af12, @aa12, @ar12, @ab13, @ap13, @ao13, @af13, @aa13, @ar13, @ab14, @ap14, @ao14, @af14, @aa14, @ar14, @ab15, @ap15, @ao15, @af15, @aa15, @ar15, @ab17, @ap17, @ao17, @af17, @aa17, @ar17, @ab18, @ap18, @ao18, @af18, @aa18, @ar18, @ab19, @ap19, @ao19, @af19, @aa19, @ar19, @ab20, @ap20, @ao20, @af20, @aa20, @ar20, @ab21, @ap21, @ao21, @af21, @aa21, @ar21, @ab22, @ap22, @ao22, @af22, @aa22, @ar22, @ab23, @ap23, @ao23, @af23, @aa23, @ar23, @ab25, @ap25, @ao25, @af25, @aa25, @ar25, @ab26, @ap26, @ao26, @af26, @aa26, @ar26, @ab27, @ap27, @ao27, @af27, @aa27, @ar27, @ab28, @ap28, @ao28, @af28, @aa28, @ar28, @ab29, @ap29, @ao29, @af29, @aa29, @ar29, @ab30, @ap30, @ao30, @af30, @aa30, @ar30, @ab31, @ap31, @ao31, @af31, @aa31, @ar31, @ab32, @ap32, @ao32, @af32, @aa32, @ar32, @ab33, @ap33, @ao33, @af33, @aa33, @ar33, @ab34, @ap34, @ao34, @af34, @aa34, @ar34, @ab36, @ap36, @ao36, @af36, @aa36, @ar36, @ab37, @ap37, @ao37, @af37, @aa37, @ar37, @ab38, @ap38, @ao38, @af38, @aa38, @ar38, @ab39, @ap39, @ao39, @af39, @aa39, @ar39, @ab40, @ap40, @ao40, @af40, @aa40, @ar40, @ab41, @ap41, @ao41, @af41, @aa41, @ar41, @ab42, @ap42, @ao42, @af42, @aa42, @ar42, @ab43, @ap43, @ao43, @af43, @aa43, @ar43, @ab44, @ap44, @ao44, @af44, @aa44, @ar44, @ab45, @ap45, @ao45, @af45, @aa45, @ar45, @ab46, @ap46, @ao46, @af46, @aa46, @ar46, @ab47, @ap47, @ao47, @af47, @aa47, @ar47, @ab48, @ap48, @ao48, @af48, @aa48, @ar48, @ab49, @ap49, @ao49, @af49, @aa49, @ar49, @ab50, @ap50, @ao50, @af50, @aa50, @ar50, @ab51, @ap51, @ao51, @af51, @aa51, @ar51, @ab52, @ap52, @ao52, @af52, @aa52, @ar52, @ab53, @ap53, @ao53, @af53, @aa53, @ar53, @ab54, @ap54, @ao54, @af54, @aa54, @ar54, @ab55, @ap55, @ao55, @af55, @aa55, @ar55, @ab56, @ap56, @ao56, @af56, @aa56, @ar56, @ab57, @ap57, @ao57, @af57, @aa57, @ar57, @ab58, @ap58, @ao58, @af58, @aa58, @ar58, @ab59, @ap59, @ao59, @af59, @aa59, @ar59, @ab60, @ap60, @ao60, @af60, @aa60, @ar60, @ab61, @ap61, @ao61, @af61, @aa61, @ar61, @ab62, @ap62, @ao62, @af62, @aa62, @ar62, @ab63, @ap63, @ao63, @af63, @aa63, @ar63, @ab64, @ap64, @ao64, @af64, @aa64, @ar64, @ab66, @ap66, @ao66, @af66, @aa66, @ar66, @ab67, @ap67, @ao67, @af67, @aa67, @ar67, @ab68, @ap68, @ao68, @af68, @aa68, @ar68, @ab69, @ap69, @ao69, @af69, @aa69, @ar69, @ab70, @ap70, @ao70, @af70, @aa70, @ar70, @ab71, @ap71, @ao71, @af71, @aa71, @ar71, @ab72, @ap72, @ao72, @af72, @aa72, @ar72, @ab73, @ap73, @ao73, @af73, @aa73, @ar73, @ab74, @ap74, @ao74, @af74, @aa74, @ar74, @ab75, @ap75, @ao75, @af75, @aa75, @ar75, @ab76, @ap76, @ao76, @af76, @aa76, @ar76, @ab77, @ap77, @ao77, @af77, @aa77, @ar77, @ab78, @ap78, @ao78, @af78, @aa78, @ar78, @ab79, @ap79, @ao79, @af79, @aa79, @ar79, @ab80, @ap80, @ao80, @af80, @aa80, @ar80, @ab81, @ap81, @ao81, @af81, @aa81, @ar81, @ab82, @ap82, @ao82, @af82, @aa82, @ar82, @ab83, @ap83, @ao83, @af83, @aa83, @ar83, @ab84, @ap84, @ao84, @af84, @aa84, @ar84, @ab85, @ap85, @ao85, @af85, @aa85, @ar85, @ab86, @ap86, @ao86, @af86, @aa86, @ar86, @ab87, @ap87, @ao87, @af87, @aa87, @ar87, @ab88, @ap88, @ao88, @af88, @aa88, @ar88, @ab89, @ap89, @ao89, @af89, @aa89, @ar89, @ab90, @ap90, @ao90, @af90, @aa90, @ar90, @ab91, @ap91, @ao91, @af91, @aa91, @ar91, @ab92, @ap92, @ao92, @af92, @aa92, @ar92, @ab93, @ap93, @ao93, @af93, @aa93, @ar93, @ad3_7, @ad4_11, @ad6_4, @ad8_16, @ad8_25, @ad8_26, @ad8_29, @ad9_4, @ad9_17, @ad12_3, @ad13_3, @ad14_3, @ad18_24, @ad19_5, @ad20_6, @ad23_6, @ad27_18, @ad30_21, @ad30_23, @ad31_10, @ad34_4, @ad34_13, @ad37_12, @ad37_13, @ad40_8, @ad40_12, @ad40_13, @ad43_9, @ad49_1, @ad51_3, @ad52_5, @ad55_11, @ad56_8, @ad59_9, @ad71_6, @ad77_0, @ak3_6, @ax3_6, @al3_6, @ak4_10, @ax4_10, @al4_10, @ak6_27, @ax6_27, @al6_27, @ak6_23, @ax6_23, @al6_23, @ak6_19, @ax6_19, @al6_19, @ak7_25, @ax7_25, @al7_25, @ak7_21, @ax7_21, @al7_21, @ak7_17, @ax7_17, @al7_17, @ak7_12, @ax7_12, @al7_12, @ak8_24, @ax8_24, @al8_24, @ak8_20, @ax8_20, @al8_20, @ak8_15, @ax8_15, @al8_15, @ak9_16, @ax9_16, @al9_16, @ak14_11, @ax14_11, @al14_11, @ak14_6, @ax14_6, @al14_6, @ak15_17, @ax15_17, @al15_17, @ak15_10, @ax15_10, @al15_10, @ak17_13, @ax17_13, @al17_13, @ak18_32, @ax18_32, @al18_32, @ak18_29, @ax18_29, @al18_29, @ak18_23, @ax18_23, @al18_23, @ak18_18, @ax18_18, @al18_18, @ak18_11, @ax18_11, @al18_11, @ak19_4, @ax19_4, @al19_4, @ak20_5, @ax20_5, @al20_5, @ak23_5, @ax23_5, @al23_5, @ak25_18, @ax25_18, @al25_18, @ak25_16, @ax25_16, @al25_16, @ak25_12, @ax25_12, @al25_12, @ak25_8, @ax25_8, @al25_8, @ak27_17, @ax27_17, @al27_17, @ak27_14, @ax27_14, @al27_14, @ak27_9, @ax27_9, @al27_9, @ak28_10, @ax28_10, @al28_10, @ak29_8, @ax29_8, @al29_8, @ak30_27, @ax30_27, @al30_27, @ak30_20, @ax30_20, @al30_20, @ak30_16, @ax30_16, @al30_16, @ak30_10, @ax30_10, @al30_10, @ak30_5, @ax30_5, @al30_5, @ak31_9, @ax31_9, @al31_9, @ak31_5, @ax31_5, @al31_5, @ak32_16, @ax32_16, @al32_16, @ak32_9, @ax32_9, @al32_9, @ak33_3, @ax33_3, @al33_3, @ak34_38, @ax34_38, @al34_38, @ak34_33, @ax34_33, @al34_33, @ak34_27, @ax34_27, @al34_27, @ak34_22, @ax34_22, @al34_22, @ak34_17, @ax34_17, @al34_17, @ak34_13, @ax34_13, @al34_13, @ak34_9, @ax34_9, @al34_9, @ak36_11, @ax36_11, @al36_11, @ak36_8, @ax36_8, @al36_8, @ak37_11, @ax37_11, @al37_11, @ak37_8, @ax37_8, @al37_8, @ak38_3, @ax38_3, @al38_3, @ak40_11, @ax40_11, @al40_11, @ak40_7, @ax40_7, @al40_7, @ak40_4, @ax40_4, @al40_4, @ak41_4, @ax41_4, @al41_4, @ak43_9, @ax43_9, @al43_9, @ak44_7, @ax44_7, @al44_7, @ak47_3, @ax47_3, @al47_3, @ak50_4, @ax50_4, @al50_4, @ak51_3, @ax51_3, @al51_3, @ak52_4, @ax52_4, @al52_4, @ak53_7, @ax53_7, @al53_7, @ak53_4, @ax53_4, @al53_4, @ak54_3, @ax54_3, @al54_3, @ak55_10, @ax55_10, @al55_10, @ak55_4, @ax55_4, @al55_4, @ak56_7, @ax56_7, @al56_7, @ak56_5, @ax56_5, @al56_5, @ak57_3, @ax57_3, @al57_3, @ak59_9, @ax59_9, @al59_9, @ak60_3, @ax60_3, @al60_3, @ak61_3, @ax61_3, @al61_3, @ak62_11, @ax62_11, @al62_11, @ak62_5, @ax62_5, @al62_5, @ak63_7, @ax63_7, @al63_7, @ak63_4, @ax63_4, @al63_4, @ak64_4, @ax64_4, @al64_4, @ak66_3, @ax66_3, @al66_3, @ak71_3, @ax71_3, @al71_3, @ak74_4, @ax74_4, @al74_4, @ak76_8, @ax76_8, @al76_8, @ak76_4, @ax76_4, @al76_4, @ak80_6, @ax80_6, @al80_6, @ak81_3, @ax81_3, @al81_3, @ak83_3, @ax83_3, @al83_3, @ak84_3, @ax84_3, @al84_3, @ak85_3, @ax85_3, @al85_3, @ak86_3, @ax86_3, @al86_3, @ak89_4, @ax89_4, @al89_4, @ak93_3, @ax93_3, @al93_3, @acp⟩
theorem l14_11 (v : List AV) (l : HL) : type_of% (ev_loop (P := Tryd.prog) (G := G) (A := AN) (f := 14) (key := 11) (n := 141) (keep := [1, 3, 4, 5, 7]) (by kernel_rfl) Tryd.func14 rfl rfl rfl (by kernel_rfl) v l) :=
  ev_loop (P := Tryd.prog) (G := G) (A := AN) (f := 14) (key := 11) (n := 141) (keep := [1, 3, 4, 5, 7]) (by kernel_rfl) Tryd.func14 rfl rfl rfl (by kernel_rfl) v l
theorem l14_6 (v : List AV) (l : HL) : type_of% (ev_loop (P := Tryd.prog) (G := G) (A := AN) (f := 14) (key := 6) (n := 141) (keep := [1, 3, 4, 5, 6]) (by kernel_rfl) Tryd.func14 rfl rfl rfl (by kernel_rfl) v l) :=
  ev_loop (P := Tryd.prog) (G := G) (A := AN) (f := 14) (key := 6) (n := 141) (keep := [1, 3, 4, 5, 6]) (by kernel_rfl) Tryd.func14 rfl rfl rfl (by kernel_rfl) v l
theorem l15_17 (v : List AV) (l : HL) : type_of% (ev_loop (P := Tryd.prog) (G := G) (A := AN) (f := 15) (key := 17) (n := 49) (keep := [5, 6, 8, 9]) (by kernel_rfl) Tryd.func15 rfl rfl rfl (by kernel_rfl) v l) :=
  ev_loop (P := Tryd.prog) (G := G) (A := AN) (f := 15) (key := 17) (n := 49) (keep := [5, 6, 8, 9]) (by kernel_rfl) Tryd.func15 rfl rfl rfl (by kernel_rfl) v l
theorem l15_10 (v : List AV) (l : HL) : type_of% (ev_loop (P := Tryd.prog) (G := G) (A := AN) (f := 15) (key := 10) (n := 49) (keep := [5, 6, 22]) (by kernel_rfl) Tryd.func15 rfl rfl rfl (by kernel_rfl) v l) :=
  ev_loop (P := Tryd.prog) (G := G) (A := AN) (f := 15) (key := 10) (n := 49) (keep := [5, 6, 22]) (by kernel_rfl) Tryd.func15 rfl rfl rfl (by kernel_rfl) v l
theorem l17_13 (v : List AV) (l : HL) : type_of% (ev_loop (P := Tryd.prog) (G := G) (A := AN) (f := 17) (key := 13) (n := 97) (keep := [2, 6, 7, 8, 12, 13, 51, 52, 53]) (by kernel_rfl) Tryd.func17 rfl rfl rfl (by kernel_rfl) v l) :=
  ev_loop (P := Tryd.prog) (G := G) (A := AN) (f := 17) (key := 13) (n := 97) (keep := [2, 6, 7, 8, 12, 13, 51, 52, 53]) (by kernel_rfl) Tryd.func17 rfl rfl rfl (by kernel_rfl) v l
theorem l20_5 (v : List AV) (l : HL) : type_of% (ev_loop (P := Tryd.prog) (G := G) (A := AN) (f := 20) (key := 5) (n := 26) (keep := [0, 1, 4, 5]) (by kernel_rfl) Tryd.func20 rfl rfl rfl (by kernel_rfl) v l) :=
  ev_loop (P := Tryd.prog) (G := G) (A := AN) (f := 20) (key := 5) (n := 26) (keep := [0, 1, 4, 5]) (by kernel_rfl) Tryd.func20 rfl rfl rfl (by kernel_rfl) v l
theorem l29_8 (v : List AV) (l : HL) : type_of% (ev_loop (P := Tryd.prog) (G := G) (A := AN) (f := 29) (key := 8) (n := 40) (keep := [5, 6, 21, 22]) (by kernel_rfl) Tryd.func29 rfl rfl rfl (by kernel_rfl) v l) :=
  ev_loop (P := Tryd.prog) (G := G) (A := AN) (f := 29) (key := 8) (n := 40) (keep := [5, 6, 21, 22]) (by kernel_rfl) Tryd.func29 rfl rfl rfl (by kernel_rfl) v l
theorem l32_16 (v : List AV) (l : HL) : type_of% (ev_loop (P := Tryd.prog) (G := G) (A := AN) (f := 32) (key := 16) (n := 83) (keep := [1, 2, 47, 48, 49]) (by kernel_rfl) Tryd.func32 rfl rfl rfl (by kernel_rfl) v l) :=
  ev_loop (P := Tryd.prog) (G := G) (A := AN) (f := 32) (key := 16) (n := 83) (keep := [1, 2, 47, 48, 49]) (by kernel_rfl) Tryd.func32 rfl rfl rfl (by kernel_rfl) v l
theorem l32_9 (v : List AV) (l : HL) : type_of% (ev_loop (P := Tryd.prog) (G := G) (A := AN) (f := 32) (key := 9) (n := 83) (keep := [1, 2, 31, 32, 33]) (by kernel_rfl) Tryd.func32 rfl rfl rfl (by kernel_rfl) v l) :=
  ev_loop (P := Tryd.prog) (G := G) (A := AN) (f := 32) (key := 9) (n := 83) (keep := [1, 2, 31, 32, 33]) (by kernel_rfl) Tryd.func32 rfl rfl rfl (by kernel_rfl) v l
theorem l36_11 (v : List AV) (l : HL) : type_of% (ev_loop (P := Tryd.prog) (G := G) (A := AN) (f := 36) (key := 11) (n := 40) (keep := [5, 6, 7, 8, 16]) (by kernel_rfl) Tryd.func36 rfl rfl rfl (by kernel_rfl) v l) :=
  ev_loop (P := Tryd.prog) (G := G) (A := AN) (f := 36) (key := 11) (n := 40) (keep := [5, 6, 7, 8, 16]) (by kernel_rfl) Tryd.func36 rfl rfl rfl (by kernel_rfl) v l
theorem l36_8 (v : List AV) (l : HL) : type_of% (ev_loop (P := Tryd.prog) (G := G) (A := AN) (f := 36) (key := 8) (n := 40) (keep := [5, 6, 16]) (by kernel_rfl) Tryd.func36 rfl rfl rfl (by kernel_rfl) v l) :=
  ev_loop (P := Tryd.prog) (G := G) (A := AN) (f := 36) (key := 8) (n := 40) (keep := [5, 6, 16]) (by kernel_rfl) Tryd.func36 rfl rfl rfl (by kernel_rfl) v l
theorem l40_11 (v : List AV) (l : HL) : type_of% (ev_loop (P := Tryd.prog) (G := G) (A := AN) (f := 40) (key := 11) (n := 62) (keep := [3, 5, 7, 13, 14, 15, 19, 20, 21, 34, 35, 36]) (by kernel_rfl) Tryd.func40 rfl rfl rfl (by kernel_rfl) v l) :=
  ev_loop (P := Tryd.prog) (G := G) (A := AN) (f := 40) (key := 11) (n := 62) (keep := [3, 5, 7, 13, 14, 15, 19, 20, 21, 34, 35, 36]) (by kernel_rfl) Tryd.func40 rfl rfl rfl (by kernel_rfl) v l
theorem l40_7 (v : List AV) (l : HL) : type_of% (ev_loop (P := Tryd.prog) (G := G) (A := AN) (f := 40) (key := 7) (n := 62) (keep := [3, 5, 13, 14, 15, 19, 20, 21]) (by kernel_rfl) Tryd.func40 rfl rfl rfl (by kernel_rfl) v l) :=
  ev_loop (P := Tryd.prog) (G := G) (A := AN) (f := 40) (key := 7) (n := 62) (keep := [3, 5, 13, 14, 15, 19, 20, 21]) (by kernel_rfl) Tryd.func40 rfl rfl rfl (by kernel_rfl) v l
theorem l40_4 (v : List AV) (l : HL) : type_of% (ev_loop (P := Tryd.prog) (G := G) (A := AN) (f := 40) (key := 4) (n := 62) (keep := [3, 13, 14, 15]) (by kernel_rfl) Tryd.func40 rfl rfl rfl (by kernel_rfl) v l) :=
  ev_loop (P := Tryd.prog) (G := G) (A := AN) (f := 40) (key := 4) (n := 62) (keep := [3, 13, 14, 15]) (by kernel_rfl) Tryd.func40 rfl rfl rfl (by kernel_rfl) v l
theorem l41_4 (v : List AV) (l : HL) : type_of% (ev_loop (P := Tryd.prog) (G := G) (A := AN) (f := 41) (key := 4) (n := 18) (keep := [3, 6, 7]) (by kernel_rfl) Tryd.func41 rfl rfl rfl (by kernel_rfl) v l) :=
  ev_loop (P := Tryd.prog) (G := G) (A := AN) (f := 41) (key := 4) (n := 18) (keep := [3, 6, 7]) (by kernel_rfl) Tryd.func41 rfl rfl rfl (by kernel_rfl) v l
theorem l43_9 (v : List AV) (l : HL) : type_of% (ev_loop (P := Tryd.prog) (G := G) (A := AN) (f := 43) (key := 9) (n := 48) (keep := [7, 8]) (by kernel_rfl) Tryd.func43 rfl rfl rfl (by kernel_rfl) v l) :=
  ev_loop (P := Tryd.prog) (G := G) (A := AN) (f := 43) (key := 9) (n := 48) (keep := [7, 8]) (by kernel_rfl) Tryd.func43 rfl rfl rfl (by kernel_rfl) v l
theorem l44_7 (v : List AV) (l : HL) : type_of% (ev_loop (P := Tryd.prog) (G := G) (A := AN) (f := 44) (key := 7) (n := 53) (keep := [0, 1, 2, 3, 8, 9, 10, 11]) (by kernel_rfl) Tryd.func44 rfl rfl rfl (by kernel_rfl) v l) :=
  ev_loop (P := Tryd.prog) (G := G) (A := AN) (f := 44) (key := 7) (n := 53) (keep := [0, 1, 2, 3, 8, 9, 10, 11]) (by kernel_rfl) Tryd.func44 rfl rfl rfl (by kernel_rfl) v l
theorem l47_3 (v : List AV) (l : HL) : type_of% (ev_loop (P := Tryd.prog) (G := G) (A := AN) (f := 47) (key := 3) (n := 18) (keep := [0, 3]) (by kernel_rfl) Tryd.func47 rfl rfl rfl (by kernel_rfl) v l) :=
  ev_loop (P := Tryd.prog) (G := G) (A := AN) (f := 47) (key := 3) (n := 18) (keep := [0, 3]) (by kernel_rfl) Tryd.func47 rfl rfl rfl (by kernel_rfl) v l
theorem l50_4 (v : List AV) (l : HL) : type_of% (ev_loop (P := Tryd.prog) (G := G) (A := AN) (f := 50) (key := 4) (n := 32) (keep := [0, 2, 6, 7, 10, 11, 12]) (by kernel_rfl) Tryd.func50 rfl rfl rfl (by kernel_rfl) v l) :=
  ev_loop (P := Tryd.prog) (G := G) (A := AN) (f := 50) (key := 4) (n := 32) (keep := [0, 2, 6, 7, 10, 11, 12]) (by kernel_rfl) Tryd.func50 rfl rfl rfl (by kernel_rfl) v l
theorem l51_3 (v : List AV) (l : HL) : type_of% (ev_loop (P := Tryd.prog) (G := G) (A := AN) (f := 51) (key := 3) (n := 21) (keep := [2, 5, 6]) (by kernel_rfl) Tryd.func51 rfl rfl rfl (by kernel_rfl) v l) :=
  ev_loop (P := Tryd.prog) (G := G) (A := AN) (f := 51) (key := 3) (n := 21) (keep := [2, 5, 6]) (by kernel_rfl) Tryd.func51 rfl rfl rfl (by kernel_rfl) v l
theorem l55_10 (v : List AV) (l : HL) : type_of% (ev_loop (P := Tryd.prog) (G := G) (A := AN) (f := 55) (key := 10) (n := 56) (keep := [1, 10, 40, 41, 42]) (by kernel_rfl) Tryd.func55 rfl rfl rfl (by kernel_rfl) v l) :=
  ev_loop (P := Tryd.prog) (G := G) (A := AN) (f := 55) (key := 10) (n := 56) (keep := [1, 10, 40, 41, 42]) (by kernel_rfl) Tryd.func55 rfl rfl rfl (by kernel_rfl) v l
theorem l55_4 (v : List AV) (l : HL) : type_of% (ev_loop (P := Tryd.prog) (G := G) (A := AN) (f := 55) (key := 4) (n := 56) (keep := [1, 2, 3, 7, 17, 18, 19]) (by kernel_rfl) Tryd.func55 rfl rfl rfl (by kernel_rfl) v l) :=
  ev_loop (P := Tryd.prog) (G := G) (A := AN) (f := 55) (key := 4) (n := 56) (keep := [1, 2, 3, 7, 17, 18, 19]) (by kernel_rfl) Tryd.func55 rfl rfl rfl (by kernel_rfl) v l
theorem l57_3 (v : List AV) (l : HL) : type_of% (ev_loop (P := Tryd.prog) (G := G) (A := AN) (f := 57) (key := 3) (n := 37) (keep := [1, 2, 5, 8, 9, 10]) (by kernel_rfl) Tryd.func57 rfl rfl rfl (by kernel_rfl) v l) :=
  ev_loop (P := Tryd.prog) (G := G) (A := AN) (f := 57) (key := 3) (n := 37) (keep := [1, 2, 5, 8, 9, 10]) (by kernel_rfl) Tryd.func57 rfl rfl rfl (by kernel_rfl) v l
theorem l59_9 (v : List AV) (l : HL) : type_of% (ev_loop (P := Tryd.prog) (G := G) (A := AN) (f := 59) (key := 9) (n := 48) (keep := [7, 8]) (by kernel_rfl) Tryd.func59 rfl rfl rfl (by kernel_rfl) v l) :=
  ev_loop (P := Tryd.prog) (G := G) (A := AN) (f := 59) (key := 9) (n := 48) (keep := [7, 8]) (by kernel_rfl) Tryd.func59 rfl rfl rfl (by kernel_rfl) v l
theorem l62_11 (v : List AV) (l : HL) : type_of% (ev_loop (P := Tryd.prog) (G := G) (A := AN) (f := 62) (key := 11) (n := 57) (keep := [0, 1, 4, 39, 40, 41]) (by kernel_rfl) Tryd.func62 rfl rfl rfl (by kernel_rfl) v l) :=
  ev_loop (P := Tryd.prog) (G := G) (A := AN) (f := 62) (key := 11) (n := 57) (keep := [0, 1, 4, 39, 40, 41]) (by kernel_rfl) Tryd.func62 rfl rfl rfl (by kernel_rfl) v l
theorem l62_5 (v : List AV) (l : HL) : type_of% (ev_loop (P := Tryd.prog) (G := G) (A := AN) (f := 62) (key := 5) (n := 57) (keep := [0, 1, 4, 15, 16, 17]) (by kernel_rfl) Tryd.func62 rfl rfl rfl (by kernel_rfl) v l) :=
  ev_loop (P := Tryd.prog) (G := G) (A := AN) (f := 62) (key := 5) (n := 57) (keep := [0, 1, 4, 15, 16, 17]) (by kernel_rfl) Tryd.func62 rfl rfl rfl (by kernel_rfl) v l
theorem l71_3 (v : List AV) (l : HL) : type_of% (ev_loop (P := Tryd.prog) (G := G) (A := AN) (f := 71) (key := 3) (n := 49) (keep := [0, 1, 4, 7, 8, 9]) (by kernel_rfl) Tryd.func71 rfl rfl rfl (by kernel_rfl) v l) :=
  ev_loop (P := Tryd.prog) (G := G) (A := AN) (f := 71) (key := 3) (n := 49) (keep := [0, 1, 4, 7, 8, 9]) (by kernel_rfl) Tryd.func71 rfl rfl rfl (by kernel_rfl) v l
theorem l80_6 (v : List AV) (l : HL) : type_of% (ev_loop (P := Tryd.prog) (G := G) (A := AN) (f := 80) (key := 6) (n := 25) (keep := [0, 3, 4]) (by kernel_rfl) Tryd.func80 rfl rfl rfl (by kernel_rfl) v l) :=
  ev_loop (P := Tryd.prog) (G := G) (A := AN) (f := 80) (key := 6) (n := 25) (keep := [0, 3, 4]) (by kernel_rfl) Tryd.func80 rfl rfl rfl (by kernel_rfl) v l
theorem l81_3 (v : List AV) (l : HL) : type_of% (ev_loop (P := Tryd.prog) (G := G) (A := AN) (f := 81) (key := 3) (n := 19) (keep := [0, 1, 4, 7, 8]) (by kernel_rfl) Tryd.func81 rfl rfl rfl (by kernel_rfl) v l) :=
  ev_loop (P := Tryd.prog) (G := G) (A := AN) (f := 81) (key := 3) (n := 19) (keep := [0, 1, 4, 7, 8]) (by kernel_rfl) Tryd.func81 rfl rfl rfl (by kernel_rfl) v l
theorem l84_3 (v : List AV) (l : HL) : type_of% (ev_loop (P := Tryd.prog) (G := G) (A := AN) (f := 84) (key := 3) (n := 19) (keep := [0, 1, 4, 7, 8]) (by kernel_rfl) Tryd.func84 rfl rfl rfl (by kernel_rfl) v l) :=
  ev_loop (P := Tryd.prog) (G := G) (A := AN) (f := 84) (key := 3) (n := 19) (keep := [0, 1, 4, 7, 8]) (by kernel_rfl) Tryd.func84 rfl rfl rfl (by kernel_rfl) v l
theorem l85_3 (v : List AV) (l : HL) : type_of% (ev_loop (P := Tryd.prog) (G := G) (A := AN) (f := 85) (key := 3) (n := 19) (keep := [0, 1, 4, 7, 8]) (by kernel_rfl) Tryd.func85 rfl rfl rfl (by kernel_rfl) v l) :=
  ev_loop (P := Tryd.prog) (G := G) (A := AN) (f := 85) (key := 3) (n := 19) (keep := [0, 1, 4, 7, 8]) (by kernel_rfl) Tryd.func85 rfl rfl rfl (by kernel_rfl) v l
theorem l86_3 (v : List AV) (l : HL) : type_of% (ev_loop (P := Tryd.prog) (G := G) (A := AN) (f := 86) (key := 3) (n := 19) (keep := [0, 1, 4, 7, 8]) (by kernel_rfl) Tryd.func86 rfl rfl rfl (by kernel_rfl) v l) :=
  ev_loop (P := Tryd.prog) (G := G) (A := AN) (f := 86) (key := 3) (n := 19) (keep := [0, 1, 4, 7, 8]) (by kernel_rfl) Tryd.func86 rfl rfl rfl (by kernel_rfl) v l
theorem l93_3 (v : List AV) (l : HL) : type_of% (ev_loop (P := Tryd.prog) (G := G) (A := AN) (f := 93) (key := 3) (n := 19) (keep := [0, 1, 4, 7, 8]) (by kernel_rfl) Tryd.func93 rfl rfl rfl (by kernel_rfl) v l) :=
  ev_loop (P := Tryd.prog) (G := G) (A := AN) (f := 93) (key := 3) (n := 19) (keep := [0, 1, 4, 7, 8]) (by kernel_rfl) Tryd.func93 rfl rfl rfl (by kernel_rfl) v l
theorem e3 (a : List AV) (l : HL) : type_of% (ev_fun (P := Tryd.prog) (G := G) (A := AN) (f := 3) (n := 63) (rs := [.tmp 10]) (by kernel_rfl) Tryd.func3 rfl rfl rfl a l) :=
  ev_fun (P := Tryd.prog) (G := G) (A := AN) (f := 3) (n := 63) (rs := [.tmp 10]) (by kernel_rfl) Tryd.func3 rfl rfl rfl a l
theorem e4 (a : List AV) (l : HL) : type_of% (ev_fun (P := Tryd.prog) (G := G) (A := AN) (f := 4) (n := 110) (rs := [.tmp 4]) (by kernel_rfl) Tryd.func4 rfl rfl rfl a l) :=
  ev_fun (P := Tryd.prog) (G := G) (A := AN) (f := 4) (n := 110) (rs := [.tmp 4]) (by kernel_rfl) Tryd.func4 rfl rfl rfl a l
theorem e6 (a : List AV) (l : HL) : type_of% (ev_fun (P := Tryd.prog) (G := G) (A := AN) (f := 6) (n := 137) (rs := [.tmp 4]) (by kernel_rfl) Tryd.func6 rfl rfl rfl a l) :=
  ev_fun (P := Tryd.prog) (G := G) (A := AN) (f := 6) (n := 137) (rs := [.tmp 4]) (by kernel_rfl) Tryd.func6 rfl rfl rfl a l
theorem e12 (a : List AV) (l : HL) : type_of% (ev_fun (P := Tryd.prog) (G := G) (A := AN) (f := 12) (n := 95) (rs := [.tmp 10]) (by kernel_rfl) Tryd.func12 rfl rfl rfl a l) :=
  ev_fun (P := Tryd.prog) (G := G) (A := AN) (f := 12) (n := 95) (rs := [.tmp 10]) (by kernel_rfl) Tryd.func12 rfl rfl rfl a l
theorem e14 (a : List AV) (l : HL) : type_of% (ev_fun (P := Tryd.prog) (G := G) (A := AN) (f := 14) (n := 141) (rs := [.tmp 2]) (by kernel_rfl) Tryd.func14 rfl rfl rfl a l) :=
  ev_fun (P := Tryd.prog) (G := G) (A := AN) (f := 14) (n := 141) (rs := [.tmp 2]) (by kernel_rfl) Tryd.func14 rfl rfl rfl a l
theorem e15 (a : List AV) (l : HL) : type_of% (ev_fun (P := Tryd.prog) (G := G) (A := AN) (f := 15) (n := 49) (rs := [.tmp 2, .tmp 3]) (by kernel_rfl) Tryd.func15 rfl rfl rfl a l) :=
  ev_fun (P := Tryd.prog) (G := G) (A := AN) (f := 15) (n := 49) (rs := [.tmp 2, .tmp 3]) (by kernel_rfl) Tryd.func15 rfl rfl rfl a l
theorem e17 (a : List AV) (l : HL) : type_of% (ev_fun (P := Tryd.prog) (G := G) (A := AN) (f := 17) (n := 97) (rs := [.tmp 6, .tmp 7, .tmp 8]) (by kernel_rfl) Tryd.func17 rfl rfl rfl a l) :=
  ev_fun (P := Tryd.prog) (G := G) (A := AN) (f := 17) (n := 97) (rs := [.tmp 6, .tmp 7, .tmp 8]) (by kernel_rfl) Tryd.func17 rfl rfl rfl a l
theorem e20 (a : List AV) (l : HL) : type_of% (ev_fun (P := Tryd.prog) (G := G) (A := AN) (f := 20) (n := 26) (rs := [.tmp 4]) (by kernel_rfl) Tryd.func20 rfl rfl rfl a l) :=
  ev_fun (P := Tryd.prog) (G := G) (A := AN) (f := 20) (n := 26) (rs := [.tmp 4]) (by kernel_rfl) Tryd.func20 rfl rfl rfl a l
theorem e26 (a : List AV) (l : HL) : type_of% (ev_fun (P := Tryd.prog) (G := G) (A := AN) (f := 26) (n := 15) (rs := [.tmp 4]) (by kernel_rfl) Tryd.func26 rfl rfl rfl a l) :=
  ev_fun (P := Tryd.prog) (G := G) (A := AN) (f := 26) (n := 15) (rs := [.tmp 4]) (by kernel_rfl) Tryd.func26 rfl rfl rfl a l
theorem e29 (a : List AV) (l : HL) : type_of% (ev_fun (P := Tryd.prog) (G := G) (A := AN) (f := 29) (n := 40) (rs := [.tmp 2, .tmp 3]) (by kernel_rfl) Tryd.func29 rfl rfl rfl a l) :=
  ev_fun (P := Tryd.prog) (G := G) (A := AN) (f := 29) (n := 40) (rs := [.tmp 2, .tmp 3]) (by kernel_rfl) Tryd.func29 rfl rfl rfl a l
theorem e32 (a : List AV) (l : HL) : type_of% (ev_fun (P := Tryd.prog) (G := G) (A := AN) (f := 32) (n := 83) (rs := [.tmp 2]) (by kernel_rfl) Tryd.func32 rfl rfl rfl a l) :=
  ev_fun (P := Tryd.prog) (G := G) (A := AN) (f := 32) (n := 83) (rs := [.tmp 2]) (by kernel_rfl) Tryd.func32 rfl rfl rfl a l
theorem e36 (a : List AV) (l : HL) : type_of% (ev_fun (P := Tryd.prog) (G := G) (A := AN) (f := 36) (n := 40) (rs := [.tmp 2, .tmp 3]) (by kernel_rfl) Tryd.func36 rfl rfl rfl a l) :=
  ev_fun (P := Tryd.prog) (G := G) (A := AN) (f := 36) (n := 40) (rs := [.tmp 2, .tmp 3]) (by kernel_rfl) Tryd.func36 rfl rfl rfl a l
theorem e39 (a : List AV) (l : HL) : type_of% (ev_fun (P := Tryd.prog) (G := G) (A := AN) (f := 39) (n := 11) (rs := [.cell 0 35]) (by kernel_rfl) Tryd.func39 rfl rfl rfl a l) :=
  ev_fun (P := Tryd.prog) (G := G) (A := AN) (f := 39) (n := 11) (rs := [.cell 0 35]) (by kernel_rfl) Tryd.func39 rfl rfl rfl a l
theorem e40 (a : List AV) (l : HL) : type_of% (ev_fun (P := Tryd.prog) (G := G) (A := AN) (f := 40) (n := 62) (rs := [.tmp 2]) (by kernel_rfl) Tryd.func40 rfl rfl rfl a l) :=
  ev_fun (P := Tryd.prog) (G := G) (A := AN) (f := 40) (n := 62) (rs := [.tmp 2]) (by kernel_rfl) Tryd.func40 rfl rfl rfl a l
theorem e41 (a : List AV) (l : HL) : type_of% (ev_fun (P := Tryd.prog) (G := G) (A := AN) (f := 41) (n := 18) (rs := [.tmp 2]) (by kernel_rfl) Tryd.func41 rfl rfl rfl a l) :=
  ev_fun (P := Tryd.prog) (G := G) (A := AN) (f := 41) (n := 18) (rs := [.tmp 2]) (by kernel_rfl) Tryd.func41 rfl rfl rfl a l
theorem e42 (a : List AV) (l : HL) : type_of% (ev_fun (P := Tryd.prog) (G := G) (A := AN) (f := 42) (n := 16) (rs := [.tmp 4]) (by kernel_rfl) Tryd.func42 rfl rfl rfl a l) :=
  ev_fun (P := Tryd.prog) (G := G) (A := AN) (f := 42) (n := 16) (rs := [.tmp 4]) (by kernel_rfl) Tryd.func42 rfl rfl rfl a l
theorem e43 (a : List AV) (l : HL) : type_of% (ev_fun (P := Tryd.prog) (G := G) (A := AN) (f := 43) (n := 48) (rs := [.tmp 4]) (by kernel_rfl) Tryd.func43 rfl rfl rfl a l) :=
  ev_fun (P := Tryd.prog) (G := G) (A := AN) (f := 43) (n := 48) (rs := [.tmp 4]) (by kernel_rfl) Tryd.func43 rfl rfl rfl a l
theorem e44 (a : List AV) (l : HL) : type_of% (ev_fun (P := Tryd.prog) (G := G) (A := AN) (f := 44) (n := 53) (rs := [.tmp 8]) (by kernel_rfl) Tryd.func44 rfl rfl rfl a l) :=
  ev_fun (P := Tryd.prog) (G := G) (A := AN) (f := 44) (n := 53) (rs := [.tmp 8]) (by kernel_rfl) Tryd.func44 rfl rfl rfl a l
theorem e45 (a : List AV) (l : HL) : type_of% (ev_fun (P := Tryd.prog) (G := G) (A := AN) (f := 45) (n := 8) (rs := [.tmp 2]) (by kernel_rfl) Tryd.func45 rfl rfl rfl a l) :=
  ev_fun (P := Tryd.prog) (G := G) (A := AN) (f := 45) (n := 8) (rs := [.tmp 2]) (by kernel_rfl) Tryd.func45 rfl rfl rfl a l
theorem e46 (a : List AV) (l : HL) : type_of% (ev_fun (P := Tryd.prog) (G := G) (A := AN) (f := 46) (n := 8) (rs := [.tmp 2]) (by kernel_rfl) Tryd.func46 rfl rfl rfl a l) :=
  ev_fun (P := Tryd.prog) (G := G) (A := AN) (f := 46) (n := 8) (rs := [.tmp 2]) (by kernel_rfl) Tryd.func46 rfl rfl rfl a l
theorem e47 (a : List AV) (l : HL) : type_of% (ev_fun (P := Tryd.prog) (G := G) (A := AN) (f := 47) (n := 18) (rs := [.tmp 2]) (by kernel_rfl) Tryd.func47 rfl rfl rfl a l) :=
  ev_fun (P := Tryd.prog) (G := G) (A := AN) (f := 47) (n := 18) (rs := [.tmp 2]) (by kernel_rfl) Tryd.func47 rfl rfl rfl a l
theorem e48 (a : List AV) (l : HL) : type_of% (ev_fun (P := Tryd.prog) (G := G) (A := AN) (f := 48) (n := 9) (rs := [.tmp 4]) (by kernel_rfl) Tryd.func48 rfl rfl rfl a l) :=
  ev_fun (P := Tryd.prog) (G := G) (A := AN) (f := 48) (n := 9) (rs := [.tmp 4]) (by kernel_rfl) Tryd.func48 rfl rfl rfl a l
theorem e49 (a : List AV) (l : HL) : type_of% (ev_fun (P := Tryd.prog) (G := G) (A := AN) (f := 49) (n := 12) (rs := [.tmp 4]) (by kernel_rfl) Tryd.func49 rfl rfl rfl a l) :=
  ev_fun (P := Tryd.prog) (G := G) (A := AN) (f := 49) (n := 12) (rs := [.tmp 4]) (by kernel_rfl) Tryd.func49 rfl rfl rfl a l
theorem e50 (a : List AV) (l : HL) : type_of% (ev_fun (P := Tryd.prog) (G := G) (A := AN) (f := 50) (n := 32) (rs := [.cell 6 90]) (by kernel_rfl) Tryd.func50 rfl rfl rfl a l) :=
  ev_fun (P := Tryd.prog) (G := G) (A := AN) (f := 50) (n := 32) (rs := [.cell 6 90]) (by kernel_rfl) Tryd.func50 rfl rfl rfl a l
theorem e51 (a : List AV) (l : HL) : type_of% (ev_fun (P := Tryd.prog) (G := G) (A := AN) (f := 51) (n := 21) (rs := [.tmp 2]) (by kernel_rfl) Tryd.func51 rfl rfl rfl a l) :=
  ev_fun (P := Tryd.prog) (G := G) (A := AN) (f := 51) (n := 21) (rs := [.tmp 2]) (by kernel_rfl) Tryd.func51 rfl rfl rfl a l
theorem e55 (a : List AV) (l : HL) : type_of% (ev_fun (P := Tryd.prog) (G := G) (A := AN) (f := 55) (n := 56) (rs := [.tmp 6]) (by kernel_rfl) Tryd.func55 rfl rfl rfl a l) :=
  ev_fun (P := Tryd.prog) (G := G) (A := AN) (f := 55) (n := 56) (rs := [.tmp 6]) (by kernel_rfl) Tryd.func55 rfl rfl rfl a l
theorem e57 (a : List AV) (l : HL) : type_of% (ev_fun (P := Tryd.prog) (G := G) (A := AN) (f := 57) (n := 37) (rs := [.tmp 5]) (by kernel_rfl) Tryd.func57 rfl rfl rfl a l) :=
  ev_fun (P := Tryd.prog) (G := G) (A := AN) (f := 57) (n := 37) (rs := [.tmp 5]) (by kernel_rfl) Tryd.func57 rfl rfl rfl a l
theorem e58 (a : List AV) (l : HL) : type_of% (ev_fun (P := Tryd.prog) (G := G) (A := AN) (f := 58) (n := 9) (rs := [.tmp 4]) (by kernel_rfl) Tryd.func58 rfl rfl rfl a l) :=
  ev_fun (P := Tryd.prog) (G := G) (A := AN) (f := 58) (n := 9) (rs := [.tmp 4]) (by kernel_rfl) Tryd.func58 rfl rfl rfl a l
theorem e59 (a : List AV) (l : HL) : type_of% (ev_fun (P := Tryd.prog) (G := G) (A := AN) (f := 59) (n := 48) (rs := [.tmp 4]) (by kernel_rfl) Tryd.func59 rfl rfl rfl a l) :=
  ev_fun (P := Tryd.prog) (G := G) (A := AN) (f := 59) (n := 48) (rs := [.tmp 4]) (by kernel_rfl) Tryd.func59 rfl rfl rfl a l
theorem e62 (a : List AV) (l : HL) : type_of% (ev_fun (P := Tryd.prog) (G := G) (A := AN) (f := 62) (n := 57) (rs := [.tmp 4]) (by kernel_rfl) Tryd.func62 rfl rfl rfl a l) :=
  ev_fun (P := Tryd.prog) (G := G) (A := AN) (f := 62) (n := 57) (rs := [.tmp 4]) (by kernel_rfl) Tryd.func62 rfl rfl rfl a l
theorem e67 (a : List AV) (l : HL) : type_of% (ev_fun (P := Tryd.prog) (G := G) (A := AN) (f := 67) (n := 9) (rs := [.tmp 4]) (by kernel_rfl) Tryd.func67 rfl rfl rfl a l) :=
  ev_fun (P := Tryd.prog) (G := G) (A := AN) (f := 67) (n := 9) (rs := [.tmp 4]) (by kernel_rfl) Tryd.func67 rfl rfl rfl a l
theorem e68 (a : List AV) (l : HL) : type_of% (ev_fun (P := Tryd.prog) (G := G) (A := AN) (f := 68) (n := 6) (rs := [.tmp 2]) (by kernel_rfl) Tryd.func68 rfl rfl rfl a l) :=
  ev_fun (P := Tryd.prog) (G := G) (A := AN) (f := 68) (n := 6) (rs := [.tmp 2]) (by kernel_rfl) Tryd.func68 rfl rfl rfl a l
theorem e69 (a : List AV) (l : HL) : type_of% (ev_fun (P := Tryd.prog) (G := G) (A := AN) (f := 69) (n := 9) (rs := [.tmp 4]) (by kernel_rfl) Tryd.func69 rfl rfl rfl a l) :=
  ev_fun (P := Tryd.prog) (G := G) (A := AN) (f := 69) (n := 9) (rs := [.tmp 4]) (by kernel_rfl) Tryd.func69 rfl rfl rfl a l
theorem e70 (a : List AV) (l : HL) : type_of% (ev_fun (P := Tryd.prog) (G := G) (A := AN) (f := 70) (n := 19) (rs := [.tmp 2]) (by kernel_rfl) Tryd.func70 rfl rfl rfl a l) :=
  ev_fun (P := Tryd.prog) (G := G) (A := AN) (f := 70) (n := 19) (rs := [.tmp 2]) (by kernel_rfl) Tryd.func70 rfl rfl rfl a l
theorem e71 (a : List AV) (l : HL) : type_of% (ev_fun (P := Tryd.prog) (G := G) (A := AN) (f := 71) (n := 49) (rs := [.tmp 4]) (by kernel_rfl) Tryd.func71 rfl rfl rfl a l) :=
  ev_fun (P := Tryd.prog) (G := G) (A := AN) (f := 71) (n := 49) (rs := [.tmp 4]) (by kernel_rfl) Tryd.func71 rfl rfl rfl a l
theorem e72 (a : List AV) (l : HL) : type_of% (ev_fun (P := Tryd.prog) (G := G) (A := AN) (f := 72) (n := 9) (rs := [.tmp 4]) (by kernel_rfl) Tryd.func72 rfl rfl rfl a l) :=
  ev_fun (P := Tryd.prog) (G := G) (A := AN) (f := 72) (n := 9) (rs := [.tmp 4]) (by kernel_rfl) Tryd.func72 rfl rfl rfl a l
theorem e77 (a : List AV) (l : HL) : type_of% (ev_fun (P := Tryd.prog) (G := G) (A := AN) (f := 77) (n := 16) (rs := []) (by kernel_rfl) Tryd.func77 rfl rfl rfl a l) :=
  ev_fun (P := Tryd.prog) (G := G) (A := AN) (f := 77) (n := 16) (rs := []) (by kernel_rfl) Tryd.func77 rfl rfl rfl a l
theorem e78 (a : List AV) (l : HL) : type_of% (ev_fun (P := Tryd.prog) (G := G) (A := AN) (f := 78) (n := 35) (rs := [.tmp 2]) (by kernel_rfl) Tryd.func78 rfl rfl rfl a l) :=
  ev_fun (P := Tryd.prog) (G := G) (A := AN) (f := 78) (n := 35) (rs := [.tmp 2]) (by kernel_rfl) Tryd.func78 rfl rfl rfl a l
theorem e79 (a : List AV) (l : HL) : type_of% (ev_fun (P := Tryd.prog) (G := G) (A := AN) (f := 79) (n := 30) (rs := [.tmp 4, .tmp 5]) (by kernel_rfl) Tryd.func79 rfl rfl rfl a l) :=
  ev_fun (P := Tryd.prog) (G := G) (A := AN) (f := 79) (n := 30) (rs := [.tmp 4, .tmp 5]) (by kernel_rfl) Tryd.func79 rfl rfl rfl a l
theorem e80 (a : List AV) (l : HL) : type_of% (ev_fun (P := Tryd.prog) (G := G) (A := AN) (f := 80) (n := 25) (rs := [.tmp 2]) (by kernel_rfl) Tryd.func80 rfl rfl rfl a l) :=
  ev_fun (P := Tryd.prog) (G := G) (A := AN) (f := 80) (n := 25) (rs := [.tmp 2]) (by kernel_rfl) Tryd.func80 rfl rfl rfl a l
theorem e81 (a : List AV) (l : HL) : type_of% (ev_fun (P := Tryd.prog) (G := G) (A := AN) (f := 81) (n := 19) (rs := [.tmp 4]) (by kernel_rfl) Tryd.func81 rfl rfl rfl a l) :=
  ev_fun (P := Tryd.prog) (G := G) (A := AN) (f := 81) (n := 19) (rs := [.tmp 4]) (by kernel_rfl) Tryd.func81 rfl rfl rfl a l
theorem e82 (a : List AV) (l : HL) : type_of% (ev_fun (P := Tryd.prog) (G := G) (A := AN) (f := 82) (n := 14) (rs := [.tmp 2]) (by kernel_rfl) Tryd.func82 rfl rfl rfl a l) :=
  ev_fun (P := Tryd.prog) (G := G) (A := AN) (f := 82) (n := 14) (rs := [.tmp 2]) (by kernel_rfl) Tryd.func82 rfl rfl rfl a l
theorem e84 (a : List AV) (l : HL) : type_of% (ev_fun (P := Tryd.prog) (G := G) (A := AN) (f := 84) (n := 19) (rs := [.tmp 4]) (by kernel_rfl) Tryd.func84 rfl rfl rfl a l) :=
  ev_fun (P := Tryd.prog) (G := G) (A := AN) (f := 84) (n := 19) (rs := [.tmp 4]) (by kernel_rfl) Tryd.func84 rfl rfl rfl a l
theorem e85 (a : List AV) (l : HL) : type_of% (ev_fun (P := Tryd.prog) (G := G) (A := AN) (f := 85) (n := 19) (rs := [.tmp 4]) (by kernel_rfl) Tryd.func85 rfl rfl rfl a l) :=
  ev_fun (P := Tryd.prog) (G := G) (A := AN) (f := 85) (n := 19) (rs := [.tmp 4]) (by kernel_rfl) Tryd.func85 rfl rfl rfl a l
theorem e86 (a : List AV) (l : HL) : type_of% (ev_fun (P := Tryd.prog) (G := G) (A := AN) (f := 86) (n := 19) (rs := [.tmp 4]) (by kernel_rfl) Tryd.func86 rfl rfl rfl a l) :=
  ev_fun (P := Tryd.prog) (G := G) (A := AN) (f := 86) (n := 19) (rs := [.tmp 4]) (by kernel_rfl) Tryd.func86 rfl rfl rfl a l
theorem e87 (a : List AV) (l : HL) : type_of% (ev_fun (P := Tryd.prog) (G := G) (A := AN) (f := 87) (n := 9) (rs := [.tmp 4]) (by kernel_rfl) Tryd.func87 rfl rfl rfl a l) :=
  ev_fun (P := Tryd.prog) (G := G) (A := AN) (f := 87) (n := 9) (rs := [.tmp 4]) (by kernel_rfl) Tryd.func87 rfl rfl rfl a l
theorem e88 (a : List AV) (l : HL) : type_of% (ev_fun (P := Tryd.prog) (G := G) (A := AN) (f := 88) (n := 11) (rs := [.tmp 3]) (by kernel_rfl) Tryd.func88 rfl rfl rfl a l) :=
  ev_fun (P := Tryd.prog) (G := G) (A := AN) (f := 88) (n := 11) (rs := [.tmp 3]) (by kernel_rfl) Tryd.func88 rfl rfl rfl a l
theorem e92 (a : List AV) (l : HL) : type_of% (ev_fun (P := Tryd.prog) (G := G) (A := AN) (f := 92) (n := 51) (rs := [.tmp 4, .tmp 5]) (by kernel_rfl) Tryd.func92 rfl rfl rfl a l) :=
  ev_fun (P := Tryd.prog) (G := G) (A := AN) (f := 92) (n := 51) (rs := [.tmp 4, .tmp 5]) (by kernel_rfl) Tryd.func92 rfl rfl rfl a l
theorem e93 (a : List AV) (l : HL) : type_of% (ev_fun (P := Tryd.prog) (G := G) (A := AN) (f := 93) (n := 19) (rs := [.tmp 4]) (by kernel_rfl) Tryd.func93 rfl rfl rfl a l) :=
  ev_fun (P := Tryd.prog) (G := G) (A := AN) (f := 93) (n := 19) (rs := [.tmp 4]) (by kernel_rfl) Tryd.func93 rfl rfl rfl a l
end Go.Proofs.YtikppcfabnnhfaaDoor
