/- A part of the proof of CodeShapesCardSaid. -/
import Derived.Test.YtfdipcpmfoidoaaDoorProg
import Derived.RangeFuncBox
import Derived.WalkKit
import Derived.OwnWalkIn
import Derived.TacticsInMore
import Derived.LoopNIn
import Derived.LoopIn
import Derived.Shelf.Abstract
import Derived.Shelf.RegionOpen
import Derived.Test.YtfdipcpmfoidoaaDoorCAw6
namespace Go.Proofs.YtfdipcpmfoidoaaDoor
open Go Go.Aw
theorem ty1 : (tLoad Tryd.prog 1 = some none) /\ (tKind Tryd.prog 1 = some .func) /\ (tSz Tryd.prog 1 = some 1) /\ (Tryd.prog.bytesOf 1 = 8) /\ (tZero Tryd.prog 1 = some [.nilf]) /\ (eok Tryd.prog 1 [.nilf] = true) /\ (mkE Tryd.prog 1 [.nilf] = .nilf) /\ (zeroOf Tryd.prog 1 = some [.nilf]) :=
 by and_intros <;> kernel_rfl
theorem ty2 : (tLoad Tryd.prog 2 = some none) /\ (tKind Tryd.prog 2 = some (.int .i64)) /\ (tSz Tryd.prog 2 = some 1) /\ (Tryd.prog.bytesOf 2 = 8) /\ (tZero Tryd.prog 2 = some [.int .i64 0]) /\ (eok Tryd.prog 2 [.int .i64 0] = true) /\ (mkE Tryd.prog 2 [.int .i64 0] = .int .i64 0) /\ (zeroOf Tryd.prog 2 = some [.int .i64 0]) :=
 by and_intros <;> kernel_rfl
theorem ty3 : (tLoad Tryd.prog 3 = some none) /\ (tKind Tryd.prog 3 = some (.int .i64)) /\ (tSz Tryd.prog 3 = some 1) /\ (Tryd.prog.bytesOf 3 = 8) /\ (tZero Tryd.prog 3 = some [.int .i64 0]) /\ (eok Tryd.prog 3 [.int .i64 0] = true) /\ (mkE Tryd.prog 3 [.int .i64 0] = .int .i64 0) /\ (zeroOf Tryd.prog 3 = some [.int .i64 0]) :=
 by and_intros <;> kernel_rfl
theorem ty4 : (tLoad Tryd.prog 4 = some none) /\ (tKind Tryd.prog 4 = some .bool) /\ (tSz Tryd.prog 4 = some 1) /\ (Tryd.prog.bytesOf 4 = 1) /\ (tZero Tryd.prog 4 = some [.bool false]) /\ (eok Tryd.prog 4 [.bool false] = true) /\ (mkE Tryd.prog 4 [.bool false] = .bool false) /\ (zeroOf Tryd.prog 4 = some [.bool false]) :=
 by and_intros <;> kernel_rfl
theorem ty9 : (tLoad Tryd.prog 9 = some none) /\ (tKind Tryd.prog 9 = some .string) /\ (tSz Tryd.prog 9 = some 1) /\ (Tryd.prog.bytesOf 9 = 16) /\ (tZero Tryd.prog 9 = some [.str ⟨#[]⟩]) /\ (eok Tryd.prog 9 [.str ⟨#[]⟩] = true) /\ (mkE Tryd.prog 9 [.str ⟨#[]⟩] = .str ⟨#[]⟩) /\ (zeroOf Tryd.prog 9 = some [.str ⟨#[]⟩]) /\ (isTy2 Tryd.prog 9 = true) :=
 by and_intros <;> kernel_rfl
theorem ty20 : (tLoad Tryd.prog 20 = some none) /\ (tKind Tryd.prog 20 = some .other) :=
 by and_intros <;> kernel_rfl
theorem ty24 : (tLoad Tryd.prog 24 = some none) /\ (tKind Tryd.prog 24 = some .slice) /\ (tSz Tryd.prog 24 = some 1) /\ (Tryd.prog.bytesOf 24 = 24) /\ (tZero Tryd.prog 24 = some [.nilsl]) /\ (eok Tryd.prog 24 [.nilsl] = true) /\ (mkE Tryd.prog 24 [.nilsl] = .nilsl) /\ (zeroOf Tryd.prog 24 = some [.nilsl]) /\ (tIndex Tryd.prog 24 = some (none, 1, none)) /\ (tSliceElem Tryd.prog 24 = some 35) /\ (isTy2 Tryd.prog 24 = true) :=
 by and_intros <;> kernel_rfl
theorem ty25 : (tLoad Tryd.prog 25 = some none) /\ (tKind Tryd.prog 25 = some .slice) /\ (tSz Tryd.prog 25 = some 1) /\ (Tryd.prog.bytesOf 25 = 24) /\ (tZero Tryd.prog 25 = some [.nilsl]) /\ (eok Tryd.prog 25 [.nilsl] = true) /\ (mkE Tryd.prog 25 [.nilsl] = .nilsl) /\ (zeroOf Tryd.prog 25 = some [.nilsl]) /\ (tIndex Tryd.prog 25 = some (none, 1, none)) /\ (tSliceElem Tryd.prog 25 = some 3) /\ (isTy2 Tryd.prog 25 = true) :=
 by and_intros <;> kernel_rfl
theorem ty26 : (tLoad Tryd.prog 26 = some (some 9)) /\ (tKind Tryd.prog 26 = some .other) /\ (tSz Tryd.prog 26 = some 9) /\ (Tryd.prog.bytesOf 26 = 104) /\ (tZero Tryd.prog 26 = some [.int .i64 0, .int .i64 0, .int .i64 0, .int .i64 0, .int .i64 0, .nilsl, .int .i64 0, .nilsl, .int .i64 0]) /\ (eok Tryd.prog 26 [.int .i64 0, .int .i64 0, .int .i64 0, .int .i64 0, .int .i64 0, .nilsl, .int .i64 0, .nilsl, .int .i64 0] = true) /\ (mkE Tryd.prog 26 [.int .i64 0, .int .i64 0, .int .i64 0, .int .i64 0, .int .i64 0, .nilsl, .int .i64 0, .nilsl, .int .i64 0] = .agg [.int .i64 0, .int .i64 0, .int .i64 0, .int .i64 0, .int .i64 0, .nilsl, .int .i64 0, .nilsl, .int .i64 0]) /\ (zeroOf Tryd.prog 26 = some [.int .i64 0, .int .i64 0, .int .i64 0, .int .i64 0, .int .i64 0, .nilsl, .int .i64 0, .nilsl, .int .i64 0]) /\ (tField Tryd.prog 26 0 = some (0, none)) /\ (placeOf Tryd.prog 26 0 = some (0, 1)) /\ (tField Tryd.prog 26 1 = some (1, none)) /\ (placeOf Tryd.prog 26 1 = some (1, 1)) /\ (tField Tryd.prog 26 2 = some (2, none)) /\ (placeOf Tryd.prog 26 2 = some (2, 1)) /\ (tField Tryd.prog 26 3 = some (3, none)) /\ (placeOf Tryd.prog 26 3 = some (3, 1)) /\ (tField Tryd.prog 26 4 = some (4, none)) /\ (placeOf Tryd.prog 26 4 = some (4, 1)) /\ (tField Tryd.prog 26 5 = some (5, none)) /\ (placeOf Tryd.prog 26 5 = some (5, 1)) /\ (tField Tryd.prog 26 6 = some (6, none)) /\ (placeOf Tryd.prog 26 6 = some (6, 1)) /\ (tField Tryd.prog 26 7 = some (7, none)) /\ (placeOf Tryd.prog 26 7 = some (7, 1)) /\ (tField Tryd.prog 26 8 = some (8, none)) /\ (placeOf Tryd.prog 26 8 = some (8, 1)) /\ (buildable Tryd.prog 26 = true) :=
 by and_intros <;> kernel_rfl
theorem ty27 : (tLoad Tryd.prog 27 = some (some 9)) /\ (tKind Tryd.prog 27 = some .other) /\ (tSz Tryd.prog 27 = some 9) /\ (Tryd.prog.bytesOf 27 = 104) /\ (tZero Tryd.prog 27 = some [.int .i64 0, .int .i64 0, .int .i64 0, .int .i64 0, .int .i64 0, .nilsl, .int .i64 0, .nilsl, .int .i64 0]) /\ (eok Tryd.prog 27 [.int .i64 0, .int .i64 0, .int .i64 0, .int .i64 0, .int .i64 0, .nilsl, .int .i64 0, .nilsl, .int .i64 0] = true) /\ (mkE Tryd.prog 27 [.int .i64 0, .int .i64 0, .int .i64 0, .int .i64 0, .int .i64 0, .nilsl, .int .i64 0, .nilsl, .int .i64 0] = .agg [.int .i64 0, .int .i64 0, .int .i64 0, .int .i64 0, .int .i64 0, .nilsl, .int .i64 0, .nilsl, .int .i64 0]) /\ (zeroOf Tryd.prog 27 = some [.int .i64 0, .int .i64 0, .int .i64 0, .int .i64 0, .int .i64 0, .nilsl, .int .i64 0, .nilsl, .int .i64 0]) /\ (tField Tryd.prog 27 0 = some (0, none)) /\ (placeOf Tryd.prog 27 0 = some (0, 1)) /\ (tField Tryd.prog 27 1 = some (1, none)) /\ (placeOf Tryd.prog 27 1 = some (1, 1)) /\ (tField Tryd.prog 27 2 = some (2, none)) /\ (placeOf Tryd.prog 27 2 = some (2, 1)) /\ (tField Tryd.prog 27 3 = some (3, none)) /\ (placeOf Tryd.prog 27 3 = some (3, 1)) /\ (tField Tryd.prog 27 4 = some (4, none)) /\ (placeOf Tryd.prog 27 4 = some (4, 1)) /\ (tField Tryd.prog 27 5 = some (5, none)) /\ (placeOf Tryd.prog 27 5 = some (5, 1)) /\ (tField Tryd.prog 27 6 = some (6, none)) /\ (placeOf Tryd.prog 27 6 = some (6, 1)) /\ (tField Tryd.prog 27 7 = some (7, none)) /\ (placeOf Tryd.prog 27 7 = some (7, 1)) /\ (tField Tryd.prog 27 8 = some (8, none)) /\ (placeOf Tryd.prog 27 8 = some (8, 1)) /\ (buildable Tryd.prog 27 = true) :=
 by and_intros <;> kernel_rfl
theorem ty28 : (tLoad Tryd.prog 28 = some none) /\ (tKind Tryd.prog 28 = some (.int .i64)) /\ (tSz Tryd.prog 28 = some 1) /\ (Tryd.prog.bytesOf 28 = 8) /\ (tZero Tryd.prog 28 = some [.int .i64 0]) /\ (eok Tryd.prog 28 [.int .i64 0] = true) /\ (mkE Tryd.prog 28 [.int .i64 0] = .int .i64 0) /\ (zeroOf Tryd.prog 28 = some [.int .i64 0]) :=
 by and_intros <;> kernel_rfl
theorem ty32 : (tLoad Tryd.prog 32 = some none) /\ (tKind Tryd.prog 32 = some .func) /\ (tSz Tryd.prog 32 = some 1) /\ (Tryd.prog.bytesOf 32 = 8) /\ (tZero Tryd.prog 32 = some [.nilf]) /\ (eok Tryd.prog 32 [.nilf] = true) /\ (mkE Tryd.prog 32 [.nilf] = .nilf) /\ (zeroOf Tryd.prog 32 = some [.nilf]) :=
 by and_intros <;> kernel_rfl
theorem ty35 : (tLoad Tryd.prog 35 = some none) /\ (tKind Tryd.prog 35 = some (.int .u32)) /\ (tSz Tryd.prog 35 = some 1) /\ (Tryd.prog.bytesOf 35 = 4) /\ (tZero Tryd.prog 35 = some [.int .u32 0]) /\ (eok Tryd.prog 35 [.int .u32 0] = true) /\ (mkE Tryd.prog 35 [.int .u32 0] = .int .u32 0) /\ (zeroOf Tryd.prog 35 = some [.int .u32 0]) :=
 by and_intros <;> kernel_rfl
theorem ty44 : (tLoad Tryd.prog 44 = some (some 9)) /\ (tKind Tryd.prog 44 = some .other) /\ (tSz Tryd.prog 44 = some 9) /\ (Tryd.prog.bytesOf 44 = 104) /\ (tZero Tryd.prog 44 = some [.int .i64 0, .int .i64 0, .int .i64 0, .int .i64 0, .int .i64 0, .nilsl, .int .i64 0, .nilsl, .int .i64 0]) /\ (eok Tryd.prog 44 [.int .i64 0, .int .i64 0, .int .i64 0, .int .i64 0, .int .i64 0, .nilsl, .int .i64 0, .nilsl, .int .i64 0] = true) /\ (mkE Tryd.prog 44 [.int .i64 0, .int .i64 0, .int .i64 0, .int .i64 0, .int .i64 0, .nilsl, .int .i64 0, .nilsl, .int .i64 0] = .agg [.int .i64 0, .int .i64 0, .int .i64 0, .int .i64 0, .int .i64 0, .nilsl, .int .i64 0, .nilsl, .int .i64 0]) /\ (zeroOf Tryd.prog 44 = some [.int .i64 0, .int .i64 0, .int .i64 0, .int .i64 0, .int .i64 0, .nilsl, .int .i64 0, .nilsl, .int .i64 0]) /\ (tField Tryd.prog 44 0 = some (0, none)) /\ (placeOf Tryd.prog 44 0 = some (0, 1)) /\ (tField Tryd.prog 44 1 = some (1, none)) /\ (placeOf Tryd.prog 44 1 = some (1, 1)) /\ (tField Tryd.prog 44 2 = some (2, none)) /\ (placeOf Tryd.prog 44 2 = some (2, 1)) /\ (tField Tryd.prog 44 3 = some (3, none)) /\ (placeOf Tryd.prog 44 3 = some (3, 1)) /\ (tField Tryd.prog 44 4 = some (4, none)) /\ (placeOf Tryd.prog 44 4 = some (4, 1)) /\ (tField Tryd.prog 44 5 = some (5, none)) /\ (placeOf Tryd.prog 44 5 = some (5, 1)) /\ (tField Tryd.prog 44 6 = some (6, none)) /\ (placeOf Tryd.prog 44 6 = some (6, 1)) /\ (tField Tryd.prog 44 7 = some (7, none)) /\ (placeOf Tryd.prog 44 7 = some (7, 1)) /\ (tField Tryd.prog 44 8 = some (8, none)) /\ (placeOf Tryd.prog 44 8 = some (8, 1)) /\ (buildable Tryd.prog 44 = true) :=
 by and_intros <;> kernel_rfl
theorem ty64 : (tLoad Tryd.prog 64 = some none) /\ (tKind Tryd.prog 64 = some .slice) /\ (tSz Tryd.prog 64 = some 1) /\ (Tryd.prog.bytesOf 64 = 24) /\ (tZero Tryd.prog 64 = some [.nilsl]) /\ (eok Tryd.prog 64 [.nilsl] = true) /\ (mkE Tryd.prog 64 [.nilsl] = .nilsl) /\ (zeroOf Tryd.prog 64 = some [.nilsl]) /\ (tIndex Tryd.prog 64 = some (none, 5, some 5)) /\ (tSliceElem Tryd.prog 64 = some 112) /\ (isTy2 Tryd.prog 64 = true) :=
 by and_intros <;> kernel_rfl
theorem ty80 : (tLoad Tryd.prog 80 = some none) /\ (tKind Tryd.prog 80 = some (.int .i64)) /\ (tSz Tryd.prog 80 = some 1) /\ (Tryd.prog.bytesOf 80 = 8) /\ (tZero Tryd.prog 80 = some [.int .i64 0]) /\ (eok Tryd.prog 80 [.int .i64 0] = true) /\ (mkE Tryd.prog 80 [.int .i64 0] = .int .i64 0) /\ (zeroOf Tryd.prog 80 = some [.int .i64 0]) :=
 by and_intros <;> kernel_rfl
theorem ty81 : (tLoad Tryd.prog 81 = some none) /\ (tKind Tryd.prog 81 = some .slice) /\ (tSz Tryd.prog 81 = some 1) /\ (Tryd.prog.bytesOf 81 = 24) /\ (tZero Tryd.prog 81 = some [.nilsl]) /\ (eok Tryd.prog 81 [.nilsl] = true) /\ (mkE Tryd.prog 81 [.nilsl] = .nilsl) /\ (zeroOf Tryd.prog 81 = some [.nilsl]) /\ (tIndex Tryd.prog 81 = some (none, 1, none)) /\ (tSliceElem Tryd.prog 81 = some 80) /\ (isTy2 Tryd.prog 81 = true) :=
 by and_intros <;> kernel_rfl
theorem ty82 : (tLoad Tryd.prog 82 = some (some 5)) /\ (tKind Tryd.prog 82 = some .other) /\ (tSz Tryd.prog 82 = some 5) /\ (Tryd.prog.bytesOf 82 = 56) /\ (tZero Tryd.prog 82 = some [.int .i64 0, .int .i64 0, .int .i64 0, .int .i64 0, .nilsl]) /\ (eok Tryd.prog 82 [.int .i64 0, .int .i64 0, .int .i64 0, .int .i64 0, .nilsl] = true) /\ (mkE Tryd.prog 82 [.int .i64 0, .int .i64 0, .int .i64 0, .int .i64 0, .nilsl] = .agg [.int .i64 0, .int .i64 0, .int .i64 0, .int .i64 0, .nilsl]) /\ (zeroOf Tryd.prog 82 = some [.int .i64 0, .int .i64 0, .int .i64 0, .int .i64 0, .nilsl]) /\ (tField Tryd.prog 82 0 = some (0, none)) /\ (placeOf Tryd.prog 82 0 = some (0, 1)) /\ (tField Tryd.prog 82 1 = some (1, none)) /\ (placeOf Tryd.prog 82 1 = some (1, 1)) /\ (tField Tryd.prog 82 2 = some (2, none)) /\ (placeOf Tryd.prog 82 2 = some (2, 1)) /\ (tField Tryd.prog 82 3 = some (3, none)) /\ (placeOf Tryd.prog 82 3 = some (3, 1)) /\ (tField Tryd.prog 82 4 = some (4, none)) /\ (placeOf Tryd.prog 82 4 = some (4, 1)) /\ (buildable Tryd.prog 82 = true) :=
 by and_intros <;> kernel_rfl
theorem ty83 : (tLoad Tryd.prog 83 = some (some 5)) /\ (tKind Tryd.prog 83 = some .other) /\ (tSz Tryd.prog 83 = some 5) /\ (Tryd.prog.bytesOf 83 = 56) /\ (tZero Tryd.prog 83 = some [.int .i64 0, .int .i64 0, .int .i64 0, .int .i64 0, .nilsl]) /\ (eok Tryd.prog 83 [.int .i64 0, .int .i64 0, .int .i64 0, .int .i64 0, .nilsl] = true) /\ (mkE Tryd.prog 83 [.int .i64 0, .int .i64 0, .int .i64 0, .int .i64 0, .nilsl] = .agg [.int .i64 0, .int .i64 0, .int .i64 0, .int .i64 0, .nilsl]) /\ (zeroOf Tryd.prog 83 = some [.int .i64 0, .int .i64 0, .int .i64 0, .int .i64 0, .nilsl]) /\ (tField Tryd.prog 83 0 = some (0, none)) /\ (placeOf Tryd.prog 83 0 = some (0, 1)) /\ (tField Tryd.prog 83 1 = some (1, none)) /\ (placeOf Tryd.prog 83 1 = some (1, 1)) /\ (tField Tryd.prog 83 2 = some (2, none)) /\ (placeOf Tryd.prog 83 2 = some (2, 1)) /\ (tField Tryd.prog 83 3 = some (3, none)) /\ (placeOf Tryd.prog 83 3 = some (3, 1)) /\ (tField Tryd.prog 83 4 = some (4, none)) /\ (placeOf Tryd.prog 83 4 = some (4, 1)) /\ (buildable Tryd.prog 83 = true) :=
 by and_intros <;> kernel_rfl
theorem ty84 : (tLoad Tryd.prog 84 = some (some 9)) /\ (tKind Tryd.prog 84 = some .other) /\ (tSz Tryd.prog 84 = some 9) /\ (Tryd.prog.bytesOf 84 = 80) /\ (tZero Tryd.prog 84 = some [.int .i64 0, .int .i64 0, .int .i64 0, .int .i64 0, .nilsl, .bool false, .int .i64 0, .bool false, .bool false]) /\ (eok Tryd.prog 84 [.int .i64 0, .int .i64 0, .int .i64 0, .int .i64 0, .nilsl, .bool false, .int .i64 0, .bool false, .bool false] = true) /\ (mkE Tryd.prog 84 [.int .i64 0, .int .i64 0, .int .i64 0, .int .i64 0, .nilsl, .bool false, .int .i64 0, .bool false, .bool false] = .agg [.int .i64 0, .int .i64 0, .int .i64 0, .int .i64 0, .nilsl, .bool false, .int .i64 0, .bool false, .bool false]) /\ (zeroOf Tryd.prog 84 = some [.int .i64 0, .int .i64 0, .int .i64 0, .int .i64 0, .nilsl, .bool false, .int .i64 0, .bool false, .bool false]) /\ (tField Tryd.prog 84 0 = some (0, some 5)) /\ (placeOf Tryd.prog 84 0 = some (0, 5)) /\ (tField Tryd.prog 84 1 = some (5, none)) /\ (placeOf Tryd.prog 84 1 = some (5, 1)) /\ (tField Tryd.prog 84 2 = some (6, none)) /\ (placeOf Tryd.prog 84 2 = some (6, 1)) /\ (tField Tryd.prog 84 3 = some (7, none)) /\ (placeOf Tryd.prog 84 3 = some (7, 1)) /\ (tField Tryd.prog 84 4 = some (8, none)) /\ (placeOf Tryd.prog 84 4 = some (8, 1)) /\ (buildable Tryd.prog 84 = true) :=
 by and_intros <;> kernel_rfl
theorem ty85 : (tLoad Tryd.prog 85 = some (some 9)) /\ (tKind Tryd.prog 85 = some .other) /\ (tSz Tryd.prog 85 = some 9) /\ (Tryd.prog.bytesOf 85 = 80) /\ (tZero Tryd.prog 85 = some [.int .i64 0, .int .i64 0, .int .i64 0, .int .i64 0, .nilsl, .bool false, .int .i64 0, .bool false, .bool false]) /\ (eok Tryd.prog 85 [.int .i64 0, .int .i64 0, .int .i64 0, .int .i64 0, .nilsl, .bool false, .int .i64 0, .bool false, .bool false] = true) /\ (mkE Tryd.prog 85 [.int .i64 0, .int .i64 0, .int .i64 0, .int .i64 0, .nilsl, .bool false, .int .i64 0, .bool false, .bool false] = .agg [.int .i64 0, .int .i64 0, .int .i64 0, .int .i64 0, .nilsl, .bool false, .int .i64 0, .bool false, .bool false]) /\ (zeroOf Tryd.prog 85 = some [.int .i64 0, .int .i64 0, .int .i64 0, .int .i64 0, .nilsl, .bool false, .int .i64 0, .bool false, .bool false]) /\ (tField Tryd.prog 85 0 = some (0, some 5)) /\ (placeOf Tryd.prog 85 0 = some (0, 5)) /\ (tField Tryd.prog 85 1 = some (5, none)) /\ (placeOf Tryd.prog 85 1 = some (5, 1)) /\ (tField Tryd.prog 85 2 = some (6, none)) /\ (placeOf Tryd.prog 85 2 = some (6, 1)) /\ (tField Tryd.prog 85 3 = some (7, none)) /\ (placeOf Tryd.prog 85 3 = some (7, 1)) /\ (tField Tryd.prog 85 4 = some (8, none)) /\ (placeOf Tryd.prog 85 4 = some (8, 1)) /\ (buildable Tryd.prog 85 = true) :=
 by and_intros <;> kernel_rfl
theorem ty90 : (tLoad Tryd.prog 90 = some none) /\ (tKind Tryd.prog 90 = some .func) /\ (tSz Tryd.prog 90 = some 1) /\ (Tryd.prog.bytesOf 90 = 8) /\ (tZero Tryd.prog 90 = some [.nilf]) /\ (eok Tryd.prog 90 [.nilf] = true) /\ (mkE Tryd.prog 90 [.nilf] = .nilf) /\ (zeroOf Tryd.prog 90 = some [.nilf]) :=
 by and_intros <;> kernel_rfl
theorem ty91 : (tLoad Tryd.prog 91 = some none) /\ (tKind Tryd.prog 91 = some .func) /\ (tSz Tryd.prog 91 = some 1) /\ (Tryd.prog.bytesOf 91 = 8) /\ (tZero Tryd.prog 91 = some [.nilf]) /\ (eok Tryd.prog 91 [.nilf] = true) /\ (mkE Tryd.prog 91 [.nilf] = .nilf) /\ (zeroOf Tryd.prog 91 = some [.nilf]) :=
 by and_intros <;> kernel_rfl
theorem ty93 : (tLoad Tryd.prog 93 = some (some 4)) /\ (tKind Tryd.prog 93 = some .other) /\ (tSz Tryd.prog 93 = some 4) /\ (Tryd.prog.bytesOf 93 = 32) /\ (tZero Tryd.prog 93 = some [.int .i64 0, .int .i64 0, .int .i64 0, .int .i64 0]) /\ (eok Tryd.prog 93 [.int .i64 0, .int .i64 0, .int .i64 0, .int .i64 0] = true) /\ (mkE Tryd.prog 93 [.int .i64 0, .int .i64 0, .int .i64 0, .int .i64 0] = .agg [.int .i64 0, .int .i64 0, .int .i64 0, .int .i64 0]) /\ (zeroOf Tryd.prog 93 = some [.int .i64 0, .int .i64 0, .int .i64 0, .int .i64 0]) /\ (tIndex Tryd.prog 93 = some (some 4, 1, none)) /\ (placeOf Tryd.prog 93 0 = some (0, 1)) /\ (placeOf Tryd.prog 93 1 = some (1, 1)) /\ (placeOf Tryd.prog 93 2 = some (2, 1)) /\ (placeOf Tryd.prog 93 3 = some (3, 1)) /\ (buildable Tryd.prog 93 = true) /\ (leaves Tryd.prog 93 = some [.i .i64, .i .i64, .i .i64, .i .i64]) :=
 by and_intros <;> kernel_rfl
theorem ty94 : (tLoad Tryd.prog 94 = some none) /\ (tKind Tryd.prog 94 = some .func) /\ (tSz Tryd.prog 94 = some 1) /\ (Tryd.prog.bytesOf 94 = 8) /\ (tZero Tryd.prog 94 = some [.nilf]) /\ (eok Tryd.prog 94 [.nilf] = true) /\ (mkE Tryd.prog 94 [.nilf] = .nilf) /\ (zeroOf Tryd.prog 94 = some [.nilf]) :=
 by and_intros <;> kernel_rfl
theorem ty96 : (tLoad Tryd.prog 96 = some (some 6)) /\ (tKind Tryd.prog 96 = some .other) /\ (tSz Tryd.prog 96 = some 6) /\ (Tryd.prog.bytesOf 96 = 64) /\ (tZero Tryd.prog 96 = some [.int .i64 0, .int .i64 0, .int .i64 0, .bool false, .nilsl, .int .i64 0]) /\ (eok Tryd.prog 96 [.int .i64 0, .int .i64 0, .int .i64 0, .bool false, .nilsl, .int .i64 0] = true) /\ (mkE Tryd.prog 96 [.int .i64 0, .int .i64 0, .int .i64 0, .bool false, .nilsl, .int .i64 0] = .agg [.int .i64 0, .int .i64 0, .int .i64 0, .bool false, .nilsl, .int .i64 0]) /\ (zeroOf Tryd.prog 96 = some [.int .i64 0, .int .i64 0, .int .i64 0, .bool false, .nilsl, .int .i64 0]) /\ (tField Tryd.prog 96 0 = some (0, none)) /\ (placeOf Tryd.prog 96 0 = some (0, 1)) /\ (tField Tryd.prog 96 1 = some (1, none)) /\ (placeOf Tryd.prog 96 1 = some (1, 1)) /\ (tField Tryd.prog 96 2 = some (2, none)) /\ (placeOf Tryd.prog 96 2 = some (2, 1)) /\ (tField Tryd.prog 96 3 = some (3, none)) /\ (placeOf Tryd.prog 96 3 = some (3, 1)) /\ (tField Tryd.prog 96 4 = some (4, none)) /\ (placeOf Tryd.prog 96 4 = some (4, 1)) /\ (tField Tryd.prog 96 5 = some (5, none)) /\ (placeOf Tryd.prog 96 5 = some (5, 1)) /\ (buildable Tryd.prog 96 = true) :=
 by and_intros <;> kernel_rfl
theorem ty97 : (tLoad Tryd.prog 97 = some (some 6)) /\ (tKind Tryd.prog 97 = some .other) /\ (tSz Tryd.prog 97 = some 6) /\ (Tryd.prog.bytesOf 97 = 64) /\ (tZero Tryd.prog 97 = some [.int .i64 0, .int .i64 0, .int .i64 0, .bool false, .nilsl, .int .i64 0]) /\ (eok Tryd.prog 97 [.int .i64 0, .int .i64 0, .int .i64 0, .bool false, .nilsl, .int .i64 0] = true) /\ (mkE Tryd.prog 97 [.int .i64 0, .int .i64 0, .int .i64 0, .bool false, .nilsl, .int .i64 0] = .agg [.int .i64 0, .int .i64 0, .int .i64 0, .bool false, .nilsl, .int .i64 0]) /\ (zeroOf Tryd.prog 97 = some [.int .i64 0, .int .i64 0, .int .i64 0, .bool false, .nilsl, .int .i64 0]) /\ (tField Tryd.prog 97 0 = some (0, none)) /\ (placeOf Tryd.prog 97 0 = some (0, 1)) /\ (tField Tryd.prog 97 1 = some (1, none)) /\ (placeOf Tryd.prog 97 1 = some (1, 1)) /\ (tField Tryd.prog 97 2 = some (2, none)) /\ (placeOf Tryd.prog 97 2 = some (2, 1)) /\ (tField Tryd.prog 97 3 = some (3, none)) /\ (placeOf Tryd.prog 97 3 = some (3, 1)) /\ (tField Tryd.prog 97 4 = some (4, none)) /\ (placeOf Tryd.prog 97 4 = some (4, 1)) /\ (tField Tryd.prog 97 5 = some (5, none)) /\ (placeOf Tryd.prog 97 5 = some (5, 1)) /\ (buildable Tryd.prog 97 = true) :=
 by and_intros <;> kernel_rfl
theorem ty99 : (tLoad Tryd.prog 99 = some none) /\ (tKind Tryd.prog 99 = some .func) /\ (tSz Tryd.prog 99 = some 1) /\ (Tryd.prog.bytesOf 99 = 8) /\ (tZero Tryd.prog 99 = some [.nilf]) /\ (eok Tryd.prog 99 [.nilf] = true) /\ (mkE Tryd.prog 99 [.nilf] = .nilf) /\ (zeroOf Tryd.prog 99 = some [.nilf]) :=
 by and_intros <;> kernel_rfl
theorem ty101 : (tLoad Tryd.prog 101 = some none) /\ (tKind Tryd.prog 101 = some .func) /\ (tSz Tryd.prog 101 = some 1) /\ (Tryd.prog.bytesOf 101 = 8) /\ (tZero Tryd.prog 101 = some [.nilf]) /\ (eok Tryd.prog 101 [.nilf] = true) /\ (mkE Tryd.prog 101 [.nilf] = .nilf) /\ (zeroOf Tryd.prog 101 = some [.nilf]) :=
 by and_intros <;> kernel_rfl
theorem ty104 : (tLoad Tryd.prog 104 = some none) /\ (tKind Tryd.prog 104 = some .func) /\ (tSz Tryd.prog 104 = some 1) /\ (Tryd.prog.bytesOf 104 = 8) /\ (tZero Tryd.prog 104 = some [.nilf]) /\ (eok Tryd.prog 104 [.nilf] = true) /\ (mkE Tryd.prog 104 [.nilf] = .nilf) /\ (zeroOf Tryd.prog 104 = some [.nilf]) :=
 by and_intros <;> kernel_rfl
theorem ty108 : (tLoad Tryd.prog 108 = some none) /\ (tKind Tryd.prog 108 = some .func) /\ (tSz Tryd.prog 108 = some 1) /\ (Tryd.prog.bytesOf 108 = 8) /\ (tZero Tryd.prog 108 = some [.nilf]) /\ (eok Tryd.prog 108 [.nilf] = true) /\ (mkE Tryd.prog 108 [.nilf] = .nilf) /\ (zeroOf Tryd.prog 108 = some [.nilf]) :=
 by and_intros <;> kernel_rfl
theorem ty110 : (tLoad Tryd.prog 110 = some none) /\ (tKind Tryd.prog 110 = some (.int .u64)) /\ (tSz Tryd.prog 110 = some 1) /\ (Tryd.prog.bytesOf 110 = 8) /\ (tZero Tryd.prog 110 = some [.int .u64 0]) /\ (eok Tryd.prog 110 [.int .u64 0] = true) /\ (mkE Tryd.prog 110 [.int .u64 0] = .int .u64 0) /\ (zeroOf Tryd.prog 110 = some [.int .u64 0]) :=
 by and_intros <;> kernel_rfl
theorem ty111 : (tLoad Tryd.prog 111 = some (some 5)) /\ (tKind Tryd.prog 111 = some .other) /\ (tSz Tryd.prog 111 = some 5) /\ (Tryd.prog.bytesOf 111 = 64) /\ (tZero Tryd.prog 111 = some [.int .i64 0, .int .u64 0, .int .u64 0, .str ⟨#[]⟩, .nilsl]) /\ (eok Tryd.prog 111 [.int .i64 0, .int .u64 0, .int .u64 0, .str ⟨#[]⟩, .nilsl] = true) /\ (mkE Tryd.prog 111 [.int .i64 0, .int .u64 0, .int .u64 0, .str ⟨#[]⟩, .nilsl] = .agg [.int .i64 0, .int .u64 0, .int .u64 0, .str ⟨#[]⟩, .nilsl]) /\ (zeroOf Tryd.prog 111 = some [.int .i64 0, .int .u64 0, .int .u64 0, .str ⟨#[]⟩, .nilsl]) /\ (tField Tryd.prog 111 0 = some (0, none)) /\ (placeOf Tryd.prog 111 0 = some (0, 1)) /\ (tField Tryd.prog 111 1 = some (1, none)) /\ (placeOf Tryd.prog 111 1 = some (1, 1)) /\ (tField Tryd.prog 111 2 = some (2, none)) /\ (placeOf Tryd.prog 111 2 = some (2, 1)) /\ (tField Tryd.prog 111 3 = some (3, none)) /\ (placeOf Tryd.prog 111 3 = some (3, 1)) /\ (tField Tryd.prog 111 4 = some (4, none)) /\ (placeOf Tryd.prog 111 4 = some (4, 1)) /\ (buildable Tryd.prog 111 = true) :=
 by and_intros <;> kernel_rfl
theorem ty112 : (tLoad Tryd.prog 112 = some (some 5)) /\ (tKind Tryd.prog 112 = some .other) /\ (tSz Tryd.prog 112 = some 5) /\ (Tryd.prog.bytesOf 112 = 64) /\ (tZero Tryd.prog 112 = some [.int .i64 0, .int .u64 0, .int .u64 0, .str ⟨#[]⟩, .nilsl]) /\ (eok Tryd.prog 112 [.int .i64 0, .int .u64 0, .int .u64 0, .str ⟨#[]⟩, .nilsl] = true) /\ (mkE Tryd.prog 112 [.int .i64 0, .int .u64 0, .int .u64 0, .str ⟨#[]⟩, .nilsl] = .agg [.int .i64 0, .int .u64 0, .int .u64 0, .str ⟨#[]⟩, .nilsl]) /\ (zeroOf Tryd.prog 112 = some [.int .i64 0, .int .u64 0, .int .u64 0, .str ⟨#[]⟩, .nilsl]) /\ (tField Tryd.prog 112 0 = some (0, none)) /\ (placeOf Tryd.prog 112 0 = some (0, 1)) /\ (tField Tryd.prog 112 1 = some (1, none)) /\ (placeOf Tryd.prog 112 1 = some (1, 1)) /\ (tField Tryd.prog 112 2 = some (2, none)) /\ (placeOf Tryd.prog 112 2 = some (2, 1)) /\ (tField Tryd.prog 112 3 = some (3, none)) /\ (placeOf Tryd.prog 112 3 = some (3, 1)) /\ (tField Tryd.prog 112 4 = some (4, none)) /\ (placeOf Tryd.prog 112 4 = some (4, 1)) /\ (buildable Tryd.prog 112 = true) :=
 by and_intros <;> kernel_rfl
theorem ty114 : (tLoad Tryd.prog 114 = some (some 2)) /\ (tKind Tryd.prog 114 = some .other) /\ (tSz Tryd.prog 114 = some 2) /\ (Tryd.prog.bytesOf 114 = 32) /\ (tZero Tryd.prog 114 = some [.int .i64 0, .nilsl]) /\ (eok Tryd.prog 114 [.int .i64 0, .nilsl] = true) /\ (mkE Tryd.prog 114 [.int .i64 0, .nilsl] = .agg [.int .i64 0, .nilsl]) /\ (zeroOf Tryd.prog 114 = some [.int .i64 0, .nilsl]) /\ (tField Tryd.prog 114 0 = some (0, none)) /\ (placeOf Tryd.prog 114 0 = some (0, 1)) /\ (tField Tryd.prog 114 1 = some (1, none)) /\ (placeOf Tryd.prog 114 1 = some (1, 1)) /\ (buildable Tryd.prog 114 = true) :=
 by and_intros <;> kernel_rfl
theorem ty115 : (tLoad Tryd.prog 115 = some (some 2)) /\ (tKind Tryd.prog 115 = some .other) /\ (tSz Tryd.prog 115 = some 2) /\ (Tryd.prog.bytesOf 115 = 32) /\ (tZero Tryd.prog 115 = some [.int .i64 0, .nilsl]) /\ (eok Tryd.prog 115 [.int .i64 0, .nilsl] = true) /\ (mkE Tryd.prog 115 [.int .i64 0, .nilsl] = .agg [.int .i64 0, .nilsl]) /\ (zeroOf Tryd.prog 115 = some [.int .i64 0, .nilsl]) /\ (tField Tryd.prog 115 0 = some (0, none)) /\ (placeOf Tryd.prog 115 0 = some (0, 1)) /\ (tField Tryd.prog 115 1 = some (1, none)) /\ (placeOf Tryd.prog 115 1 = some (1, 1)) /\ (buildable Tryd.prog 115 = true) :=
 by and_intros <;> kernel_rfl
theorem ty116 : (tLoad Tryd.prog 116 = some none) /\ (tKind Tryd.prog 116 = some .func) /\ (tSz Tryd.prog 116 = some 1) /\ (Tryd.prog.bytesOf 116 = 8) /\ (tZero Tryd.prog 116 = some [.nilf]) /\ (eok Tryd.prog 116 [.nilf] = true) /\ (mkE Tryd.prog 116 [.nilf] = .nilf) /\ (zeroOf Tryd.prog 116 = some [.nilf]) :=
 by and_intros <;> kernel_rfl
theorem ty124 : (tLoad Tryd.prog 124 = some (some 216)) /\ (tKind Tryd.prog 124 = some .other) /\ (tSz Tryd.prog 124 = some 216) /\ (Tryd.prog.bytesOf 124 = 1920) /\ (tIndex Tryd.prog 124 = some (some 24, 9, some 9)) /\ (placeOf Tryd.prog 124 0 = some (0, 9)) /\ (placeOf Tryd.prog 124 1 = some (9, 9)) /\ (placeOf Tryd.prog 124 2 = some (18, 9)) /\ (placeOf Tryd.prog 124 3 = some (27, 9)) /\ (placeOf Tryd.prog 124 4 = some (36, 9)) /\ (placeOf Tryd.prog 124 5 = some (45, 9)) /\ (placeOf Tryd.prog 124 6 = some (54, 9)) /\ (placeOf Tryd.prog 124 7 = some (63, 9)) /\ (buildable Tryd.prog 124 = true) :=
 by and_intros <;> kernel_rfl
theorem ty125 : (tLoad Tryd.prog 125 = some none) /\ (tKind Tryd.prog 125 = some .func) /\ (tSz Tryd.prog 125 = some 1) /\ (Tryd.prog.bytesOf 125 = 8) /\ (tZero Tryd.prog 125 = some [.nilf]) /\ (eok Tryd.prog 125 [.nilf] = true) /\ (mkE Tryd.prog 125 [.nilf] = .nilf) /\ (zeroOf Tryd.prog 125 = some [.nilf]) :=
 by and_intros <;> kernel_rfl
set_option maxRecDepth 100000
theorem tyb : type_of% @ty1 /\ type_of% @ty2 /\ type_of% @ty3 /\ type_of% @ty4 /\ type_of% @ty9 /\ type_of% @ty20 /\ type_of% @ty24 /\ type_of% @ty25 /\ type_of% @ty26 /\ type_of% @ty27 /\ type_of% @ty28 /\ type_of% @ty32 /\ type_of% @ty35 /\ type_of% @ty44 /\ type_of% @ty64 /\ type_of% @ty80 /\ type_of% @ty81 /\ type_of% @ty82 /\ type_of% @ty83 /\ type_of% @ty84 /\ type_of% @ty85 /\ type_of% @ty90 /\ type_of% @ty91 /\ type_of% @ty93 /\ type_of% @ty94 /\ type_of% @ty96 /\ type_of% @ty97 /\ type_of% @ty99 /\ type_of% @ty101 /\ type_of% @ty104 /\ type_of% @ty108 /\ type_of% @ty110 /\ type_of% @ty111 /\ type_of% @ty112 /\ type_of% @ty114 /\ type_of% @ty115 /\ type_of% @ty116 /\ type_of% @ty124 /\ type_of% @ty125 :=
 ⟨@ty1, @ty2, @ty3, @ty4, @ty9, @ty20, @ty24, @ty25, @ty26, @ty27, @ty28, @ty32, @ty35, @ty44, @ty64, @ty80, @ty81, @ty82, @ty83, @ty84, @ty85, @ty90, @ty91, @ty93, @ty94, @ty96, @ty97, @ty99, @ty101, @ty104, @ty108, @ty110, @ty111, @ty112, @ty114, @ty115, @ty116, @ty124, @ty125⟩
end Go.Proofs.YtfdipcpmfoidoaaDoor

/- slices.Chunk's iterator: what it yields. Own work. -/
namespace Go.Proofs.YtfdipcpmfoidoaaDoor
open Go Go.Aw Go.RowKit Go.Shelf
attribute [local go_sem] Oper.semAt_some
def chkE (es : List AV) (j : Nat) : AV := .tup [.ro 1 ((es.drop (4 * j)).take 4)]
def chk (es : List AV) : List AV := (List.range ((es.length + 3) / 4)).map (chkE es)
def chkL (n j : Nat) : Nat := min 4 (n - 4 * j)
set_option maxRecDepth 100000 in
set_option maxHeartbeats 4000000 in
theorem chunk_walk (l : Nat) (p1 p2 : Addr) (A : Option Addr) (b off n cap : Nat) (hA : 0 < n -> A = some ⟨b, off, none⟩) (hn : n ≤ 1000000) (hcap : n ≤ cap) (J : Nat -> World -> Prop) (Jx : World -> Prop)
  (h1 : ∀ i W, J i W -> W.cell? p1 = some (.slice A n cap)) (h2 : ∀ i W, J i W -> W.cell? p2 = some (.int .i64 4))
  (hd : ∀ i W, J i W -> J i W.drew)
  (hY : ∀ (i : Nat) (W : World), i < (n + 3) / 4 -> J i W -> YieldAt Fence.wide 0 Tryd.prog l #[.slice (some ⟨b, off + 4 * i, none⟩) (chkL n i) (chkL n i)] W fun e W' => (e = .returned (.bool true) /\ J (i + 1) W') \/ (e = .returned (.bool false) /\ Jx W'))
  (W : World) (h0 : J 0 W) :
  CallsIn Fence.wide 1 Tryd.prog 61 #[.func (.yield l) #[] #[], .pointer (some p1), .pointer (some p2)] W fun e W' => (∃ v, e = .returned v) /\ (J ((n + 3) / 4) W' \/ Jx W') := by
 refine callsIn_of_wp Tryd.func61 rfl trivial ?_ rfl
 simp only [Tryd.ntmps61, List.size_toArray, List.length_cons, List.length_nil, Nat.reduceAdd, Nat.reduceSub, Array.replicate_succ, Array.replicate_zero, List.push_toArray, List.append_toArray, List.nil_append, List.cons_append]
 gi_wp2
 gi_loopw [4] (fun i wr => ∃ k : Nat, k ≤ (n + 3) / 4 /\ i = .int .i64 (4 * k) /\ J k wr)
  (fun i _ => n + 4 - (intOf i).toNat)
 case atStart => exact ⟨0, Nat.zero_le _, rfl, h0⟩
 case round =>
  obtain ⟨k, hk, rfl, hJs⟩ := hrel
  have hc1 := h1 k wr hJs
  have hc2 := h2 k wr hJs
  by_cases hlt : 4 * k < n
  ·have hlt2 : k < (n + 3) / 4 := by omega
   have hA2 := hA (by omega)
   subst hA2
   gi_wp2
   gi_region
   all_goals gi_wp2
   case inl h =>
    obtain ⟨fn, tmps, assign, body, hy, hR⟩ := hY k wr.drew hlt2 (hd _ _ hJs)
    rw [show (4 * (k:Int) + ↑(n - 4 * k)).toNat - 4 * k = chkL n k from by unfold chkL; omega, hy]
    simp only [Oper.uponIn_round]
    refine ⟨fun h => by simp [Fence.wide] at h, hR.mono ?_⟩
    rintro e W3 (⟨rfl, hJ3⟩ | ⟨rfl, hJx3⟩)
    ·have hc1 := h1 _ W3 hJ3
     have hc2 := h2 _ W3 hJ3
     gi_wp2
     go_roundw
     case rel => exact ⟨k + 1, by omega, by simp; omega, hJ3⟩
     case measure => simp [intOf]; omega
    ·gi_wp2
     refine bodyPost_ret (results_none rfl _ _ _) rfl ?_
     exact ⟨⟨_, rfl⟩, .inr hJx3⟩
   case inr h =>
    obtain ⟨fn, tmps, assign, body, hy, hR⟩ := hY k wr.drew hlt2 (hd _ _ hJs)
    rw [show (4 * (k:Int) + 4).toNat - 4 * k = chkL n k from by unfold chkL; omega, hy]
    simp only [Oper.uponIn_round]
    refine ⟨fun h => by simp [Fence.wide] at h, hR.mono ?_⟩
    rintro e W3 (⟨rfl, hJ3⟩ | ⟨rfl, hJx3⟩)
    ·have hc1 := h1 _ W3 hJ3
     have hc2 := h2 _ W3 hJ3
     gi_wp2
     go_roundw
     case rel => exact ⟨k + 1, by omega, by simp; omega, hJ3⟩
     case measure => simp [intOf]; omega
    ·gi_wp2
     refine bodyPost_ret (results_none rfl _ _ _) rfl ?_
     exact ⟨⟨_, rfl⟩, .inr hJx3⟩
  ·gi_wp2
   go_end0
   have : k = (n + 3) / 4 := by omega
   subst this
   exact ⟨⟨_, rfl⟩, .inl hJs⟩
theorem chunk_seq (es : List AV) (h : es.length ≤ 1000000) : SeqOk Tryd.prog 61 [.rop (.ro 1 es) 0, .rop (.int .i64 4) 0] (chk es) := by
 refine ⟨fun ar w => callable_spec (by kernel_rfl) ar w, fun w0 im lb him hlb hcap => ?_⟩
 obtain ⟨v1, v2, rfl⟩ : ∃ v1 v2, lb = #[v1, v2] := by
  match lb, hlb with
  | ⟨[a, b]⟩, _ => exact ⟨a, b, rfl⟩
 have e1 := hcap 0 _ v1 rfl rfl
 have e2 := hcap 1 _ v2 rfl rfl
 cases e1 with
 | imm h => cases h
 | rop _ _ b1 o1 vs1 hb1 hc1 hr1 =>
 cases e2 with
 | imm h => cases h
 | rop _ _ b2 o2 vs2 hb2 hc2 hr2 =>
 have g1 := hc1 0 _ rfl
 have g2 := hc2 0 _ rfl
 have r1 := hr1 0 _ rfl
 have r2 := hr2 0 _ rfl
 generalize hx1 : vs1 0 = x1 at g1 r1
 generalize hx2 : vs2 0 = x2 at g2 r2
 cases r2 with
 | int _ _ =>
 cases r1 with
 | ro _ _ A cap b off vs hA hcp hz hc hr =>
 have hkeep : ∀ {W : World}, (∀ b, im b -> W.heap[b]? = w0.heap[b]?) -> W.cell? ⟨b1, o1 + 0, none⟩ = some (.slice A es.length cap) /\ W.cell? ⟨b2, o2 + 0, none⟩ = some (.int .i64 4) := fun hW =>
  ⟨(heap_cell (hW b1 hb1)).trans g1, (heap_cell (hW b2 hb2)).trans g2⟩
 refine ⟨(List.range ((es.length + 3) / 4)).map fun j => #[.slice (some ⟨b, off + 4 * j, none⟩) (chkL es.length j) (chkL es.length j)], by simp [chk], fun i x vs' hx hv => ?_, fun l J Jx W hJi hJg hJxg hY h0 => ?_⟩
 ·rw [chk, List.getElem?_map] at hx
  rw [List.getElem?_map] at hv
  obtain ⟨j, hj, rfl⟩ := Option.map_eq_some_iff.1 hx
  rw [hj] at hv
  cases hv
  have hjl : j < (es.length + 3) / 4 := by
   have := List.mem_range.1 (List.mem_of_getElem? hj)
   exact this
  have hpos : 0 < es.length := by omega
  have hlen : ((es.drop (4 * j)).take 4).length = chkL es.length j := by simp [chkL]
  refine .tup _ _ rfl fun i2 x2 v2 hx2 hv2 => ?_
  obtain rfl : i2 = 0 := by
   have := (List.getElem?_eq_some_iff.1 hx2).1
   simp at this
   omega
  cases hx2
  replace hv2 := Option.some.inj hv2
  subst hv2
  refine .imm ?_
  show RI im w0 _ (.slice (some ⟨b, off + 4 * j, none⟩) (chkL es.length j) (chkL es.length j))
  rw [<- hlen]
  have hget : ∀ (i : Nat) (e : AV), ((es.drop (4 * j)).take 4)[i]? = some e -> es[4 * j + i]? = some e := fun i e he => by
   rw [List.getElem?_take] at he
   split at he
   ·rwa [List.getElem?_drop] at he
   ·cases he
  refine .ro 1 _ _ _ b (off + 4 * j) (fun i k => vs (4 * j + i) k) (fun _ => ⟨rfl, (hA hpos).2⟩) (Nat.le_refl _) (fun i e he => hz _ e (hget i e he)) (fun i e k x he hk => ?_) (fun i e k x he hk => hr _ e k x (hget i e he) hk)
  have := hc _ e k x (hget i e he) hk
  rw [<- this]
  congr 2
  omega
 ·have hm : ((List.range ((es.length + 3) / 4)).map fun j => (#[.slice (some ⟨b, off + 4 * j, none⟩) (chkL es.length j) (chkL es.length j)] : Array Value)).length = (es.length + 3) / 4 := by simp
  rw [hm]
  refine callsIn_wide.1 (chunk_walk l ⟨b1, o1 + 0, none⟩ ⟨b2, o2 + 0, none⟩ A b off es.length cap (fun hp => (hA hp).1) h hcp J Jx (fun i W hJ => (hkeep (hJi i W hJ)).1) (fun i W hJ => (hkeep (hJi i W hJ)).2) (fun i W hJ => hJg i W W.drew hJ (Nat.le_refl _) (fun _ _ => rfl) rfl rfl rfl) (fun i W hi hJ => ?_) W h0)
  refine hY i _ W ?_ hJ
  rw [List.getElem?_map, List.getElem?_range hi]
  rfl
end Go.Proofs.YtfdipcpmfoidoaaDoor

namespace Go.Proofs.YtfdipcpmfoidoaaDoor
open Go Go.Aw
structure OpRow where
 a : Int
 b : Int
 c : Int
 w : Int
 x : List Int
 li : Bool
 le : Int
 wr : Bool
 sa : Bool
def rowsT : List OpRow :=
 [⟨4, 0, 0, 8, [], false, 0, true, false⟩,
  ⟨4, 4, 0, 0, [], false, 0, true, false⟩,
  ⟨3, 2, 5, 0, [], false, 0, true, false⟩,
  ⟨2, 3, 5, 0, [], false, 0, true, false⟩,
  ⟨3, 6, 0, 0, [], true, 2, true, false⟩,
  ⟨3, 3, 1, 0, [], false, 0, true, false⟩,
  ⟨3, 0, 0, 9, [], false, 0, true, true⟩,
  ⟨3, 0, 0, 10, [], false, 0, true, true⟩,
  ⟨3, 0, 0, 10, [], false, 0, true, true⟩,
  ⟨3, 3, 0, 0, [9], false, 0, true, false⟩,
  ⟨3, 3, 3, 0, [9], false, 0, true, false⟩,
  ⟨3, 6, 7, 0, [11], true, 1, true, true⟩,
  ⟨3, 6, 7, 0, [12], true, 0, true, true⟩,
  ⟨3, 6, 7, 0, [9], true, 1, true, true⟩,
  ⟨3, 6, 0, 0, [10, 9], true, 0, true, true⟩,
  ⟨0, 6, 0, 0, [9], true, 1, false, true⟩,
  ⟨2, 3, 3, 0, [], false, 0, true, false⟩,
  ⟨2, 3, 0, 0, [13], false, 0, true, false⟩,
  ⟨0, 0, 0, 14, [], false, 0, false, false⟩,
  ⟨2, 0, 0, 14, [], false, 0, false, false⟩,
  ⟨3, 0, 0, 0, [], false, 0, false, false⟩,
  ⟨0, 0, 0, 0, [], false, 0, false, false⟩,
  ⟨0, 0, 0, 0, [], false, 0, false, false⟩,
  ⟨2, 2, 2, 0, [9], false, 0, true, false⟩]
def rowA (r : OpRow) : List AV := [.int .i64 r.a, .int .i64 r.b, .int .i64 r.c, .int .i64 r.w, .ro 1 (r.x.map (.int .i64)), .bool r.li, .int .i64 r.le, .bool r.wr, .bool r.sa]
def tabA : List AV := rowsT.flatMap rowA
def G : Nat -> AV := fun g => if g = 0 then .rop (.agg tabA) 0 else .junk
def seq : FuncId -> List AV -> Option (List AV × Prop) := fun q cap => match cap with
 | [.rop (.ro 1 es) 0, .rop (.int .i64 n) 0] => if q = 61 then some (chk es, es.length ≤ 1000000 /\ n = 4) else none
 | _ => none
def AN : Go.Aw.An := mkAn [] [3, 4, 5, 7, 8, 9, 10, 12, 13, 14, 15, 16, 17, 18, 19, 20, 21, 22, 23, 24, 25, 26, 27, 28, 34, 35, 39, 40, 41, 42, 43, 44, 45, 46, 48] [11]
 [3, 4, 5, 7, 8, 9, 10, 11, 12, 13, 14, 15, 16, 17, 18, 19, 20, 21, 22, 23, 24, 25, 26, 27, 28, 34, 35, 36, 37, 38, 39, 40, 41, 42, 43, 44, 45, 46, 47, 48]
 [(3, 30, [2, 4, 17, 115, 116, 117]), (3, 17, [2, 3, 4, 6, 7, 24, 25, 26, 73, 74, 75]), (3, 7, [2, 3, 4, 24, 25, 26]), (4, 9, [4, 5, 13, 14, 77, 78, 79]), (8, 200020, [2, 3, 8]), (8, 13, [1, 2, 3, 8, 64, 65, 66]), (9, 18, [0, 1, 4, 6, 7, 8, 10, 11]), (9, 12, [0, 1, 4, 6, 7, 8, 10, 61, 62]), (11, 5, [0, 1, 4, 12, 13]), (12, 4, [0, 2, 3, 4, 5, 6]), (13, 4, [8, 9, 10, 17, 18]), (17, 30, [1, 7, 11, 12, 13, 14]), (17, 25, [1, 7, 11]), (17, 14, [1, 2, 3, 7, 8]), (17, 8, [1, 2, 3, 4, 6]), (18, 32, [0, 1, 4, 5, 6, 9, 10, 13, 18, 19]), (18, 27, [0, 1, 4, 5, 6, 9, 10, 13]), (18, 19, [0, 1, 4, 6, 7, 9, 10, 12]), (20, 4, [0, 2, 3, 4, 5, 6]), (21, 5, [1, 2, 6, 15, 16, 17]), (24, 5, [0, 1, 4, 12, 13]), (47, 10, [0, 3, 4, 5]), (47, 5, [0, 2, 3])]
 [(3, 30, [(1, [], 9), (3, [], 9)]), (3, 17, [(1, [], 1), (2, [], 9), (4, [], 1), (5, [], 9), (8, [], 9)]), (3, 7, [(1, [], 1), (2, [], 9), (3, [], 9)]), (4, 9, [(0, [], 1), (4, [], 1)]), (8, 13, [(4, [], 1)]), (9, 18, [(0, [], 1), (3, [5], 1), (3, [7], 1)]), (9, 12, [(0, [], 1), (3, [5], 1), (3, [7], 1)]), (11, 5, [(0, [], 1), (1, [], 1)]), (12, 4, [(0, [], 1), (1, [], 9), (4, [], 9)]), (18, 32, [(0, [], 1), (8, [], 1), (4, [5], 1), (4, [7], 1)]), (18, 27, [(0, [], 1), (4, [5], 1), (4, [7], 1)]), (18, 19, [(0, [], 1), (3, [5], 1), (3, [7], 1)]), (20, 4, [(0, [], 1), (1, [], 9), (4, [], 9)]), (21, 5, [(0, [], 9), (3, [], 9)]), (24, 5, [(0, [], 1), (1, [], 1)]), (47, 10, [(0, [], 1), (2, [], 1)]), (47, 5, [(0, [], 1), (1, [], 1)])]
 []
 [(8, [(0, [], 1)]), (9, [(0, [5], 1), (0, [7], 1)]), (12, [(0, [], 9)]), (17, [(0, [], 1)]), (18, [(0, [5], 1), (0, [7], 1)]), (20, [(0, [], 9)]), (22, [(0, [], 1)]), (23, [(0, [], 1)]), (25, [(0, [], 1)]), (26, [(0, [], 1)]), (34, [(0, [4], 1)]), (36, [(0, [], 1)]), (42, [(0, [4], 1)]), (47, [(0, [], 1)])]
 [8, 9, 12, 17, 18, 20, 22, 23, 25, 26, 34, 42]
 [(3, 19, ([], false, [], [])), (3, 22, ([97, 888888, 600097], false, [], [some 92, some 93, some 95])), (3, 31, ([], false, [], [])), (5, 5, ([], false, [], [])), (8, 10, ([62, 1000001, 1000060, 888888, 888887], false, [], [some 58, some 60])), (9, 12, ([69, 1000006, 1000064, 1000006, 1000071], false, [6], [some 64, some 66, some 71])), (9, 21, ([1000006, 1000109, 1000006, 1000111, 1000011, 1000113, 1000006, 1000118], false, [6], [some 109, some 111, some 113, some 118])), (11, 6, ([], false, [], [])), (18, 20, ([101, 1000006, 1000094, 1000000, 1000096, 1000009, 1000097, 1000096, 1000097, 1000098, 1000006, 1000103], false, [6], [some 94, some 96, some 97, some 98, some 103])), (18, 34, ([157, 1000006, 1000151, 1000018, 1000153, 1000019, 1000154, 1000153, 1000154, 1000155, 1000006, 1000159], false, [6], [some 151, some 153, some 154, some 155, some 159])), (24, 6, ([], false, [], [])), (26, 9, ([], false, [], [])), (26, 11, ([], false, [], [])), (47, 6, ([], false, [], [])), (47, 11, ([], false, [], []))] [8, 9, 12, 17, 18, 20, 22, 23, 25, 26] [(47, 14)] (seq := seq) (ord := [(3, 22, .node 2 3 (.node 2 4 .prog (.leaf [0, 1, 4, 2, 3, 5, 6, 7, 8])) (.node 2 4 (.leaf [0, 1, 3, 2, 4, 5, 6, 7, 8]) (.leaf [0, 1, 3, 4, 2, 5, 6, 7, 8]))), (8, 10, .node 1 4 .prog (.leaf [0, 2, 3, 4, 1, 5, 6])), (9, 12, .node 1 3 .prog (.leaf [0, 2, 3, 1, 4, 5, 6, 7, 8]))]) (sty := [38]) (lz := [4, 5, 7, 8, 9, 10, 11, 12, 13, 14, 15, 16, 17, 18, 19, 20, 21, 22, 23, 24, 25, 26, 27, 28, 34, 35, 36, 38, 39, 40, 41, 42, 43, 44, 45, 46, 47, 48]) (fzr := [(8, 21, [12]), (8, 11, [9])])
noncomputable abbrev E : Sig := ev Tryd.prog G AN
theorem ok3 : fchk Tryd.prog AN 3 = true := by kernel_rfl
theorem ok4 : fchk Tryd.prog AN 4 = true := by kernel_rfl
theorem ok5 : fchk Tryd.prog AN 5 = true := by kernel_rfl
theorem ok7 : fchk Tryd.prog AN 7 = true := by kernel_rfl
theorem ok8 : fchk Tryd.prog AN 8 = true := by kernel_rfl
theorem ok9 : fchk Tryd.prog AN 9 = true := by kernel_rfl
theorem ok10 : fchk Tryd.prog AN 10 = true := by kernel_rfl
theorem ok11 : fchk Tryd.prog AN 11 = true := by kernel_rfl
theorem ok12 : fchk Tryd.prog AN 12 = true := by kernel_rfl
theorem ok13 : fchk Tryd.prog AN 13 = true := by kernel_rfl
theorem ok14 : fchk Tryd.prog AN 14 = true := by kernel_rfl
theorem ok15 : fchk Tryd.prog AN 15 = true := by kernel_rfl
theorem ok16 : fchk Tryd.prog AN 16 = true := by kernel_rfl
theorem ok17 : fchk Tryd.prog AN 17 = true := by kernel_rfl
theorem ok18 : fchk Tryd.prog AN 18 = true := by kernel_rfl
theorem ok19 : fchk Tryd.prog AN 19 = true := by kernel_rfl
theorem ok20 : fchk Tryd.prog AN 20 = true := by kernel_rfl
theorem ok21 : fchk Tryd.prog AN 21 = true := by kernel_rfl
theorem ok22 : fchk Tryd.prog AN 22 = true := by kernel_rfl
theorem ok23 : fchk Tryd.prog AN 23 = true := by kernel_rfl
theorem ok24 : fchk Tryd.prog AN 24 = true := by kernel_rfl
theorem ok25 : fchk Tryd.prog AN 25 = true := by kernel_rfl
theorem ok26 : fchk Tryd.prog AN 26 = true := by kernel_rfl
theorem ok27 : fchk Tryd.prog AN 27 = true := by kernel_rfl
theorem ok28 : fchk Tryd.prog AN 28 = true := by kernel_rfl
theorem ok34 : fchk Tryd.prog AN 34 = true := by kernel_rfl
theorem ok35 : fchk Tryd.prog AN 35 = true := by kernel_rfl
theorem ok36 : fchk Tryd.prog AN 36 = true := by kernel_rfl
theorem ok37 : fchk Tryd.prog AN 37 = true := by kernel_rfl
theorem ok38 : fchk Tryd.prog AN 38 = true := by kernel_rfl
theorem ok39 : fchk Tryd.prog AN 39 = true := by kernel_rfl
theorem ok40 : fchk Tryd.prog AN 40 = true := by kernel_rfl
theorem ok41 : fchk Tryd.prog AN 41 = true := by kernel_rfl
theorem ok42 : fchk Tryd.prog AN 42 = true := by kernel_rfl
theorem ok43 : fchk Tryd.prog AN 43 = true := by kernel_rfl
theorem ok44 : fchk Tryd.prog AN 44 = true := by kernel_rfl
theorem ok45 : fchk Tryd.prog AN 45 = true := by kernel_rfl
theorem ok46 : fchk Tryd.prog AN 46 = true := by kernel_rfl
theorem ok47 : fchk Tryd.prog AN 47 = true := by kernel_rfl
theorem ok48 : fchk Tryd.prog AN 48 = true := by kernel_rfl
theorem evok : EvOk Tryd.prog G AN where
 chk f h := by
  have h : [3, 4, 5, 7, 8, 9, 10, 11, 12, 13, 14, 15, 16, 17, 18, 19, 20, 21, 22, 23, 24, 25, 26, 27, 28, 34, 35, 36, 37, 38, 39, 40, 41, 42, 43, 44, 45, 46, 47, 48].contains f = true := h
  have h := List.contains_iff_mem.1 h
  simp only [List.mem_cons, List.mem_nil_iff, or_false] at h
  rcases h with rfl | rfl | rfl | rfl | rfl | rfl | rfl | rfl | rfl | rfl | rfl | rfl | rfl | rfl | rfl | rfl | rfl | rfl | rfl | rfl | rfl | rfl | rfl | rfl | rfl | rfl | rfl | rfl | rfl | rfl | rfl | rfl | rfl | rfl | rfl | rfl | rfl | rfl | rfl | rfl
  ·exact ok3
  ·exact ok4
  ·exact ok5
  ·exact ok7
  ·exact ok8
  ·exact ok9
  ·exact ok10
  ·exact ok11
  ·exact ok12
  ·exact ok13
  ·exact ok14
  ·exact ok15
  ·exact ok16
  ·exact ok17
  ·exact ok18
  ·exact ok19
  ·exact ok20
  ·exact ok21
  ·exact ok22
  ·exact ok23
  ·exact ok24
  ·exact ok25
  ·exact ok26
  ·exact ok27
  ·exact ok28
  ·exact ok34
  ·exact ok35
  ·exact ok36
  ·exact ok37
  ·exact ok38
  ·exact ok39
  ·exact ok40
  ·exact ok41
  ·exact ok42
  ·exact ok43
  ·exact ok44
  ·exact ok45
  ·exact ok46
  ·exact ok47
  ·exact ok48
 pureG g := by
  by_cases h : g = 0
  ·subst h; exact .inl (by kernel_rfl)
  ·exact .inr (if_neg h)
 mixed := by kernel_rfl
 seq q cap xs φ h hφ := by
  change seq q cap = some (xs, φ) at h
  unfold seq at h
  split at h
  ·split at h
   ·rename_i e; subst e; cases h; obtain ⟨h1, rfl⟩ := hφ; exact chunk_seq _ h1
   ·cases h
  ·cases h
 giv _ _ _ _ _ _ h := by cases h
theorem afz : ∀ f k, AN.fzr f k = fz2 f k [(8, 21, [12]), (8, 11, [9])] := fun _ _ => rfl
theorem acp : ∀ f k, AN.cp f k = has2 f k [(47, 14)] := fun _ _ => rfl
set_option maxRecDepth 100000
theorem anf0 : (AN.bor 5 = false) /\ (AN.pur 5 = true) /\ (AN.ro 5 = false) /\ (AN.frz 5 = false) /\ (AN.fra 5 = false) /\ (AN.res 5 = []) /\ (AN.bor 7 = false) /\ (AN.pur 7 = true) /\ (AN.ro 7 = false) /\ (AN.frz 7 = false) /\ (AN.fra 7 = false) /\ (AN.res 7 = []) /\ (AN.bor 8 = false) /\ (AN.pur 8 = true) /\ (AN.ro 8 = false) /\ (AN.frz 8 = true) /\ (AN.fra 8 = true) /\ (AN.res 8 = [(0, [], 1)]) /\ (AN.bor 9 = false) /\ (AN.pur 9 = true) /\ (AN.ro 9 = false) /\ (AN.frz 9 = true) /\ (AN.fra 9 = true) /\ (AN.res 9 = [(0, [5], 1), (0, [7], 1)]) /\ (AN.bor 11 = false) /\ (AN.pur 11 = false) /\ (AN.ro 11 = true) /\ (AN.frz 11 = false) /\ (AN.fra 11 = false) /\ (AN.res 11 = []) /\ (AN.bor 13 = false) /\ (AN.pur 13 = true) /\ (AN.ro 13 = false) /\ (AN.frz 13 = false) /\ (AN.fra 13 = false) /\ (AN.res 13 = []) /\ (AN.bor 15 = false) /\ (AN.pur 15 = true) /\ (AN.ro 15 = false) /\ (AN.frz 15 = false) /\ (AN.fra 15 = false) /\ (AN.res 15 = []) /\ (AN.bor 22 = false) /\ (AN.pur 22 = true) /\ (AN.ro 22 = false) /\ (AN.frz 22 = true) /\ (AN.fra 22 = true) /\ (AN.res 22 = [(0, [], 1)]) /\ (AN.bor 23 = false) /\ (AN.pur 23 = true) /\ (AN.ro 23 = false) /\ (AN.frz 23 = true) /\ (AN.fra 23 = true) /\ (AN.res 23 = [(0, [], 1)]) /\ (AN.bor 24 = false) /\ (AN.pur 24 = true) /\ (AN.ro 24 = false) /\ (AN.frz 24 = false) /\ (AN.fra 24 = false) /\ (AN.res 24 = []) /\ (AN.bor 25 = false) /\ (AN.pur 25 = true) /\ (AN.ro 25 = false) /\ (AN.frz 25 = true) /\ (AN.fra 25 = true) /\ (AN.res 25 = [(0, [], 1)]) /\ (AN.bor 26 = false) /\ (AN.pur 26 = true) /\ (AN.ro 26 = false) /\ (AN.frz 26 = true) /\ (AN.fra 26 = true) /\ (AN.res 26 = [(0, [], 1)]) /\ (AN.bor 27 = false) /\ (AN.pur 27 = true) /\ (AN.ro 27 = false) /\ (AN.frz 27 = false) /\ (AN.fra 27 = false) /\ (AN.res 27 = []) /\ (AN.bor 28 = false) /\ (AN.pur 28 = true) /\ (AN.ro 28 = false) /\ (AN.frz 28 = false) /\ (AN.fra 28 = false) /\ (AN.res 28 = []) /\ (AN.bor 34 = false) /\ (AN.pur 34 = true) /\ (AN.ro 34 = false) /\ (AN.frz 34 = true) /\ (AN.fra 34 = false) /\ (AN.res 34 = [(0, [4], 1)]) /\ (AN.bor 35 = false) /\ (AN.pur 35 = true) /\ (AN.ro 35 = false) /\ (AN.frz 35 = false) /\ (AN.fra 35 = false) /\ (AN.res 35 = []) /\ (AN.bor 36 = false) /\ (AN.pur 36 = false) /\ (AN.ro 36 = false) /\ (AN.frz 36 = false) /\ (AN.fra 36 = false) /\ (AN.res 36 = [(0, [], 1)]) /\ (AN.bor 37 = false) /\ (AN.pur 37 = false) /\ (AN.ro 37 = false) /\ (AN.frz 37 = false) /\ (AN.fra 37 = false) /\ (AN.res 37 = []) /\ (AN.bor 38 = false) /\ (AN.pur 38 = false) /\ (AN.ro 38 = false) /\ (AN.frz 38 = false) /\ (AN.fra 38 = false) /\ (AN.res 38 = []) /\ (AN.bor 42 = false) /\ (AN.pur 42 = true) /\ (AN.ro 42 = false) /\ (AN.frz 42 = true) /\ (AN.fra 42 = false) /\ (AN.res 42 = [(0, [4], 1)]) /\ (AN.bor 43 = false) /\ (AN.pur 43 = true) /\ (AN.ro 43 = false) /\ (AN.frz 43 = false) /\ (AN.fra 43 = false) /\ (AN.res 43 = []) /\ (AN.bor 44 = false) /\ (AN.pur 44 = true) /\ (AN.ro 44 = false) /\ (AN.frz 44 = false) /\ (AN.fra 44 = false) /\ (AN.res 44 = []) /\ (AN.bor 45 = false) /\ (AN.pur 45 = true) /\ (AN.ro 45 = false) /\ (AN.frz 45 = false) /\ (AN.fra 45 = false) /\ (AN.res 45 = []) /\ (AN.bor 46 = false) /\ (AN.pur 46 = true) /\ (AN.ro 46 = false) /\ (AN.frz 46 = false) /\ (AN.fra 46 = false) /\ (AN.res 46 = []) /\ (AN.bor 47 = false) /\ (AN.pur 47 = false) /\ (AN.ro 47 = false) /\ (AN.frz 47 = false) /\ (AN.fra 47 = false) /\ (AN.res 47 = [(0, [], 1)]) /\ (AN.bor 48 = false) /\ (AN.pur 48 = true) /\ (AN.ro 48 = false) /\ (AN.frz 48 = false) /\ (AN.fra 48 = false) /\ (AN.res 48 = []) /\ (AN.ord 5 5 = .prog) /\ (AN.ord 8 10 = .node 1 4 .prog (.leaf [0, 2, 3, 4, 1, 5, 6])) /\ (AN.ord 9 12 = .node 1 3 .prog (.leaf [0, 2, 3, 1, 4, 5, 6, 7, 8])) /\ (AN.ord 9 21 = .prog) /\ (AN.ord 11 6 = .prog) /\ (AN.ord 24 6 = .prog) /\ (AN.ord 26 9 = .prog) /\ (AN.ord 26 11 = .prog) /\ (AN.ord 47 6 = .prog) /\ (AN.ord 47 11 = .prog) /\ (AN.lz 5 = true) /\ (AN.lz 7 = true) /\ (AN.lz 8 = true) /\ (AN.lz 9 = true) /\ (AN.lz 11 = true) /\ (AN.lz 13 = true) /\ (AN.lz 15 = true) /\ (AN.lz 22 = true) /\ (AN.lz 23 = true) /\ (AN.lz 24 = true) /\ (AN.lz 25 = true) /\ (AN.lz 26 = true) /\ (AN.lz 27 = true) /\ (AN.lz 28 = true) /\ (AN.lz 34 = true) /\ (AN.lz 35 = true) /\ (AN.lz 36 = true) /\ (AN.lz 37 = false) /\ (AN.lz 38 = true) /\ (AN.lz 42 = true) /\ (AN.lz 43 = true) /\ (AN.lz 44 = true) /\ (AN.lz 45 = true) /\ (AN.lz 46 = true) /\ (AN.lz 47 = true) /\ (AN.lz 48 = true) /\ (AN.sty 5 = false) /\ (AN.sty 7 = false) /\ (AN.sty 8 = false) /\ (AN.sty 9 = false) /\ (AN.sty 11 = false) /\ (AN.sty 13 = false) /\ (AN.sty 15 = false) /\ (AN.sty 22 = false) /\ (AN.sty 23 = false) /\ (AN.sty 24 = false) /\ (AN.sty 25 = false) /\ (AN.sty 26 = false) /\ (AN.sty 27 = false) /\ (AN.sty 28 = false) /\ (AN.sty 34 = false) /\ (AN.sty 35 = false) /\ (AN.sty 36 = false) /\ (AN.sty 37 = false) /\ (AN.sty 38 = true) /\ (AN.sty 42 = false) /\ (AN.sty 43 = false) /\ (AN.sty 44 = false) /\ (AN.sty 45 = false) /\ (AN.sty 46 = false) /\ (AN.sty 47 = false) /\ (AN.sty 48 = false) /\ (AN.dr 5 5 = some ([], false, [], [])) /\ (AN.dr 8 10 = some ([62, 1000001, 1000060, 888888, 888887], false, [], [some 58, some 60])) /\ (AN.dr 9 12 = some ([69, 1000006, 1000064, 1000006, 1000071], false, [6], [some 64, some 66, some 71])) /\ (AN.dr 9 21 = some ([1000006, 1000109, 1000006, 1000111, 1000011, 1000113, 1000006, 1000118], false, [6], [some 109, some 111, some 113, some 118])) /\ (AN.dr 11 6 = some ([], false, [], [])) /\ (AN.dr 24 6 = some ([], false, [], [])) /\ (AN.dr 26 9 = some ([], false, [], [])) /\ (AN.dr 26 11 = some ([], false, [], [])) /\ (AN.dr 47 6 = some ([], false, [], [])) /\ (AN.dr 47 11 = some ([], false, [], [])) /\ (AN.keep 8 200020 = some [2, 3, 8]) /\ (AN.fix 8 200020 = []) /\ (AN.frl 8 200020 = false) /\ (AN.keep 8 13 = some [1, 2, 3, 8, 64, 65, 66]) /\ (AN.fix 8 13 = [(4, [], 1)]) /\ (AN.frl 8 13 = false) /\ (AN.keep 9 18 = some [0, 1, 4, 6, 7, 8, 10, 11]) /\ (AN.fix 9 18 = [(0, [], 1), (3, [5], 1), (3, [7], 1)]) /\ (AN.frl 9 18 = false) /\ (AN.keep 9 12 = some [0, 1, 4, 6, 7, 8, 10, 61, 62]) /\ (AN.fix 9 12 = [(0, [], 1), (3, [5], 1), (3, [7], 1)]) /\ (AN.frl 9 12 = false) /\ (AN.keep 11 5 = some [0, 1, 4, 12, 13]) /\ (AN.fix 11 5 = [(0, [], 1), (1, [], 1)]) /\ (AN.frl 11 5 = false) /\ (AN.keep 13 4 = some [8, 9, 10, 17, 18]) /\ (AN.fix 13 4 = []) /\ (AN.frl 13 4 = false) /\ (AN.keep 24 5 = some [0, 1, 4, 12, 13]) /\ (AN.fix 24 5 = [(0, [], 1), (1, [], 1)]) /\ (AN.frl 24 5 = false) /\ (AN.keep 47 10 = some [0, 3, 4, 5]) /\ (AN.fix 47 10 = [(0, [], 1), (2, [], 1)]) /\ (AN.frl 47 10 = false) /\ (AN.keep 47 5 = some [0, 2, 3]) /\ (AN.fix 47 5 = [(0, [], 1), (1, [], 1)]) /\ (AN.frl 47 5 = false) := by and_intros <;> kernel_rfl
theorem anf : type_of% @anf0 /\ type_of% @acp /\ type_of% @afz := ⟨@anf0, @acp, @afz⟩
variable (a v : List AV) (l : HL)
theorem l8_200020 : type_of% (fun xs rest v l => ev_rg1 AN G 8 200020 114 [2, 3, 8] (by kernel_rfl) Tryd.func8 rfl rfl rfl (by kernel_rfl) xs rest v l) :=
 fun xs rest v l => ev_rg1 AN G 8 200020 114 [2, 3, 8] (by kernel_rfl) Tryd.func8 rfl rfl rfl (by kernel_rfl) xs rest v l
theorem l8_1200020 : type_of% (fun v l => ev_rg0 AN G 8 200020 114 [2, 3, 8] (by kernel_rfl) Tryd.func8 rfl rfl rfl (by kernel_rfl) v l) :=
 fun v l => ev_rg0 AN G 8 200020 114 [2, 3, 8] (by kernel_rfl) Tryd.func8 rfl rfl rfl (by kernel_rfl) v l
theorem l8_13 : type_of% (ev_lp AN G 8 13 114 [1, 2, 3, 8, 64, 65, 66] (by kernel_rfl) Tryd.func8 rfl rfl rfl (by kernel_rfl) v l) :=
 ev_lp AN G 8 13 114 [1, 2, 3, 8, 64, 65, 66] (by kernel_rfl) Tryd.func8 rfl rfl rfl (by kernel_rfl) v l
theorem l9_18 : type_of% (ev_lp AN G 9 18 143 [0, 1, 4, 6, 7, 8, 10, 11] (by kernel_rfl) Tryd.func9 rfl rfl rfl (by kernel_rfl) v l) :=
 ev_lp AN G 9 18 143 [0, 1, 4, 6, 7, 8, 10, 11] (by kernel_rfl) Tryd.func9 rfl rfl rfl (by kernel_rfl) v l
theorem l9_12 : type_of% (ev_lp AN G 9 12 143 [0, 1, 4, 6, 7, 8, 10, 61, 62] (by kernel_rfl) Tryd.func9 rfl rfl rfl (by kernel_rfl) v l) :=
 ev_lp AN G 9 12 143 [0, 1, 4, 6, 7, 8, 10, 61, 62] (by kernel_rfl) Tryd.func9 rfl rfl rfl (by kernel_rfl) v l
theorem l11_5 : type_of% (ev_lp AN G 11 5 26 [0, 1, 4, 12, 13] (by kernel_rfl) Tryd.func11 rfl rfl rfl (by kernel_rfl) v l) :=
 ev_lp AN G 11 5 26 [0, 1, 4, 12, 13] (by kernel_rfl) Tryd.func11 rfl rfl rfl (by kernel_rfl) v l
theorem l13_4 : type_of% (ev_lp AN G 13 4 37 [8, 9, 10, 17, 18] (by kernel_rfl) Tryd.func13 rfl rfl rfl (by kernel_rfl) v l) :=
 ev_lp AN G 13 4 37 [8, 9, 10, 17, 18] (by kernel_rfl) Tryd.func13 rfl rfl rfl (by kernel_rfl) v l
theorem l24_5 : type_of% (ev_lp AN G 24 5 26 [0, 1, 4, 12, 13] (by kernel_rfl) Tryd.func24 rfl rfl rfl (by kernel_rfl) v l) :=
 ev_lp AN G 24 5 26 [0, 1, 4, 12, 13] (by kernel_rfl) Tryd.func24 rfl rfl rfl (by kernel_rfl) v l
theorem l47_10 : type_of% (ev_lp AN G 47 10 61 [0, 3, 4, 5] (by kernel_rfl) Tryd.func47 rfl rfl rfl (by kernel_rfl) v l) :=
 ev_lp AN G 47 10 61 [0, 3, 4, 5] (by kernel_rfl) Tryd.func47 rfl rfl rfl (by kernel_rfl) v l
theorem l47_5 : type_of% (ev_lp AN G 47 5 61 [0, 2, 3] (by kernel_rfl) Tryd.func47 rfl rfl rfl (by kernel_rfl) v l) :=
 ev_lp AN G 47 5 61 [0, 2, 3] (by kernel_rfl) Tryd.func47 rfl rfl rfl (by kernel_rfl) v l
theorem e3 : type_of% (ev_fn AN G 3 141 [.tmp 2] (by kernel_rfl) Tryd.func3 rfl rfl rfl a l) :=
 ev_fn AN G 3 141 [.tmp 2] (by kernel_rfl) Tryd.func3 rfl rfl rfl a l
theorem e4 : type_of% (ev_fn AN G 4 184 [.tmp 14] (by kernel_rfl) Tryd.func4 rfl rfl rfl a l) :=
 ev_fn AN G 4 184 [.tmp 14] (by kernel_rfl) Tryd.func4 rfl rfl rfl a l
theorem e5 : type_of% (ev_fn AN G 5 53 [.tmp 2] (by kernel_rfl) Tryd.func5 rfl rfl rfl a l) :=
 ev_fn AN G 5 53 [.tmp 2] (by kernel_rfl) Tryd.func5 rfl rfl rfl a l
theorem e7 : type_of% (ev_fn AN G 7 47 [.tmp 0] (by kernel_rfl) Tryd.func7 rfl rfl rfl a l) :=
 ev_fn AN G 7 47 [.tmp 0] (by kernel_rfl) Tryd.func7 rfl rfl rfl a l
theorem e8 : type_of% (ev_fn AN G 8 114 [.cell 2 24, .cell 3 28] (by kernel_rfl) Tryd.func8 rfl rfl rfl a l) :=
 ev_fn AN G 8 114 [.cell 2 24, .cell 3 28] (by kernel_rfl) Tryd.func8 rfl rfl rfl a l
theorem e9 : type_of% (ev_fn AN G 9 143 [.cell 4 27, .tmp 5] (by kernel_rfl) Tryd.func9 rfl rfl rfl a l) :=
 ev_fn AN G 9 143 [.cell 4 27, .tmp 5] (by kernel_rfl) Tryd.func9 rfl rfl rfl a l
theorem e11 : type_of% (ev_fn AN G 11 26 [.tmp 4] (by kernel_rfl) Tryd.func11 rfl rfl rfl a l) :=
 ev_fn AN G 11 26 [.tmp 4] (by kernel_rfl) Tryd.func11 rfl rfl rfl a l
theorem e13 : type_of% (ev_fn AN G 13 37 [.tmp 8, .tmp 9] (by kernel_rfl) Tryd.func13 rfl rfl rfl a l) :=
 ev_fn AN G 13 37 [.tmp 8, .tmp 9] (by kernel_rfl) Tryd.func13 rfl rfl rfl a l
theorem e15 : type_of% (ev_fn AN G 15 20 [.tmp 2, .tmp 3, .tmp 4, .tmp 5] (by kernel_rfl) Tryd.func15 rfl rfl rfl a l) :=
 ev_fn AN G 15 20 [.tmp 2, .tmp 3, .tmp 4, .tmp 5] (by kernel_rfl) Tryd.func15 rfl rfl rfl a l
theorem e22 : type_of% (ev_fn AN G 22 55 [.tmp 2, .tmp 3] (by kernel_rfl) Tryd.func22 rfl rfl rfl a l) :=
 ev_fn AN G 22 55 [.tmp 2, .tmp 3] (by kernel_rfl) Tryd.func22 rfl rfl rfl a l
theorem e23 : type_of% (ev_fn AN G 23 54 [.tmp 2, .tmp 3] (by kernel_rfl) Tryd.func23 rfl rfl rfl a l) :=
 ev_fn AN G 23 54 [.tmp 2, .tmp 3] (by kernel_rfl) Tryd.func23 rfl rfl rfl a l
theorem e24 : type_of% (ev_fn AN G 24 26 [.tmp 4] (by kernel_rfl) Tryd.func24 rfl rfl rfl a l) :=
 ev_fn AN G 24 26 [.tmp 4] (by kernel_rfl) Tryd.func24 rfl rfl rfl a l
theorem e25 : type_of% (ev_fn AN G 25 40 [.tmp 2] (by kernel_rfl) Tryd.func25 rfl rfl rfl a l) :=
 ev_fn AN G 25 40 [.tmp 2] (by kernel_rfl) Tryd.func25 rfl rfl rfl a l
theorem e26 : type_of% (ev_fn AN G 26 59 [.tmp 2] (by kernel_rfl) Tryd.func26 rfl rfl rfl a l) :=
 ev_fn AN G 26 59 [.tmp 2] (by kernel_rfl) Tryd.func26 rfl rfl rfl a l
theorem e27 : type_of% (ev_fn AN G 27 16 [.tmp 2] (by kernel_rfl) Tryd.func27 rfl rfl rfl a l) :=
 ev_fn AN G 27 16 [.tmp 2] (by kernel_rfl) Tryd.func27 rfl rfl rfl a l
theorem e28 : type_of% (ev_fn AN G 28 14 [.tmp 2] (by kernel_rfl) Tryd.func28 rfl rfl rfl a l) :=
 ev_fn AN G 28 14 [.tmp 2] (by kernel_rfl) Tryd.func28 rfl rfl rfl a l
theorem e34 : type_of% (ev_fn AN G 34 14 [.cell 2 85, .tmp 3] (by kernel_rfl) Tryd.func34 rfl rfl rfl a l) :=
 ev_fn AN G 34 14 [.cell 2 85, .tmp 3] (by kernel_rfl) Tryd.func34 rfl rfl rfl a l
theorem e35 : type_of% (ev_fn AN G 35 105 [.tmp 4] (by kernel_rfl) Tryd.func35 rfl rfl rfl a l) :=
 ev_fn AN G 35 105 [.tmp 4] (by kernel_rfl) Tryd.func35 rfl rfl rfl a l
theorem e36 : type_of% (ev_fn AN G 36 8 [.tmp 2] (by kernel_rfl) Tryd.func36 rfl rfl rfl a l) :=
 ev_fn AN G 36 8 [.tmp 2] (by kernel_rfl) Tryd.func36 rfl rfl rfl a l
theorem e37 : type_of% (ev_fn AN G 37 9 [.tmp 4] (by kernel_rfl) Tryd.func37 rfl rfl rfl a l) :=
 ev_fn AN G 37 9 [.tmp 4] (by kernel_rfl) Tryd.func37 rfl rfl rfl a l
theorem e38 : type_of% (ev_fn AN G 38 18 [.tmp 3] (by kernel_rfl) Tryd.func38 rfl rfl rfl a l) :=
 ev_fn AN G 38 18 [.tmp 3] (by kernel_rfl) Tryd.func38 rfl rfl rfl a l
theorem e42 : type_of% (ev_fn AN G 42 85 [.cell 2 97, .tmp 3] (by kernel_rfl) Tryd.func42 rfl rfl rfl a l) :=
 ev_fn AN G 42 85 [.cell 2 97, .tmp 3] (by kernel_rfl) Tryd.func42 rfl rfl rfl a l
theorem e43 : type_of% (ev_fn AN G 43 13 [.tmp 2] (by kernel_rfl) Tryd.func43 rfl rfl rfl a l) :=
 ev_fn AN G 43 13 [.tmp 2] (by kernel_rfl) Tryd.func43 rfl rfl rfl a l
theorem e44 : type_of% (ev_fn AN G 44 13 [.tmp 2] (by kernel_rfl) Tryd.func44 rfl rfl rfl a l) :=
 ev_fn AN G 44 13 [.tmp 2] (by kernel_rfl) Tryd.func44 rfl rfl rfl a l
theorem e45 : type_of% (ev_fn AN G 45 21 [.tmp 2] (by kernel_rfl) Tryd.func45 rfl rfl rfl a l) :=
 ev_fn AN G 45 21 [.tmp 2] (by kernel_rfl) Tryd.func45 rfl rfl rfl a l
theorem e46 : type_of% (ev_fn AN G 46 9 [.tmp 2] (by kernel_rfl) Tryd.func46 rfl rfl rfl a l) :=
 ev_fn AN G 46 9 [.tmp 2] (by kernel_rfl) Tryd.func46 rfl rfl rfl a l
theorem e47 : type_of% (ev_fn AN G 47 61 [.tmp 2] (by kernel_rfl) Tryd.func47 rfl rfl rfl a l) :=
 ev_fn AN G 47 61 [.tmp 2] (by kernel_rfl) Tryd.func47 rfl rfl rfl a l
theorem e48 : type_of% (ev_fn AN G 48 9 [.tmp 2] (by kernel_rfl) Tryd.func48 rfl rfl rfl a l) :=
 ev_fn AN G 48 9 [.tmp 2] (by kernel_rfl) Tryd.func48 rfl rfl rfl a l
end Go.Proofs.YtfdipcpmfoidoaaDoor

/- Pack, Unpack, the program's and the reference's. -/
namespace Go.Proofs.YtfdipcpmfoidoaaDoor
open Go Go.Aw
set_option linter.unusedSimpArgs false
set_option linter.unusedVariables false
set_option maxRecDepth 100000
set_option maxHeartbeats 40000000
def byt (n : Int) : Bool := decide (0 ≤ n) && decide (n ≤ 255)
theorem byt_true {n : Int} (h : byt n = true) : 0 ≤ n /\ n ≤ 255 := by
 unfold byt at h
 rw [Bool.and_eq_true] at h
 exact ⟨of_decide_eq_true h.1, of_decide_eq_true h.2⟩
theorem byt_false {n : Int} (h : byt n = false) : n < 0 \/ 255 < n := by
 by_cases h1 : n < 0
 ·exact .inl h1
 ·refine .inr ?_
  by_cases h2 : n ≤ 255
  ·unfold byt at h
   rw [decide_eq_true (by omega), decide_eq_true h2] at h
   cases h
  ·omega
def packN (a b c d : Int) : Int := a + 256 * (b + 256 * (c + 256 * d))
def packM (a b c d : Int) : AV := if (byt a && byt b && byt c && byt d) = true then .tup [.int .u32 (packN a b c d), .int .i64 0] else .tup [.int .u32 0, .int .i64 3]
theorem u32id {y : Int} (h0 : 0 ≤ y) (h1 : y < 4294967296) : IntKind.u32.wrap y = y := by
 show y % 4294967296 = y
 exact Int.emod_eq_of_lt h0 h1
theorem u32nat {y : Int} (h0 : 0 ≤ y) (h1 : y < 4294967296) : (BitVec.ofInt IntKind.u32.bits y).toNat = y.toNat := by
 rw [BitVec.toNat_ofInt]
 show (y % ((2 ^ 32 : Nat) : Int)).toNat = y.toNat
 rw [Int.emod_eq_of_lt h0 (by omega)]
theorem and255 {y : Int} (h0 : 0 ≤ y) (h1 : y < 4294967296) : bitsI .and .u32 y 255 = y % 256 := by
 unfold bitsI
 simp only
 rw [BitVec.toNat_and]
 have e2 : (BitVec.ofInt IntKind.u32.bits 255).toNat = 2 ^ 8 - 1 := by decide
 rw [u32nat h0 h1, e2, Nat.and_two_pow_sub_one_eq_mod]
 rw [u32id (by omega) (by omega)]
 omega
theorem or32 {x y : Int} (k : Nat) (h0 : 0 ≤ x) (h1 : x < 2 ^ k) (h2 : 0 ≤ y) (h3 : y * 2 ^ k + x < 4294967296) : bitsI .or .u32 x (y * 2 ^ k) = x + y * 2 ^ k := by
 have hp : (0 : Int) < 2 ^ k := by have := Nat.two_pow_pos k; exact_mod_cast this
 have hy : 0 ≤ y * 2 ^ k := Int.mul_nonneg h2 (Int.le_of_lt hp)
 unfold bitsI
 simp only
 rw [BitVec.toNat_or, u32nat h0 (by omega), u32nat hy (by omega)]
 obtain ⟨a, rfl⟩ := Int.eq_ofNat_of_zero_le h0
 obtain ⟨b, rfl⟩ := Int.eq_ofNat_of_zero_le h2
 have e1 : ((b : Int) * 2 ^ k).toNat = 2 ^ k * b := by
  have : (b : Int) * 2 ^ k = ((2 ^ k * b : Nat) : Int) := by rw [Nat.mul_comm]; simp
  rw [this, Int.toNat_natCast]
 have hlt : a < 2 ^ k := by
  have : ((2 ^ k : Nat) : Int) = 2 ^ k := by simp
  omega
 rw [e1, Int.toNat_natCast, Nat.or_comm, <- Nat.two_pow_add_eq_or_of_lt hlt b]
 have e2 : (((2 ^ k * b + a : Nat)) : Int) = (b : Int) * 2 ^ k + a := by rw [Nat.mul_comm]; simp
 rw [e2, u32id (by omega) (by omega)]
 omega
theorem unpack_ev {w : Int} (h0 : 0 ≤ w) (h1 : w < 4294967296) : E.F 15 [.int .u32 w] [] = some ((.tup [.int .i64 (w % 256), .int .i64 (w / 256 % 256), .int .i64 (w / 65536 % 256), .int .i64 (w / 16777216)], []), True) := by
 rw [e15]
 have f1 : w.fdiv (2 ^ min 8 IntKind.u32.bits) = w / 256 := by
  show w.fdiv 256 = _
  exact Int.fdiv_eq_ediv_of_nonneg _ (by omega)
 have f2 : w.fdiv (2 ^ min 16 IntKind.u32.bits) = w / 65536 := by
  show w.fdiv 65536 = _
  exact Int.fdiv_eq_ediv_of_nonneg _ (by omega)
 have f3 : w.fdiv (2 ^ min 24 IntKind.u32.bits) = w / 16777216 := by
  show w.fdiv 16777216 = _
  exact Int.fdiv_eq_ediv_of_nonneg _ (by omega)
 have a1 := and255 h0 h1
 have a2 := and255 (y := w / 256) (by omega) (by omega)
 have a3 := and255 (y := w / 65536) (by omega) (by omega)
 have w4 : IntKind.i64.wrap (w / 16777216) = w / 16777216 := wrap_id (by omega) (by omega)
 have w5 : IntKind.i64.wrap (w % 256) = w % 256 := wrap_id (by omega) (by omega)
 have w6 : IntKind.i64.wrap (w / 256 % 256) = w / 256 % 256 := wrap_id (by omega) (by omega)
 have w7 : IntKind.i64.wrap (w / 65536 % 256) = w / 65536 % 256 := wrap_id (by omega) (by omega)
 simp (maxSteps := 100000000) only [ivc, rgb, anf, vop, nilR, eq_self, Nat.reduceEqDiff, Nat.reduceLT, Nat.reduceLeDiff, Nat.reduceBEq, Int.reduceLE, Int.reduceToNat, reduceCtorEq, ↓reduceIte, tyb, f1, f2, f3, a1, a2, a3, w4, w5, w6, w7]
theorem pack_ev {a b c d : Int} : E.F 13 [.int .i64 a, .int .i64 b, .int .i64 c, .int .i64 d] [] = some ((packM a b c d, []), True) := by
 rw [e13]
 unfold packM
 cases ha : byt a with
 | false =>
  rcases byt_false ha with h | h
  ·simp (maxSteps := 100000000) only [ivc, rgb, anf, vop, nilR, eq_self, Nat.reduceEqDiff, Nat.reduceLT, Nat.reduceLeDiff, Nat.reduceAdd, Nat.reduceBEq, Int.reduceLT, Int.reduceLE, Int.reduceToNat, reduceCtorEq, ↓reduceIte, tyb, l13_4, h]
  ·have h2 : ¬ a < 0 := by omega
   simp (maxSteps := 100000000) only [ivc, rgb, anf, vop, nilR, eq_self, Nat.reduceEqDiff, Nat.reduceLT, Nat.reduceLeDiff, Nat.reduceAdd, Nat.reduceBEq, Int.reduceLT, Int.reduceLE, Int.reduceToNat, reduceCtorEq, ↓reduceIte, tyb, l13_4, h, h2]
 | true =>
 obtain ⟨a1, a2⟩ := byt_true ha
 have a3 : ¬ a < 0 := by omega
 have a4 : ¬ 255 < a := by omega
 have a5 := u32id (y := a) (by omega) (by omega)
 cases hb : byt b with
 | false =>
  rcases byt_false hb with h | h
  ·simp (maxSteps := 100000000) only [ivc, rgb, anf, vop, nilR, eq_self, Nat.reduceEqDiff, Nat.reduceLT, Nat.reduceLeDiff, Nat.reduceAdd, Nat.reduceBEq, Int.reduceLT, Int.reduceLE, Int.reduceNeg, Int.reduceToNat, Int.reduceAdd, Int.reduceMul, reduceCtorEq, ↓reduceIte, tyb, l13_4, a3, a4, h]
  ·have h2 : ¬ b < 0 := by omega
   simp (maxSteps := 100000000) only [ivc, rgb, anf, vop, nilR, eq_self, Nat.reduceEqDiff, Nat.reduceLT, Nat.reduceLeDiff, Nat.reduceAdd, Nat.reduceBEq, Int.reduceLT, Int.reduceLE, Int.reduceNeg, Int.reduceToNat, Int.reduceAdd, Int.reduceMul, reduceCtorEq, ↓reduceIte, tyb, l13_4, a3, a4, h, h2]
 | true =>
 obtain ⟨b1, b2⟩ := byt_true hb
 have b3 : ¬ b < 0 := by omega
 have b4 : ¬ 255 < b := by omega
 cases hc : byt c with
 | false =>
  rcases byt_false hc with h | h
  ·simp (maxSteps := 100000000) only [ivc, rgb, anf, vop, nilR, eq_self, Nat.reduceEqDiff, Nat.reduceLT, Nat.reduceLeDiff, Nat.reduceAdd, Nat.reduceBEq, Int.reduceLT, Int.reduceLE, Int.reduceNeg, Int.reduceToNat, Int.reduceAdd, Int.reduceMul, reduceCtorEq, ↓reduceIte, tyb, l13_4, a3, a4, b3, b4, h]
  ·have h2 : ¬ c < 0 := by omega
   simp (maxSteps := 100000000) only [ivc, rgb, anf, vop, nilR, eq_self, Nat.reduceEqDiff, Nat.reduceLT, Nat.reduceLeDiff, Nat.reduceAdd, Nat.reduceBEq, Int.reduceLT, Int.reduceLE, Int.reduceNeg, Int.reduceToNat, Int.reduceAdd, Int.reduceMul, reduceCtorEq, ↓reduceIte, tyb, l13_4, a3, a4, b3, b4, h, h2]
 | true =>
 obtain ⟨c1, c2⟩ := byt_true hc
 have c3 : ¬ c < 0 := by omega
 have c4 : ¬ 255 < c := by omega
 cases hd : byt d with
 | false =>
  rcases byt_false hd with h | h
  ·simp (maxSteps := 100000000) only [ivc, rgb, anf, vop, nilR, eq_self, Nat.reduceEqDiff, Nat.reduceLT, Nat.reduceLeDiff, Nat.reduceAdd, Nat.reduceBEq, Int.reduceLT, Int.reduceLE, Int.reduceNeg, Int.reduceToNat, Int.reduceAdd, Int.reduceMul, reduceCtorEq, ↓reduceIte, tyb, l13_4, a3, a4, b3, b4, c3, c4, h]
  ·have h2 : ¬ d < 0 := by omega
   simp (maxSteps := 100000000) only [ivc, rgb, anf, vop, nilR, eq_self, Nat.reduceEqDiff, Nat.reduceLT, Nat.reduceLeDiff, Nat.reduceAdd, Nat.reduceBEq, Int.reduceLT, Int.reduceLE, Int.reduceNeg, Int.reduceToNat, Int.reduceAdd, Int.reduceMul, reduceCtorEq, ↓reduceIte, tyb, l13_4, a3, a4, b3, b4, c3, c4, h, h2]
 | true =>
 obtain ⟨d1, d2⟩ := byt_true hd
 have d3 : ¬ d < 0 := by omega
 have d4 : ¬ 255 < d := by omega
 simp (maxSteps := 100000000) only [ivc, rgb, anf, vop, nilR, eq_self, Nat.reduceEqDiff, Nat.reduceLT, Nat.reduceLeDiff, Nat.reduceAdd, Nat.reduceBEq, Int.reduceLT, Int.reduceLE, Int.reduceNeg, Int.reduceToNat, Int.reduceAdd, Int.reduceMul, reduceCtorEq, ↓reduceIte, tyb, l13_4, a3, a4, b3, b4, c3, c4, d3, d4]
 have w1 := u32id (y := a) (by omega) (by omega)
 have w2 := u32id (y := b) (by omega) (by omega)
 have w3 := u32id (y := c) (by omega) (by omega)
 have w4 := u32id (y := d) (by omega) (by omega)
 have m0 : 2 ^ min 0 IntKind.u32.bits = (2 ^ 0 : Int) := rfl
 have m1 : 2 ^ min 8 IntKind.u32.bits = (2 ^ 8 : Int) := rfl
 have m2 : 2 ^ min 16 IntKind.u32.bits = (2 ^ 16 : Int) := rfl
 have m3 : 2 ^ min 24 IntKind.u32.bits = (2 ^ 24 : Int) := rfl
 rw [w1, w2, w3, w4, m0, m1, m2, m3]
 have z0 := u32id (y := a * 2 ^ 0) (by omega) (by omega)
 have z1 := u32id (y := b * 2 ^ 8) (by omega) (by omega)
 have z2 := u32id (y := c * 2 ^ 16) (by omega) (by omega)
 have z3 := u32id (y := d * 2 ^ 24) (by omega) (by omega)
 rw [z0, z1, z2, z3]
 have o0 := or32 (x := 0) (y := a) 0 (by omega) (by omega) (by omega) (by omega)
 rw [o0]
 have o1 := or32 (x := 0 + a * 2 ^ 0) (y := b) 8 (by omega) (by omega) (by omega) (by omega)
 rw [o1]
 have o2 := or32 (x := 0 + a * 2 ^ 0 + b * 2 ^ 8) (y := c) 16 (by omega) (by omega) (by omega) (by omega)
 rw [o2]
 have o3 := or32 (x := 0 + a * 2 ^ 0 + b * 2 ^ 8 + c * 2 ^ 16) (y := d) 24 (by omega) (by omega) (by omega) (by omega)
 rw [o3]
 have e : 0 + a * 2 ^ 0 + b * 2 ^ 8 + c * 2 ^ 16 + d * 2 ^ 24 = packN a b c d := by unfold packN; omega
 rw [e]
def opZ : OpRow := ⟨0, 0, 0, 0, [], false, 0, false, false⟩
def opIn (n : Int) : Bool := decide (0 ≤ n) && decide (n < 24)
def rowW (n : Int) : OpRow := if opIn n = true then rowsT.getD n.toNat opZ else opZ
theorem opIn_true {n : Int} (h : opIn n = true) : 0 ≤ n /\ n < 24 := by
 unfold opIn at h
 rw [Bool.and_eq_true] at h
 exact ⟨of_decide_eq_true h.1, of_decide_eq_true h.2⟩
theorem opIn_false {n : Int} (h : opIn n = false) : n < 0 \/ 24 ≤ n := by
 by_cases h1 : n < 0
 ·exact .inl h1
 ·refine .inr ?_
  by_cases h2 : n < 24
  ·unfold opIn at h
   rw [decide_eq_true (by omega), decide_eq_true h2] at h
   cases h
  ·omega
theorem tab_get : ∀ i, i < 24 -> (tabA.drop (i * 9)).take 9 = rowA (rowsT.getD i opZ) := fun i h => by
 have : i = 0 \/ i = 1 \/ i = 2 \/ i = 3 \/ i = 4 \/ i = 5 \/ i = 6 \/ i = 7 \/ i = 8 \/ i = 9 \/ i = 10 \/ i = 11 \/ i = 12 \/ i = 13 \/ i = 14 \/ i = 15 \/ i = 16 \/ i = 17 \/ i = 18 \/ i = 19 \/ i = 20 \/ i = 21 \/ i = 22 \/ i = 23 := by omega
 rcases this with rfl | rfl | rfl | rfl | rfl | rfl | rfl | rfl | rfl | rfl | rfl | rfl | rfl | rfl | rfl | rfl | rfl | rfl | rfl | rfl | rfl | rfl | rfl | rfl <;> rfl
theorem g0 : G 0 = .rop (.agg tabA) 0 := rfl
theorem row_ev {n : Int} : E.F 34 [.int .i64 n] [] = some ((.tup [.agg (rowA (rowW n)), .bool (opIn n)], []), True) := by
 rw [e34]
 unfold rowW
 cases h : opIn n with
 | false =>
  rcases opIn_false h with h1 | h1
  ·simp (maxSteps := 100000000) only [ivc, rgb, anf, vop, nilR, salloc, eq_self, Nat.reduceEqDiff, Nat.reduceLT, Nat.reduceLeDiff, Nat.reduceAdd, Nat.reduceBEq, reduceCtorEq, ↓reduceIte, tyb, h1, rowA, opZ]
  ·have h2 : ¬ n < 0 := by omega
   simp (maxSteps := 100000000) only [ivc, rgb, anf, vop, nilR, salloc, eq_self, Nat.reduceEqDiff, Nat.reduceLT, Nat.reduceLeDiff, Nat.reduceAdd, Nat.reduceBEq, reduceCtorEq, ↓reduceIte, tyb, h1, h2, rowA, opZ]
 | true =>
  obtain ⟨h1, h2⟩ := opIn_true h
  have h3 : ¬ n < 0 := by omega
  have h4 : ¬ 24 ≤ n := by omega
  have t := tab_get n.toNat (by omega)
  have t2 : tabA.length = 216 := rfl
  have t3 : n.toNat * 9 + 9 ≤ 216 := by omega
  simp (maxSteps := 100000000) only [ivc, rgb, anf, nilR, salloc, eq_self, Nat.reduceEqDiff, Nat.reduceLT, Nat.reduceLeDiff, Nat.reduceAdd, Nat.reduceBEq, reduceCtorEq, ↓reduceIte, tyb, h1, h2, h3, h4, g0, t, t2, t3, rowA]
structure Shp where
 a : Int
 b : Int
 c : Int
 w : Bool
 x : List Int
 le : Int
def shT : List Shp :=
 [⟨3, 8, 0, true, [], 0⟩,
  ⟨3, 3, 0, false, [], 0⟩,
  ⟨2, 1, 4, false, [], 0⟩,
  ⟨1, 2, 4, false, [], 0⟩,
  ⟨2, 5, 0, false, [], 2⟩,
  ⟨2, 2, 6, false, [], 0⟩,
  ⟨2, 9, 0, true, [], 0⟩,
  ⟨2, 10, 0, true, [], 0⟩,
  ⟨2, 10, 0, true, [], 0⟩,
  ⟨2, 2, 0, false, [9], 0⟩,
  ⟨2, 2, 2, false, [9], 0⟩,
  ⟨2, 5, 7, false, [12], 1⟩,
  ⟨2, 5, 7, false, [13], 0⟩,
  ⟨2, 5, 7, false, [9], 1⟩,
  ⟨2, 5, 0, false, [10, 9], 0⟩,
  ⟨0, 5, 0, false, [9], 1⟩,
  ⟨1, 2, 2, false, [], 0⟩,
  ⟨1, 2, 0, false, [14], 0⟩,
  ⟨0, 11, 0, true, [], 0⟩,
  ⟨1, 11, 0, true, [], 0⟩,
  ⟨2, 0, 0, false, [], 0⟩,
  ⟨0, 0, 0, false, [], 0⟩,
  ⟨0, 0, 0, false, [], 0⟩,
  ⟨1, 1, 1, false, [9], 0⟩]
def shZ : Shp := ⟨0, 0, 0, false, [], 0⟩
def shA (r : Shp) : List AV := [.int .i64 r.a, .int .i64 r.b, .int .i64 r.c, .bool r.w, .ro 1 (r.x.map (.int .i64)), .int .i64 r.le]
def shW (n : Int) : Shp := if opIn n = true then shT.getD n.toNat shZ else shZ
theorem shape_ev {n : Int} : E.F 42 [.int .i64 n] [] = some ((.tup [.agg (shA (shW n)), .bool (opIn n)], []), True) := by
 rw [e42]
 unfold shW
 cases h : opIn n with
 | true =>
  obtain ⟨h1, h2⟩ := opIn_true h
  have : n = 0 \/ n = 1 \/ n = 2 \/ n = 3 \/ n = 4 \/ n = 5 \/ n = 6 \/ n = 7 \/ n = 8 \/ n = 9 \/ n = 10 \/ n = 11 \/ n = 12 \/ n = 13 \/ n = 14 \/ n = 15 \/ n = 16 \/ n = 17 \/ n = 18 \/ n = 19 \/ n = 20 \/ n = 21 \/ n = 22 \/ n = 23 := by omega
  clear h h1 h2
  rcases this with rfl | rfl | rfl | rfl | rfl | rfl | rfl | rfl | rfl | rfl | rfl | rfl | rfl | rfl | rfl | rfl | rfl | rfl | rfl | rfl | rfl | rfl | rfl | rfl <;> simp (maxSteps := 100000000) only [ivc, rgb, anf, vop, nilR, salloc, eq_self, Nat.reduceEqDiff, Nat.reduceLT, Nat.reduceLeDiff, Nat.reduceAdd, Nat.reduceBEq, Int.reduceToNat, Int.reduceBEq, reduceCtorEq, ↓reduceIte, tyb] <;> rfl
 | false =>
  have h0 := opIn_false h
  clear h
  have k0 : (n == 0) = false := beq_eq_false_iff_ne.2 (by omega)
  have k1 : (n == 1) = false := beq_eq_false_iff_ne.2 (by omega)
  have k2 : (n == 2) = false := beq_eq_false_iff_ne.2 (by omega)
  have k3 : (n == 3) = false := beq_eq_false_iff_ne.2 (by omega)
  have k4 : (n == 4) = false := beq_eq_false_iff_ne.2 (by omega)
  have k5 : (n == 5) = false := beq_eq_false_iff_ne.2 (by omega)
  have k6 : (n == 6) = false := beq_eq_false_iff_ne.2 (by omega)
  have k7 : (n == 7) = false := beq_eq_false_iff_ne.2 (by omega)
  have k8 : (n == 8) = false := beq_eq_false_iff_ne.2 (by omega)
  have k9 : (n == 9) = false := beq_eq_false_iff_ne.2 (by omega)
  have k10 : (n == 10) = false := beq_eq_false_iff_ne.2 (by omega)
  have k11 : (n == 11) = false := beq_eq_false_iff_ne.2 (by omega)
  have k12 : (n == 12) = false := beq_eq_false_iff_ne.2 (by omega)
  have k13 : (n == 13) = false := beq_eq_false_iff_ne.2 (by omega)
  have k14 : (n == 14) = false := beq_eq_false_iff_ne.2 (by omega)
  have k15 : (n == 15) = false := beq_eq_false_iff_ne.2 (by omega)
  have k16 : (n == 16) = false := beq_eq_false_iff_ne.2 (by omega)
  have k17 : (n == 17) = false := beq_eq_false_iff_ne.2 (by omega)
  have k18 : (n == 18) = false := beq_eq_false_iff_ne.2 (by omega)
  have k19 : (n == 19) = false := beq_eq_false_iff_ne.2 (by omega)
  have k20 : (n == 20) = false := beq_eq_false_iff_ne.2 (by omega)
  have k21 : (n == 21) = false := beq_eq_false_iff_ne.2 (by omega)
  have k22 : (n == 22) = false := beq_eq_false_iff_ne.2 (by omega)
  have k23 : (n == 23) = false := beq_eq_false_iff_ne.2 (by omega)
  simp (maxSteps := 100000000) only [ivc, rgb, anf, vop, nilR, salloc, eq_self, Nat.reduceEqDiff, Nat.reduceLT, Nat.reduceLeDiff, Nat.reduceAdd, Nat.reduceBEq, reduceCtorEq, ↓reduceIte, tyb, k0, k1, k2, k3, k4, k5, k6, k7, k8, k9, k10, k11, k12, k13, k14, k15, k16, k17, k18, k19, k20, k21, k22, k23]
  rfl
structure Ins where
 at_ : Int
 op : Int
 a : Int
 b : Int
 c : Int
 x : List Int
 ra : Int
 l : List Int
 n : Int
def insA (i : Ins) : List AV := [.int .i64 i.at_, .int .i64 i.op, .int .i64 i.a, .int .i64 i.b, .int .i64 i.c, .ro 1 (i.x.map (.int .i64)), .int .i64 i.ra, .ro 1 (i.l.map (.int .i64)), .int .i64 i.n]
def formedM (i : Ins) (r : OpRow) : Bool :=
 if ((i.x.length : Int) != (r.x.length : Int)) || (!r.li && decide ((0 : Int) < i.l.length)) || (r.li && (((i.l.length : Int) != i.b) || decide (i.b < r.le) || decide (60 < i.b))) then false
 else if ((r.a == 0) && (i.a != 0)) || ((r.w == 0) && (((r.b == 0) && (i.b != 0)) || ((r.c == 0) && (i.c != 0)))) then false
 else if r.c != 7 then i.ra == -1
 else (i.c == 1) || ((i.c == 0) && (i.ra == -1))
theorem some_eq {x y : AV × HL} {φ : Prop} (h : x = y) (hφ : φ) : (some (x, φ) : Option ((AV × HL) × Prop)) = some (y, True) := by rw [h, eq_true hφ]
theorem formed_ev {i : Ins} {r : OpRow} : E.F 35 [.agg (insA i), .agg (rowA r)] [] = some ((.bool (formedM i r), []), True) := by
 rw [e35]
 obtain ⟨at_, op, a, b, c, x, ra, l, n⟩ := i
 obtain ⟨ra', rb, rc, rw, rx, rli, rle, rwr, rsa⟩ := r
 simp (maxSteps := 100000000) only [ivc, rgb, anf, vop, vlen, vbuiltin, nilR, salloc, eq_self, Nat.reduceEqDiff, Nat.reduceLT, Nat.reduceLeDiff, Nat.reduceAdd, Nat.reduceBEq, Int.reduceNeg, reduceCtorEq, ↓reduceIte, tyb, insA, rowA, formedM]
 generalize ((x.length : Int) != (rx.length : Int)) = p1
 generalize decide ((0 : Int) < l.length) = p2
 generalize ((l.length : Int) != b) = p3
 generalize decide (b < rle) = p4
 generalize decide (60 < b) = p5
 generalize (ra' == 0) = p6
 generalize (a != 0) = p7
 generalize (rw == 0) = p8
 generalize (rb == 0) = p9
 generalize (b != 0) = p10
 generalize (rc == 0) = p11
 generalize (c != 0) = p12
 generalize (rc != 7) = p13
 generalize (c == 1) = p14
 generalize (c == 0) = p15
 generalize (ra == -1) = p16
 split
 ·refine some_eq rfl ?_
  and_intros <;> (intros; first | (simp_all; done) | (cases p9 <;> cases p10 <;> simp_all))
 split
 ·refine some_eq rfl ?_
  and_intros <;> (intros; first | (simp_all; done) | (cases p9 <;> cases p10 <;> simp_all))
 split
 ·refine some_eq rfl ?_
  and_intros <;> (intros; first | (simp_all; done) | (cases p9 <;> cases p10 <;> simp_all))
 ·refine some_eq rfl ?_
  and_intros <;> (intros; first | (simp_all; done) | (cases p9 <;> cases p10 <;> simp_all))
def iR (l : List Int) : Ob := ⟨false, 1, l.map (AV.int .i64)⟩
def uR (l : List Int) : Ob := ⟨false, 1, l.map (AV.int .u32)⟩
theorem getD_map {α : Type} {f : α -> AV} {l : List α} {i : Nat} {x : α} (h : l[i]? = some x) : (l.map f).getD i .junk = f x := by
 simp [List.getD_eq_getElem?_getD, h]
theorem clone_ev {xs : List Int} (h : xs.length ≤ 1000000) : E.F 36 [.ro 1 (xs.map (.int .i64))] [] = some ((.sl 200000 0 xs.length, [(200000, iR xs)]), True) := by
 rw [e36]
 by_cases h0 : xs.length = 0
 ·obtain rfl := List.eq_nil_of_length_eq_zero h0
  simp (maxSteps := 100000000) only [ivc, rgb, anf, nilR, salloc, sappend, eq_self, Nat.reduceEqDiff, Nat.reduceLT, Nat.reduceLeDiff, Nat.reduceAdd, Nat.reduceBEq, reduceCtorEq, ↓reduceIte, tyb, iR]
 ·simp (maxSteps := 100000000) only [ivc, rgb, anf, nilR, salloc, sappend, eq_self, Nat.reduceEqDiff, Nat.reduceLT, Nat.reduceLeDiff, Nat.reduceAdd, Nat.reduceBEq, reduceCtorEq, ↓reduceIte, tyb, iR, h0]
  exact some_true (by omega)
theorem chunkf_ev {es : List AV} : E.F 37 [.ro 1 es, .int .i64 4] [] = some ((.fn (.func 61) [] [.ptr 200000 0 0, .ptr 200001 0 0], [(200000, ⟨true, 1, [.ro 1 es]⟩), (200001, ⟨true, 1, [.int .i64 4]⟩)]), True) := by
 rw [e37]
 simp (maxSteps := 100000000) only [ivc, rgb, anf, vop, nilR, salloc, eq_self, Nat.reduceEqDiff, Nat.reduceLT, Nat.reduceLeDiff, Nat.reduceAdd, Nat.reduceBEq, Int.reduceLT, reduceCtorEq, ↓reduceIte, tyb]
def wok (n : Int) : Bool := decide (0 ≤ n) && decide (n ≤ 2147483647)
theorem wok_true {n : Int} (h : wok n = true) : 0 ≤ n /\ n ≤ 2147483647 := by
 unfold wok at h
 rw [Bool.and_eq_true] at h
 exact ⟨of_decide_eq_true h.1, of_decide_eq_true h.2⟩
theorem wok_false {n : Int} (h : wok n = false) : n < 0 \/ 2147483647 < n := by
 by_cases h1 : n < 0
 ·exact .inl h1
 ·refine .inr ?_
  by_cases h2 : n ≤ 2147483647
  ·unfold wok at h
   rw [decide_eq_true (by omega), decide_eq_true h2] at h
   cases h
  ·omega
def w8H (ia : List AV) (r e : AV) (ws : List Int) : HL := [(60000, ⟨true, 9, [.agg ia]⟩), (60001, ⟨true, 1, [r]⟩), (60002, ⟨true, 1, [e]⟩), (60003, ⟨true, 1, [.sl 60004 0 ws.length]⟩), (60004, uR ws)]
def w8V (xs : List Int) (k : Int) : List AV := [.ptr 60000 0 0, .ptr 60001 0 0, .ptr 60002 0 0, .ptr 60003 0 0, .ro 1 (xs.map (.int .i64)), .int .i64 xs.length, .int .i64 k]
theorem idx_ok {i : Ins} {xs : List Int} (hx : xs.length ≤ 1000) : ∀ (r m ws : List Int), xs = m ++ r -> ws.length ≤ 1000 + m.length -> r.all wok = true ->
  E.L 8 13 (w8V xs m.length) (w8H (insA i) .nilsl (.int .i64 0) ws) = some ((.exit 0, w8V xs xs.length, w8H (insA i) .nilsl (.int .i64 0) (ws ++ r)), True) := by
 intro r
 induction r with
 | nil =>
  intro m ws h hw _
  rw [List.append_nil] at h
  subst h
  have q : ((xs.length : Int) < xs.length) = False := eq_false (by omega)
  simp only [w8V, w8H]
  rw [l8_13]
  simp (maxSteps := 100000000) only [ivc, rgb, anf, nilR, eq_self, Nat.reduceEqDiff, Nat.reduceLT, Nat.reduceLeDiff, Nat.reduceAdd, Nat.reduceBEq, reduceCtorEq, ↓reduceIte, tyb, insA, uR, q]
 | cons n r ih =>
  intro m ws h hw ha
  simp only [List.all_cons, Bool.and_eq_true] at ha
  obtain ⟨n1, n2⟩ := wok_true ha.1
  have hn : m.length + (r.length + 1) = xs.length := by rw [h]; simp
  have hi' : ((m.length : Int) < xs.length) = True := eq_true (by omega)
  have hg := getD_map (f := AV.int .i64) (show xs[m.length]? = some n by rw [h]; simp)
  have hw1 : IntKind.i64.wrap ((m.length : Int) + 1) = m.length + 1 := wrap_id (by omega) (by omega)
  have hc : (0 ≤ (m.length : Int) /\ (m.length : Int) < xs.length) = True := eq_true (by omega)
  have a1 : ¬ n < 0 := by omega
  have a2 : ¬ 2147483647 < n := by omega
  have a3 := u32id (y := n) (by omega) (by omega)
  have ih' := ih (m ++ [n]) (ws ++ [n]) (by simp [h]) (by simp; omega) ha.2
  simp only [w8V, w8H, List.append_assoc, List.length_append, List.length_cons, List.length_nil, Nat.zero_add, Int.natCast_add, Int.cast_ofNat_Int, uR, List.map_append, List.map_cons, List.map_nil, List.cons_append, List.nil_append, insA] at ih' ⊢
  rw [l8_13]
  simp (maxSteps := 100000000) only [ivc, rgb, anf, vop, nilR, salloc, sappend, eq_self, Nat.reduceEqDiff, Nat.reduceLT, Nat.reduceLeDiff, Nat.reduceAdd, Nat.reduceBEq, reduceCtorEq, ↓reduceIte, tyb, hi', hg, hw1, a1, a2, a3, ih']
  exact some_true (by omega)
theorem idx_bad {i : Ins} {xs : List Int} (hx : xs.length ≤ 1000) {n : Int} {q : List Int} (hb : wok n = false) : ∀ (p m ws : List Int), xs = m ++ (p ++ n :: q) -> ws.length ≤ 1000 + m.length -> p.all wok = true ->
  E.L 8 13 (w8V xs m.length) (w8H (insA i) .nilsl (.int .i64 0) ws) = some ((.ret, w8V xs (m.length + p.length), w8H (insA i) .nilsl (.int .i64 3) (ws ++ p)), True) := by
 intro p
 induction p with
 | nil =>
  intro m ws h hw _
  have hn : m.length + (q.length + 1) = xs.length := by rw [h]; simp
  have hi' : ((m.length : Int) < xs.length) = True := eq_true (by omega)
  have hg := getD_map (f := AV.int .i64) (show xs[m.length]? = some n by rw [h]; simp)
  have hc : (0 ≤ (m.length : Int) /\ (m.length : Int) < xs.length) = True := eq_true (by omega)
  simp only [w8V, w8H, List.length_nil, Int.natCast_zero, Int.add_zero, List.append_nil]
  rw [l8_13]
  rcases wok_false hb with h1 | h1
  ·simp (maxSteps := 100000000) only [ivc, rgb, anf, nilR, eq_self, Nat.reduceEqDiff, Nat.reduceLT, Nat.reduceLeDiff, Nat.reduceAdd, Nat.reduceBEq, reduceCtorEq, ↓reduceIte, tyb, insA, uR, hi', hg, h1]
   exact some_true (by omega)
  ·have h2 : ¬ n < 0 := by omega
   simp (maxSteps := 100000000) only [ivc, rgb, anf, nilR, eq_self, Nat.reduceEqDiff, Nat.reduceLT, Nat.reduceLeDiff, Nat.reduceAdd, Nat.reduceBEq, reduceCtorEq, ↓reduceIte, tyb, insA, uR, hi', hg, h1, h2]
   exact some_true (by omega)
 | cons a p ih =>
  intro m ws h hw ha
  simp only [List.all_cons, Bool.and_eq_true] at ha
  obtain ⟨n1, n2⟩ := wok_true ha.1
  have hn : m.length + (p.length + (q.length + 1) + 1) = xs.length := by rw [h]; simp
  have hi' : ((m.length : Int) < xs.length) = True := eq_true (by omega)
  have hg := getD_map (f := AV.int .i64) (show xs[m.length]? = some a by rw [h]; simp)
  have hw1 : IntKind.i64.wrap ((m.length : Int) + 1) = m.length + 1 := wrap_id (by omega) (by omega)
  have hc : (0 ≤ (m.length : Int) /\ (m.length : Int) < xs.length) = True := eq_true (by omega)
  have a1 : ¬ a < 0 := by omega
  have a2 : ¬ 2147483647 < a := by omega
  have a3 := u32id (y := a) (by omega) (by omega)
  have ih' := ih (m ++ [a]) (ws ++ [a]) (by simp [h]) (by simp; omega) ha.2
  have e4 : (m.length : Int) + 1 + (p.length : Int) = m.length + (p.length + 1) := by omega
  simp only [w8V, w8H, List.append_assoc, List.length_append, List.length_cons, List.length_nil, Nat.zero_add, Int.natCast_add, Int.cast_ofNat_Int, uR, List.map_append, List.map_cons, List.map_nil, List.cons_append, List.nil_append, insA, e4] at ih' ⊢
  rw [l8_13]
  simp (maxSteps := 100000000) only [ivc, rgb, anf, vop, nilR, salloc, sappend, eq_self, Nat.reduceEqDiff, Nat.reduceLT, Nat.reduceLeDiff, Nat.reduceAdd, Nat.reduceBEq, reduceCtorEq, ↓reduceIte, tyb, hi', hg, hw1, a1, a2, a3, ih']
  exact some_true (by omega)
def pad4 (c : List Int) : List Int := (c ++ [0, 0, 0]).take 4
def rgH (r e : AV) (ws : List Int) : HL := [(60000, ⟨true, 1, [r]⟩), (60001, ⟨true, 1, [e]⟩), (60002, ⟨true, 1, [.sl 60003 0 ws.length]⟩), (60003, uR ws)]
def rgV : List AV := [.ptr 60000 0 0, .ptr 60001 0 0, .ptr 60002 0 0]
def cV (c : List Int) : AV := .tup [.ro 1 (c.map (.int .i64))]
def cok (c : List Int) : Bool := byt ((pad4 c).getD 0 0) && byt ((pad4 c).getD 1 0) && byt ((pad4 c).getD 2 0) && byt ((pad4 c).getD 3 0)
def cw (c : List Int) : Int := packN ((pad4 c).getD 0 0) ((pad4 c).getD 1 0) ((pad4 c).getD 2 0) ((pad4 c).getD 3 0)
theorem rg_ok {c : List Int} {cs : List (List Int)} {ws : List Int} {r : Exit × List AV × HL} (h1 : 1 ≤ c.length) (h2 : c.length ≤ 4) (hw : ws.length ≤ 5000) (hc : cok c = true)
  (hL : E.L 8 200020 (.tup (cs.map cV) :: rgV) (rgH .nilsl (.int .i64 0) (ws ++ [cw c])) = some (r, True)) :
  E.L 8 200020 (.tup (cV c :: cs.map cV) :: rgV) (rgH .nilsl (.int .i64 0) ws) = some (r, True) := by
 obtain ⟨a, b, d, e, hp⟩ : ∃ a b d e, pad4 c = [a, b, d, e] := by
  match c, h1, h2 with
  | [x], _, _ => exact ⟨_, _, _, _, rfl⟩
  | [x, y], _, _ => exact ⟨_, _, _, _, rfl⟩
  | [x, y, z], _, _ => exact ⟨_, _, _, _, rfl⟩
  | [x, y, z, w], _, _ => exact ⟨_, _, _, _, rfl⟩
 have cl := clone_ev (xs := c) (by omega)
 have pk := pack_ev (a := a) (b := b) (c := d) (d := e)
 unfold packM at pk
 unfold cok at hc
 unfold cw at hL
 rw [hp] at hc hL
 have hc : (byt a && byt b && byt d && byt e) = true := hc
 have hL : E.L 8 200020 (.tup (cs.map cV) :: rgV) (rgH .nilsl (.int .i64 0) (ws ++ [packN a b d e])) = some (r, True) := hL
 rw [if_pos hc] at pk
 simp only [rgV, cV, rgH, uR, List.map_append, List.map_cons, List.map_nil, List.length_append, List.length_cons, List.length_nil, Nat.zero_add] at hL ⊢
 rw [l8_200020]
 match c, h1, h2 with
 | [x], _, _ =>
  cases hp
  simp only [iR, List.map_cons, List.map_nil, List.length_cons, List.length_nil, Nat.zero_add] at cl
  simp (maxSteps := 100000000) only [ivc, rgb, anf, vop, vslice, nilR, salloc, sappend, eq_self, Nat.reduceEqDiff, Nat.reduceLT, Nat.reduceLeDiff, Nat.reduceAdd, Nat.reduceMul, Nat.reduceBEq, Int.reduceLT, Int.reduceLE, Int.reduceToNat, reduceCtorEq, implies_true, ↓reduceIte, tyb, cl, pk, hL]
  exact some_true (by omega)
 | [x, y], _, _ =>
  cases hp
  simp only [iR, List.map_cons, List.map_nil, List.length_cons, List.length_nil, Nat.zero_add] at cl
  simp (maxSteps := 100000000) only [ivc, rgb, anf, vop, vslice, nilR, salloc, sappend, eq_self, Nat.reduceEqDiff, Nat.reduceLT, Nat.reduceLeDiff, Nat.reduceAdd, Nat.reduceMul, Nat.reduceBEq, Int.reduceLT, Int.reduceLE, Int.reduceToNat, reduceCtorEq, implies_true, ↓reduceIte, tyb, cl, pk, hL]
  exact some_true (by omega)
 | [x, y, z], _, _ =>
  cases hp
  simp only [iR, List.map_cons, List.map_nil, List.length_cons, List.length_nil, Nat.zero_add] at cl
  simp (maxSteps := 100000000) only [ivc, rgb, anf, vop, vslice, nilR, salloc, sappend, eq_self, Nat.reduceEqDiff, Nat.reduceLT, Nat.reduceLeDiff, Nat.reduceAdd, Nat.reduceMul, Nat.reduceBEq, Int.reduceLT, Int.reduceLE, Int.reduceToNat, reduceCtorEq, implies_true, ↓reduceIte, tyb, cl, pk, hL]
  exact some_true (by omega)
 | [x, y, z, w], _, _ =>
  cases hp
  simp only [iR, List.map_cons, List.map_nil, List.length_cons, List.length_nil, Nat.zero_add] at cl
  simp (maxSteps := 100000000) only [ivc, rgb, anf, vop, vslice, nilR, salloc, sappend, eq_self, Nat.reduceEqDiff, Nat.reduceLT, Nat.reduceLeDiff, Nat.reduceAdd, Nat.reduceMul, Nat.reduceBEq, Int.reduceLT, Int.reduceLE, Int.reduceToNat, reduceCtorEq, implies_true, ↓reduceIte, tyb, cl, pk, hL]
  exact some_true (by omega)
theorem rg_bad {c : List Int} {cs : List (List Int)} {ws : List Int} (h1 : 1 ≤ c.length) (h2 : c.length ≤ 4) (hc : cok c = false) :
  E.L 8 200020 (.tup (cV c :: cs.map cV) :: rgV) (rgH .nilsl (.int .i64 0) ws) = some ((.ret, rgV, rgH .nilsl (.int .i64 3) ws), True) := by
 obtain ⟨a, b, d, e, hp⟩ : ∃ a b d e, pad4 c = [a, b, d, e] := by
  match c, h1, h2 with
  | [x], _, _ => exact ⟨_, _, _, _, rfl⟩
  | [x, y], _, _ => exact ⟨_, _, _, _, rfl⟩
  | [x, y, z], _, _ => exact ⟨_, _, _, _, rfl⟩
  | [x, y, z, w], _, _ => exact ⟨_, _, _, _, rfl⟩
 have cl := clone_ev (xs := c) (by omega)
 have pk := pack_ev (a := a) (b := b) (c := d) (d := e)
 unfold packM at pk
 unfold cok at hc
 rw [hp] at hc
 have hc : (byt a && byt b && byt d && byt e) = false := hc
 rw [if_neg (by rw [hc]; simp)] at pk
 simp only [rgV, cV, rgH, uR]
 rw [l8_200020]
 match c, h1, h2 with
 | [x], _, _ =>
  cases hp
  simp only [iR, List.map_cons, List.map_nil, List.length_cons, List.length_nil, Nat.zero_add] at cl
  simp (maxSteps := 100000000) only [ivc, rgb, anf, vop, vslice, nilR, salloc, sappend, eq_self, Nat.reduceEqDiff, Nat.reduceLT, Nat.reduceLeDiff, Nat.reduceAdd, Nat.reduceMul, Nat.reduceBEq, Int.reduceLT, Int.reduceLE, Int.reduceToNat, Int.reduceBNe, reduceCtorEq, implies_true, ↓reduceIte, tyb, cl, pk]
 | [x, y], _, _ =>
  cases hp
  simp only [iR, List.map_cons, List.map_nil, List.length_cons, List.length_nil, Nat.zero_add] at cl
  simp (maxSteps := 100000000) only [ivc, rgb, anf, vop, vslice, nilR, salloc, sappend, eq_self, Nat.reduceEqDiff, Nat.reduceLT, Nat.reduceLeDiff, Nat.reduceAdd, Nat.reduceMul, Nat.reduceBEq, Int.reduceLT, Int.reduceLE, Int.reduceToNat, Int.reduceBNe, reduceCtorEq, implies_true, ↓reduceIte, tyb, cl, pk]
 | [x, y, z], _, _ =>
  cases hp
  simp only [iR, List.map_cons, List.map_nil, List.length_cons, List.length_nil, Nat.zero_add] at cl
  simp (maxSteps := 100000000) only [ivc, rgb, anf, vop, vslice, nilR, salloc, sappend, eq_self, Nat.reduceEqDiff, Nat.reduceLT, Nat.reduceLeDiff, Nat.reduceAdd, Nat.reduceMul, Nat.reduceBEq, Int.reduceLT, Int.reduceLE, Int.reduceToNat, Int.reduceBNe, reduceCtorEq, implies_true, ↓reduceIte, tyb, cl, pk]
 | [x, y, z, w], _, _ =>
  cases hp
  simp only [iR, List.map_cons, List.map_nil, List.length_cons, List.length_nil, Nat.zero_add] at cl
  simp (maxSteps := 100000000) only [ivc, rgb, anf, vop, vslice, nilR, salloc, sappend, eq_self, Nat.reduceEqDiff, Nat.reduceLT, Nat.reduceLeDiff, Nat.reduceAdd, Nat.reduceMul, Nat.reduceBEq, Int.reduceLT, Int.reduceLE, Int.reduceToNat, Int.reduceBNe, reduceCtorEq, implies_true, ↓reduceIte, tyb, cl, pk]
theorem rg_all : ∀ (cs : List (List Int)) (ws : List Int), (∀ c ∈ cs, 1 ≤ c.length /\ c.length ≤ 4 /\ cok c = true) -> ws.length + cs.length ≤ 5000 ->
  E.L 8 200020 (.tup (cs.map cV) :: rgV) (rgH .nilsl (.int .i64 0) ws) = some ((.normal, rgV, rgH .nilsl (.int .i64 0) (ws ++ cs.map cw)), True)
 | [], ws, _, _ => by
  simp only [List.map_nil, List.append_nil, rgV]
  rw [l8_1200020]
 | c :: cs, ws, h, hl => by
  obtain ⟨h1, h2, h3⟩ := h c (by simp)
  simp only [List.length_cons] at hl
  have ih := rg_all cs (ws ++ [cw c]) (fun x hx => h x (by simp [hx])) (by simp; omega)
  rw [List.append_assoc] at ih
  exact rg_ok h1 h2 (by omega) h3 ih
theorem rg_some {c : List Int} (hb : cok c = false) (h1 : 1 ≤ c.length) (h2 : c.length ≤ 4) (q : List (List Int)) : ∀ (p : List (List Int)) (ws : List Int), (∀ c ∈ p, 1 ≤ c.length /\ c.length ≤ 4 /\ cok c = true) -> ws.length + p.length ≤ 5000 ->
  E.L 8 200020 (.tup ((p ++ c :: q).map cV) :: rgV) (rgH .nilsl (.int .i64 0) ws) = some ((.ret, rgV, rgH .nilsl (.int .i64 3) (ws ++ p.map cw)), True)
 | [], ws, _, _ => by
  rw [List.nil_append, List.map_nil, List.append_nil]
  exact rg_bad h1 h2 hb
 | x :: p, ws, h, hl => by
  obtain ⟨g1, g2, g3⟩ := h x (by simp)
  simp only [List.length_cons] at hl
  have ih := rg_some hb h1 h2 q p (ws ++ [cw x]) (fun y hy => h y (by simp [hy])) (by simp; omega)
  rw [List.append_assoc] at ih
  exact rg_ok g1 g2 (by omega) g3 ih
def chL (l : List Int) : List (List Int) := (List.range ((l.length + 3) / 4)).map fun j => (l.drop (4 * j)).take 4
theorem chk_map {l : List Int} : chk (l.map (.int .i64)) = (chL l).map cV := by
 unfold chk chL
 rw [List.map_map, List.length_map]
 refine List.map_congr_left fun j _ => ?_
 simp only [chkE, cV, Function.comp, List.map_take, List.map_drop]
theorem chL_len {l : List Int} : (chL l).length = (l.length + 3) / 4 := by simp [chL]
theorem chL_mem {l c : List Int} (h : c ∈ chL l) : 1 ≤ c.length /\ c.length ≤ 4 := by
 obtain ⟨j, hj, rfl⟩ := List.mem_map.1 h
 have := List.mem_range.1 hj
 simp
 omega
theorem seq_ev {es : List AV} : AN.seq 61 [.rop (.ro 1 es) 0, .rop (.int .i64 4) 0] = some (chk es, es.length ≤ 1000000 /\ (4 : Int) = 4) := rfl
def xsOf (i : Ins) : List Int := i.x ++ (if ((rowW i.op).c == 7 && i.c == 1) = true then [i.ra] else [])
def wordsM (i : Ins) : Int × List Int :=
 if (opIn i.op && formedM i (rowW i.op)) = true then
  if (byt i.op && byt i.a && byt i.b && byt i.c) = true then
   if (xsOf i).all wok = true then
    if (chL i.l).all cok = true then (0, packN i.op i.a i.b i.c :: (xsOf i ++ (chL i.l).map cw))
    else (3, [])
   else (3, [])
  else (3, [])
 else (260, [])
def wordsV (m : Int × List Int) : AV := .tup [.ro 1 (m.2.map (.int .u32)), .int .i64 m.1]
theorem split_all {α : Type} {p : α -> Bool} : ∀ {l : List α}, l.all p = false -> ∃ a x b, l = a ++ x :: b /\ a.all p = true /\ p x = false
 | [], h => by cases h
 | y :: l, h => by
  cases hy : p y with
  | false => exact ⟨[], y, l, rfl, rfl, hy⟩
  | true =>
   rw [List.all_cons, hy, Bool.true_and] at h
   obtain ⟨a, x, b, h1, h2, h3⟩ := split_all h
   exact ⟨y :: a, x, b, by rw [h1]; rfl, by rw [List.all_cons, hy, h2]; rfl, h3⟩
theorem words_ev {i : Ins} (hx : i.x.length ≤ 100) (hl : i.l.length ≤ 1000) : E.F 8 [.agg (insA i)] [] = some ((wordsV (wordsM i), []), True) := by
 rw [e8]
 have ro := row_ev (n := i.op)
 have fo := formed_ev (i := i) (r := rowW i.op)
 have pk := pack_ev (a := i.op) (b := i.a) (c := i.b) (d := i.c)
 have ck := chunkf_ev (es := i.l.map (.int .i64))
 have cl := clone_ev (xs := i.x) (by omega)
 have sq := seq_ev (es := i.l.map (.int .i64))
 rw [chk_map] at sq
 have hxl : (xsOf i).length ≤ 1000 := by
  unfold xsOf
  split <;> simp <;> omega
 -- the loops
 have lx : (xsOf i).all wok = true -> _ := fun h => idx_ok (i := i) hxl (xsOf i) [] [packN i.op i.a i.b i.c] rfl (by simp) h
 unfold wordsM
 unfold packM at pk
 generalize hfm : formedM i (rowW i.op) = fm at fo ⊢
 cases hin : opIn i.op with
 | false =>
  rw [hin] at ro
  simp only [rowA, insA] at ro fo ⊢
  simp (maxSteps := 100000000) only [ivc, rgb, anf, vop, salloc, eq_self, Nat.reduceEqDiff, Nat.reduceLT, Nat.reduceLeDiff, Nat.reduceAdd, Nat.reduceBEq, ↓reduceIte, tyb, ro, wordsV]
 | true =>
 rw [hin] at ro
 cases fm with
 | false =>
  simp only [rowA, insA] at ro fo ⊢
  simp (maxSteps := 100000000) only [ivc, rgb, anf, vop, salloc, eq_self, Nat.reduceEqDiff, Nat.reduceLT, Nat.reduceLeDiff, Nat.reduceAdd, Nat.reduceBEq, ↓reduceIte, tyb, ro, fo, wordsV]
 | true =>
 cases hp : byt i.op && byt i.a && byt i.b && byt i.c with
 | false =>
  simp only [rowA, insA] at ro fo ⊢
  simp (maxSteps := 100000000) only [ivc, rgb, anf, vop, nilR, salloc, eq_self, Nat.reduceEqDiff, Nat.reduceLT, Nat.reduceLeDiff, Nat.reduceAdd, Nat.reduceBEq, Int.reduceBNe, ↓reduceIte, tyb, ro, fo, pk, hp, wordsV]
 | true =>
 rw [hp, if_pos rfl] at pk
 cases hax : (xsOf i).all wok with
 | false =>
  clear lx
  obtain ⟨p, n, q, hpe, hpa, hpb⟩ := split_all hax
  have l1 := idx_bad (i := i) hxl hpb p [] [packN i.op i.a i.b i.c] hpe (by simp) hpa
  clear hpe
  unfold xsOf at l1
  cases hcc : ((rowW i.op).c == 7 && i.c == 1) with
  | false =>
   simp only [hcc, Bool.false_eq_true, if_false, List.append_nil, List.length_nil, Int.natCast_zero, Int.zero_add, List.cons_append, List.nil_append, List.length_cons, Nat.zero_add, List.map_cons, List.map_nil, w8V, w8H, uR, rowA, insA] at l1 ro fo ⊢
   simp (maxSteps := 100000000) only [ivc, rgb, anf, vop, vlen, vbuiltin, nilR, salloc, eq_self, Nat.reduceEqDiff, Nat.reduceLT, Nat.reduceLeDiff, Nat.reduceAdd, Nat.reduceBEq, reduceCtorEq, ↓reduceIte, tyb, ro, fo, pk, hcc, l1, wordsV]
  | true =>
   simp only [hcc, if_true, Int.natCast_add, Int.cast_ofNat_Int, List.length_nil, Int.zero_add, List.cons_append, List.nil_append, List.length_append, List.length_cons, Nat.zero_add, List.map_append, List.map_cons, List.map_nil, w8V, w8H, uR, rowA, insA] at l1 ro fo ⊢
   simp (maxSteps := 100000000) only [ivc, rgb, anf, vop, vlen, vbuiltin, nilR, salloc, sappend, eq_self, Nat.reduceEqDiff, Nat.reduceLT, Nat.reduceLeDiff, Nat.reduceAdd, Nat.reduceMul, Nat.reduceSub, Nat.reduceBEq, reduceCtorEq, ↓reduceIte, tyb, ro, fo, pk, cl, hcc, l1, iR, wordsV]
   exact some_true (by omega)
 | true =>
  have l1 := lx hax
  clear lx
  cases hac : (chL i.l).all cok with
  | false =>
   obtain ⟨p, c, q, hpe, hpa, hpb⟩ := split_all hac
   have hcm := chL_mem (show c ∈ chL i.l by rw [hpe]; simp)
   have hpl : p.length ≤ 1000 := by
    have : (chL i.l).length = p.length + (q.length + 1) := by rw [hpe]; simp
    rw [chL_len] at this
    omega
   have l2 := rg_some hpb hcm.1 hcm.2 q p ([packN i.op i.a i.b i.c] ++ xsOf i) (fun c hc => ⟨(chL_mem (show c ∈ chL i.l by rw [hpe]; simp [hc])).1, (chL_mem (show c ∈ chL i.l by rw [hpe]; simp [hc])).2, List.all_eq_true.1 hpa c hc⟩) (by simp; omega)
   rw [<- hpe] at l2
   unfold xsOf at l1 l2
   cases hcc : ((rowW i.op).c == 7 && i.c == 1) with
   | false =>
    simp only [hcc, Bool.false_eq_true, if_false, List.append_nil, List.length_nil, Int.natCast_zero, List.cons_append, List.nil_append, List.length_append, List.length_cons, Nat.zero_add, List.map_append, List.map_cons, List.map_nil, w8V, w8H, rgV, rgH, uR, rowA, insA] at l1 l2 ro fo ⊢
    simp (maxSteps := 100000000) only [ivc, rgb, anf, vop, vlen, vbuiltin, nilR, salloc, eq_self, Nat.reduceEqDiff, Nat.reduceLT, Nat.reduceLeDiff, Nat.reduceAdd, Nat.reduceMul, Nat.reduceBEq, reduceCtorEq, ↓reduceIte, tyb, ro, fo, pk, ck, sq, hcc, l1, l2, wordsV]
    exact some_true (by omega)
   | true =>
    simp only [hcc, if_true, Int.natCast_add, Int.cast_ofNat_Int, List.length_nil, List.cons_append, List.nil_append, List.append_assoc, List.length_append, List.length_cons, Nat.zero_add, List.map_append, List.map_cons, List.map_nil, w8V, w8H, rgV, rgH, uR, rowA, insA] at l1 l2 ro fo ⊢
    simp (maxSteps := 100000000) only [ivc, rgb, anf, vop, vlen, vbuiltin, nilR, salloc, sappend, eq_self, Nat.reduceEqDiff, Nat.reduceLT, Nat.reduceLeDiff, Nat.reduceAdd, Nat.reduceMul, Nat.reduceSub, Nat.reduceBEq, reduceCtorEq, ↓reduceIte, tyb, ro, fo, pk, ck, cl, sq, hcc, l1, l2, iR, wordsV]
    exact some_true (by omega)
  | true =>
   have l2 := rg_all (chL i.l) ([packN i.op i.a i.b i.c] ++ xsOf i) (fun c hc => ⟨(chL_mem hc).1, (chL_mem hc).2, List.all_eq_true.1 hac c hc⟩) (by rw [chL_len]; simp; omega)
   unfold xsOf at l1 l2 ⊢
   cases hcc : ((rowW i.op).c == 7 && i.c == 1) with
   | false =>
    simp only [hcc, Bool.false_eq_true, if_false, List.append_nil, List.length_nil, Int.natCast_zero, List.cons_append, List.nil_append, List.length_append, List.length_cons, Nat.zero_add, List.map_append, List.map_cons, List.map_nil, w8V, w8H, rgV, rgH, uR, rowA, insA] at l1 l2 ro fo ⊢
    simp (maxSteps := 100000000) only [ivc, rgb, anf, vop, vlen, vbuiltin, nilR, salloc, eq_self, Nat.reduceEqDiff, Nat.reduceLT, Nat.reduceLeDiff, Nat.reduceAdd, Nat.reduceMul, Nat.reduceBEq, reduceCtorEq, ↓reduceIte, tyb, ro, fo, pk, ck, sq, hcc, l1, l2, wordsV]
    rw [List.take_of_length_le (by simp)]
    exact some_true (by omega)
   | true =>
    simp only [hcc, if_true, Int.natCast_add, Int.cast_ofNat_Int, List.length_nil, List.cons_append, List.nil_append, List.append_assoc, List.length_append, List.length_cons, Nat.zero_add, List.map_append, List.map_cons, List.map_nil, w8V, w8H, rgV, rgH, uR, rowA, insA] at l1 l2 ro fo ⊢
    simp (maxSteps := 100000000) only [ivc, rgb, anf, vop, vlen, vbuiltin, nilR, salloc, sappend, eq_self, Nat.reduceEqDiff, Nat.reduceLT, Nat.reduceLeDiff, Nat.reduceAdd, Nat.reduceMul, Nat.reduceSub, Nat.reduceBEq, reduceCtorEq, ↓reduceIte, tyb, ro, fo, pk, ck, cl, sq, hcc, l1, l2, iR, wordsV]
    rw [List.take_of_length_le (by simp)]
    exact some_true (by omega)
end Go.Proofs.YtfdipcpmfoidoaaDoor

/- The words are the reference's. -/
namespace Go.Proofs.YtfdipcpmfoidoaaDoor
open Go Go.Aw
set_option linter.unusedSimpArgs false
set_option linter.unusedVariables false
set_option maxRecDepth 100000
set_option maxHeartbeats 4000000
def alike (r : OpRow) (s : Shp) : Bool :=
 (r.x.length == s.x.length) && (r.li == (s.b == 5)) && (!r.li || r.le == s.le) && ((r.a == 0) == (s.a == 0)) && (((r.w == 0) && (r.b == 0)) == (s.b == 0)) && (((r.w == 0) && (r.c == 0)) == ((s.c == 0) && !s.w)) && ((r.c == 7) == (s.c == 7))
end Go.Proofs.YtfdipcpmfoidoaaDoor

/- take. -/
namespace Go.Proofs.YtfdipcpmfoidoaaDoor
open Go Go.Aw
set_option linter.unusedSimpArgs false
set_option linter.unusedVariables false
set_option maxRecDepth 100000
set_option maxHeartbeats 40000000
def insL (o1 o2 : Nat) (i : Ins) : List AV := [.int .i64 i.at_, .int .i64 i.op, .int .i64 i.a, .int .i64 i.b, .int .i64 i.c, .sl o1 0 i.x.length, .int .i64 i.ra, .sl o2 0 i.l.length, .int .i64 i.n]
def tkH (b : Nat) (ok : Bool) (rest : List Int) (i : Ins) : HL := [(b, ⟨true, 1, [.ro 1 (rest.map (.int .u32))]⟩), (b + 1, ⟨true, 1, [.bool ok]⟩), (b + 2, ⟨true, 9, [.agg (insL (b + 3) (b + 4) i)]⟩), (b + 3, iR i.x), (b + 4, iR i.l)]
theorem take_none {ok : Bool} {i : Ins} : E.F 38 [.ptr 100000 0 0, .ptr 100001 0 0, .ptr 100002 0 0] (tkH 100000 ok [] i) = some ((.int .u32 0, tkH 100000 false [] i), True) := by
 simp only [tkH, insL, iR]
 rw [e38]
 simp (maxSteps := 100000000) only [ivc, rgb, anf, vlen, vbuiltin, nilR, eq_self, Nat.reduceEqDiff, Nat.reduceLT, Nat.reduceLeDiff, Nat.reduceAdd, Nat.reduceBEq, reduceCtorEq, ↓reduceIte, tyb]
theorem take_some {ok : Bool} {i : Ins} {u : Int} {us : List Int} (hn : 0 ≤ i.n /\ i.n ≤ 100000) (hl : us.length ≤ 100000) : E.F 38 [.ptr 100000 0 0, .ptr 100001 0 0, .ptr 100002 0 0] (tkH 100000 ok (u :: us) i) = some ((.int .u32 u, tkH 100000 ok us { i with n := i.n + 1 }), True) := by
 have hw : IntKind.i64.wrap (i.n + 1) = i.n + 1 := wrap_id (by omega) (by omega)
 have hq : ((us.length : Int) + 1 == 0) = false := beq_eq_false_iff_ne.2 (by omega)
 simp only [tkH, insL, iR]
 rw [e38]
 simp (maxSteps := 100000000) only [ivc, rgb, anf, vop, vslice, vlen, vbuiltin, nilR, eq_self, Nat.reduceEqDiff, Nat.reduceLT, Nat.reduceLeDiff, Nat.reduceAdd, Nat.reduceBEq, Int.reduceLE, Int.reduceToNat, reduceCtorEq, implies_true, ↓reduceIte, tyb, hw, hq]
 rw [List.take_of_length_le (by simp)]
 exact some_true (by omega)
def tkI (i : Ins) (rest : List Int) : Ins := { i with n := i.n + (if rest.isEmpty = true then 0 else 1) }
theorem take_ev {ok : Bool} {rest : List Int} {i : Ins} (hn : 0 ≤ i.n /\ i.n ≤ 100000) (hl : rest.length ≤ 100000) : E.F 38 [.ptr 100000 0 0, .ptr 100001 0 0, .ptr 100002 0 0] (tkH 100000 ok rest i) = some ((.int .u32 (rest.headD 0), tkH 100000 (ok && !rest.isEmpty) rest.tail (tkI i rest)), True) := by
 cases rest with
 | nil =>
  rw [take_none]
  simp [tkI]
 | cons u us =>
  simp only [List.length_cons] at hl
  rw [take_some hn (by omega)]
  simp [tkI]
def rdH (r : OpRow) (ok : Bool) (rest : List Int) (i : Ins) : HL := [(60000, ⟨true, 9, [.agg [.int .i64 0, .int .i64 0, .int .i64 0, .int .i64 0, .int .i64 0, .nilsl, .int .i64 0, .nilsl, .int .i64 0]]⟩), (60001, ⟨true, 9, [.agg (insL 60005 60006 i)]⟩), (60002, ⟨true, 9, [.agg (rowA r)]⟩), (60003, ⟨true, 1, [.bool ok]⟩), (60004, ⟨true, 1, [.ro 1 (rest.map (.int .u32))]⟩), (60005, iR i.x), (60006, iR i.l)]
def rdV (ws : List Int) (n : Int) (t : List AV) : List AV := [.ro 1 (ws.map (.int .u32)), .int .i64 n, .ptr 60000 0 0, .ptr 60001 0 0, .ptr 60002 0 0, .ptr 60003 0 0, .fn (.func 38) [] [.ptr 60004 0 0, .ptr 60003 0 0, .ptr 60001 0 0]] ++ t
def idxS : Nat -> Bool -> List Int -> Ins -> Bool × List Int × Ins
 | 0, ok, rest, i => (ok, rest, i)
 | k + 1, ok, rest, i => idxS k (ok && !rest.isEmpty) rest.tail { tkI i rest with x := i.x ++ [rest.headD 0] }
def u32r (n : Int) : Prop := 0 ≤ n /\ n < 4294967296
theorem u32r_head {l : List Int} (h : ∀ x ∈ l, u32r x) : u32r (l.headD 0) := by
 cases l with
 | nil => exact ⟨by simp, by simp⟩
 | cons a l => exact h a (by simp)
theorem u32r_tail {l : List Int} (h : ∀ x ∈ l, u32r x) : ∀ x ∈ l.tail, u32r x := fun x hx => h x (List.mem_of_mem_tail hx)
theorem rd_idx {ws : List Int} {n : Int} {r : OpRow} (X : Nat) (hX : X ≤ 1000) : ∀ (k j : Nat) (ok : Bool) (rest : List Int) (i : Ins), j + k = X -> (∀ x ∈ rest, u32r x) -> rest.length ≤ 100000 -> 0 ≤ i.n -> i.n ≤ 1000 + j -> i.x.length ≤ 1000 + j ->
  E.L 9 12 (rdV ws n [.int .i64 X, .int .i64 j]) (rdH r ok rest i) = some ((.exit 0, rdV ws n [.int .i64 X, .int .i64 X], rdH r (idxS k ok rest i).1 (idxS k ok rest i).2.1 (idxS k ok rest i).2.2), True) := by
 intro k
 induction k with
 | zero =>
  intro j ok rest i hj hr hrl hn0 hn hx
  obtain rfl : j = X := by omega
  have q : ((j : Int) < j) = False := eq_false (by omega)
  simp only [rdV, rdH, idxS, insL, rowA]
  rw [l9_12]
  simp (maxSteps := 100000000) only [ivc, rgb, anf, nilR, eq_self, Nat.reduceEqDiff, Nat.reduceLT, Nat.reduceLeDiff, Nat.reduceAdd, Nat.reduceBEq, reduceCtorEq, ↓reduceIte, tyb, iR, q]
 | succ k ih =>
  intro j ok rest i hj hr hrl hn0 hn hx
  have hi' : ((j : Int) < X) = True := eq_true (by omega)
  have hw1 : IntKind.i64.wrap ((j : Int) + 1) = j + 1 := wrap_id (by omega) (by omega)
  have hu := u32r_head hr
  have hw2 : IntKind.i64.wrap (rest.headD 0) = rest.headD 0 := wrap_id (by have := hu.1; omega) (by have := hu.2; omega)
  have tk := take_ev (ok := ok) (rest := rest) (i := i) ⟨hn0, by omega⟩ hrl
  have ih' := ih (j + 1) (ok && !rest.isEmpty) rest.tail { tkI i rest with x := i.x ++ [rest.headD 0] } (by omega) (u32r_tail hr) (by simp; omega) (by simp [tkI]; split <;> omega) (by simp [tkI]; split <;> omega) (by simp; omega)
  simp only [idxS]
  simp only [tkH, insL, iR, Nat.reduceAdd, tkI] at tk
  simp only [tkI, rdV, rdH, insL, rowA, iR, List.cons_append, List.nil_append, Int.natCast_add, Int.cast_ofNat_Int, List.length_append, List.length_cons, List.length_nil, Nat.zero_add, List.map_append, List.map_cons, List.map_nil] at ih' ⊢
  rw [l9_12]
  simp (maxSteps := 100000000) only [ivc, rgb, anf, vop, nilR, salloc, sappend, eq_self, Nat.reduceEqDiff, Nat.reduceLT, Nat.reduceLeDiff, Nat.reduceAdd, Nat.reduceMul, Nat.reduceSub, Nat.reduceBEq, reduceCtorEq, ↓reduceIte, tyb, hi', hw1, hw2, tk, ih']
  exact some_true (by omega)
end Go.Proofs.YtfdipcpmfoidoaaDoor

