/- A part of the proof of CodeFlowsCardSaid. -/
import Derived.Test.YtfdipcpmfoidoaaDoorProg
import Derived.RangeFuncBox
import Derived.WalkKit
import Derived.OwnWalkIn
import Derived.TacticsInMore
import Derived.LoopNIn
import Derived.LoopIn
import Derived.Shelf.Abstract
import Derived.Shelf.RegionOpen
import Derived.Test.YtfdipcpmfoidoaaDoorCAw6
namespace Go.Proofs.YtfdipcpmfoidoaaDoor
open Go Go.Aw
theorem ty1 : (tLoad Tryd.prog 1 = some none) /\ (tKind Tryd.prog 1 = some .func) /\ (tSz Tryd.prog 1 = some 1) /\ (Tryd.prog.bytesOf 1 = 8) /\ (tZero Tryd.prog 1 = some [.nilf]) /\ (eok Tryd.prog 1 [.nilf] = true) /\ (mkE Tryd.prog 1 [.nilf] = .nilf) /\ (zeroOf Tryd.prog 1 = some [.nilf]) :=
 by and_intros <;> kernel_rfl
theorem ty2 : (tLoad Tryd.prog 2 = some none) /\ (tKind Tryd.prog 2 = some (.int .i64)) /\ (tSz Tryd.prog 2 = some 1) /\ (Tryd.prog.bytesOf 2 = 8) /\ (tZero Tryd.prog 2 = some [.int .i64 0]) /\ (eok Tryd.prog 2 [.int .i64 0] = true) /\ (mkE Tryd.prog 2 [.int .i64 0] = .int .i64 0) /\ (zeroOf Tryd.prog 2 = some [.int .i64 0]) :=
 by and_intros <;> kernel_rfl
theorem ty3 : (tLoad Tryd.prog 3 = some none) /\ (tKind Tryd.prog 3 = some (.int .i64)) /\ (tSz Tryd.prog 3 = some 1) /\ (Tryd.prog.bytesOf 3 = 8) /\ (tZero Tryd.prog 3 = some [.int .i64 0]) /\ (eok Tryd.prog 3 [.int .i64 0] = true) /\ (mkE Tryd.prog 3 [.int .i64 0] = .int .i64 0) /\ (zeroOf Tryd.prog 3 = some [.int .i64 0]) :=
 by and_intros <;> kernel_rfl
theorem ty4 : (tLoad Tryd.prog 4 = some none) /\ (tKind Tryd.prog 4 = some .bool) /\ (tSz Tryd.prog 4 = some 1) /\ (Tryd.prog.bytesOf 4 = 1) /\ (tZero Tryd.prog 4 = some [.bool false]) /\ (eok Tryd.prog 4 [.bool false] = true) /\ (mkE Tryd.prog 4 [.bool false] = .bool false) /\ (zeroOf Tryd.prog 4 = some [.bool false]) :=
 by and_intros <;> kernel_rfl
theorem ty5 : (tLoad Tryd.prog 5 = some none) /\ (tKind Tryd.prog 5 = some (.int .u8)) /\ (tSz Tryd.prog 5 = some 1) /\ (Tryd.prog.bytesOf 5 = 1) /\ (tZero Tryd.prog 5 = some [.int .u8 0]) /\ (eok Tryd.prog 5 [.int .u8 0] = true) /\ (mkE Tryd.prog 5 [.int .u8 0] = .int .u8 0) /\ (zeroOf Tryd.prog 5 = some [.int .u8 0]) :=
 by and_intros <;> kernel_rfl
theorem ty9 : (tLoad Tryd.prog 9 = some none) /\ (tKind Tryd.prog 9 = some .string) /\ (tSz Tryd.prog 9 = some 1) /\ (Tryd.prog.bytesOf 9 = 16) /\ (tZero Tryd.prog 9 = some [.str ⟨#[]⟩]) /\ (eok Tryd.prog 9 [.str ⟨#[]⟩] = true) /\ (mkE Tryd.prog 9 [.str ⟨#[]⟩] = .str ⟨#[]⟩) /\ (zeroOf Tryd.prog 9 = some [.str ⟨#[]⟩]) /\ (isTy2 Tryd.prog 9 = true) :=
 by and_intros <;> kernel_rfl
theorem ty12 : (tLoad Tryd.prog 12 = some none) /\ (tKind Tryd.prog 12 = some (.int .u64)) /\ (tSz Tryd.prog 12 = some 1) /\ (Tryd.prog.bytesOf 12 = 8) /\ (tZero Tryd.prog 12 = some [.int .u64 0]) /\ (eok Tryd.prog 12 [.int .u64 0] = true) /\ (mkE Tryd.prog 12 [.int .u64 0] = .int .u64 0) /\ (zeroOf Tryd.prog 12 = some [.int .u64 0]) :=
 by and_intros <;> kernel_rfl
theorem ty20 : (tLoad Tryd.prog 20 = some none) /\ (tKind Tryd.prog 20 = some .other) :=
 by and_intros <;> kernel_rfl
theorem ty22 : (tLoad Tryd.prog 22 = some none) /\ (tKind Tryd.prog 22 = some .slice) /\ (tSz Tryd.prog 22 = some 1) /\ (Tryd.prog.bytesOf 22 = 24) /\ (tZero Tryd.prog 22 = some [.nilsl]) /\ (eok Tryd.prog 22 [.nilsl] = true) /\ (mkE Tryd.prog 22 [.nilsl] = .nilsl) /\ (zeroOf Tryd.prog 22 = some [.nilsl]) /\ (tIndex Tryd.prog 22 = some (none, 9, some 9)) /\ (tSliceElem Tryd.prog 22 = some 27) /\ (isTy2 Tryd.prog 22 = true) :=
 by and_intros <;> kernel_rfl
theorem ty24 : (tLoad Tryd.prog 24 = some none) /\ (tKind Tryd.prog 24 = some .slice) /\ (tSz Tryd.prog 24 = some 1) /\ (Tryd.prog.bytesOf 24 = 24) /\ (tZero Tryd.prog 24 = some [.nilsl]) /\ (eok Tryd.prog 24 [.nilsl] = true) /\ (mkE Tryd.prog 24 [.nilsl] = .nilsl) /\ (zeroOf Tryd.prog 24 = some [.nilsl]) /\ (tIndex Tryd.prog 24 = some (none, 1, none)) /\ (tSliceElem Tryd.prog 24 = some 35) /\ (isTy2 Tryd.prog 24 = true) :=
 by and_intros <;> kernel_rfl
theorem ty25 : (tLoad Tryd.prog 25 = some none) /\ (tKind Tryd.prog 25 = some .slice) /\ (tSz Tryd.prog 25 = some 1) /\ (Tryd.prog.bytesOf 25 = 24) /\ (tZero Tryd.prog 25 = some [.nilsl]) /\ (eok Tryd.prog 25 [.nilsl] = true) /\ (mkE Tryd.prog 25 [.nilsl] = .nilsl) /\ (zeroOf Tryd.prog 25 = some [.nilsl]) /\ (tIndex Tryd.prog 25 = some (none, 1, none)) /\ (tSliceElem Tryd.prog 25 = some 3) /\ (isTy2 Tryd.prog 25 = true) :=
 by and_intros <;> kernel_rfl
theorem ty26 : (tLoad Tryd.prog 26 = some (some 9)) /\ (tKind Tryd.prog 26 = some .other) /\ (tSz Tryd.prog 26 = some 9) /\ (Tryd.prog.bytesOf 26 = 104) /\ (tZero Tryd.prog 26 = some [.int .i64 0, .int .i64 0, .int .i64 0, .int .i64 0, .int .i64 0, .nilsl, .int .i64 0, .nilsl, .int .i64 0]) /\ (eok Tryd.prog 26 [.int .i64 0, .int .i64 0, .int .i64 0, .int .i64 0, .int .i64 0, .nilsl, .int .i64 0, .nilsl, .int .i64 0] = true) /\ (mkE Tryd.prog 26 [.int .i64 0, .int .i64 0, .int .i64 0, .int .i64 0, .int .i64 0, .nilsl, .int .i64 0, .nilsl, .int .i64 0] = .agg [.int .i64 0, .int .i64 0, .int .i64 0, .int .i64 0, .int .i64 0, .nilsl, .int .i64 0, .nilsl, .int .i64 0]) /\ (zeroOf Tryd.prog 26 = some [.int .i64 0, .int .i64 0, .int .i64 0, .int .i64 0, .int .i64 0, .nilsl, .int .i64 0, .nilsl, .int .i64 0]) /\ (tField Tryd.prog 26 0 = some (0, none)) /\ (placeOf Tryd.prog 26 0 = some (0, 1)) /\ (tField Tryd.prog 26 1 = some (1, none)) /\ (placeOf Tryd.prog 26 1 = some (1, 1)) /\ (tField Tryd.prog 26 2 = some (2, none)) /\ (placeOf Tryd.prog 26 2 = some (2, 1)) /\ (tField Tryd.prog 26 3 = some (3, none)) /\ (placeOf Tryd.prog 26 3 = some (3, 1)) /\ (tField Tryd.prog 26 4 = some (4, none)) /\ (placeOf Tryd.prog 26 4 = some (4, 1)) /\ (tField Tryd.prog 26 5 = some (5, none)) /\ (placeOf Tryd.prog 26 5 = some (5, 1)) /\ (tField Tryd.prog 26 6 = some (6, none)) /\ (placeOf Tryd.prog 26 6 = some (6, 1)) /\ (tField Tryd.prog 26 7 = some (7, none)) /\ (placeOf Tryd.prog 26 7 = some (7, 1)) /\ (tField Tryd.prog 26 8 = some (8, none)) /\ (placeOf Tryd.prog 26 8 = some (8, 1)) /\ (buildable Tryd.prog 26 = true) :=
 by and_intros <;> kernel_rfl
theorem ty27 : (tLoad Tryd.prog 27 = some (some 9)) /\ (tKind Tryd.prog 27 = some .other) /\ (tSz Tryd.prog 27 = some 9) /\ (Tryd.prog.bytesOf 27 = 104) /\ (tZero Tryd.prog 27 = some [.int .i64 0, .int .i64 0, .int .i64 0, .int .i64 0, .int .i64 0, .nilsl, .int .i64 0, .nilsl, .int .i64 0]) /\ (eok Tryd.prog 27 [.int .i64 0, .int .i64 0, .int .i64 0, .int .i64 0, .int .i64 0, .nilsl, .int .i64 0, .nilsl, .int .i64 0] = true) /\ (mkE Tryd.prog 27 [.int .i64 0, .int .i64 0, .int .i64 0, .int .i64 0, .int .i64 0, .nilsl, .int .i64 0, .nilsl, .int .i64 0] = .agg [.int .i64 0, .int .i64 0, .int .i64 0, .int .i64 0, .int .i64 0, .nilsl, .int .i64 0, .nilsl, .int .i64 0]) /\ (zeroOf Tryd.prog 27 = some [.int .i64 0, .int .i64 0, .int .i64 0, .int .i64 0, .int .i64 0, .nilsl, .int .i64 0, .nilsl, .int .i64 0]) /\ (tField Tryd.prog 27 0 = some (0, none)) /\ (placeOf Tryd.prog 27 0 = some (0, 1)) /\ (tField Tryd.prog 27 1 = some (1, none)) /\ (placeOf Tryd.prog 27 1 = some (1, 1)) /\ (tField Tryd.prog 27 2 = some (2, none)) /\ (placeOf Tryd.prog 27 2 = some (2, 1)) /\ (tField Tryd.prog 27 3 = some (3, none)) /\ (placeOf Tryd.prog 27 3 = some (3, 1)) /\ (tField Tryd.prog 27 4 = some (4, none)) /\ (placeOf Tryd.prog 27 4 = some (4, 1)) /\ (tField Tryd.prog 27 5 = some (5, none)) /\ (placeOf Tryd.prog 27 5 = some (5, 1)) /\ (tField Tryd.prog 27 6 = some (6, none)) /\ (placeOf Tryd.prog 27 6 = some (6, 1)) /\ (tField Tryd.prog 27 7 = some (7, none)) /\ (placeOf Tryd.prog 27 7 = some (7, 1)) /\ (tField Tryd.prog 27 8 = some (8, none)) /\ (placeOf Tryd.prog 27 8 = some (8, 1)) /\ (buildable Tryd.prog 27 = true) :=
 by and_intros <;> kernel_rfl
theorem ty28 : (tLoad Tryd.prog 28 = some none) /\ (tKind Tryd.prog 28 = some (.int .i64)) /\ (tSz Tryd.prog 28 = some 1) /\ (Tryd.prog.bytesOf 28 = 8) /\ (tZero Tryd.prog 28 = some [.int .i64 0]) /\ (eok Tryd.prog 28 [.int .i64 0] = true) /\ (mkE Tryd.prog 28 [.int .i64 0] = .int .i64 0) /\ (zeroOf Tryd.prog 28 = some [.int .i64 0]) :=
 by and_intros <;> kernel_rfl
theorem ty32 : (tLoad Tryd.prog 32 = some none) /\ (tKind Tryd.prog 32 = some .func) /\ (tSz Tryd.prog 32 = some 1) /\ (Tryd.prog.bytesOf 32 = 8) /\ (tZero Tryd.prog 32 = some [.nilf]) /\ (eok Tryd.prog 32 [.nilf] = true) /\ (mkE Tryd.prog 32 [.nilf] = .nilf) /\ (zeroOf Tryd.prog 32 = some [.nilf]) :=
 by and_intros <;> kernel_rfl
theorem ty35 : (tLoad Tryd.prog 35 = some none) /\ (tKind Tryd.prog 35 = some (.int .u32)) /\ (tSz Tryd.prog 35 = some 1) /\ (Tryd.prog.bytesOf 35 = 4) /\ (tZero Tryd.prog 35 = some [.int .u32 0]) /\ (eok Tryd.prog 35 [.int .u32 0] = true) /\ (mkE Tryd.prog 35 [.int .u32 0] = .int .u32 0) /\ (zeroOf Tryd.prog 35 = some [.int .u32 0]) :=
 by and_intros <;> kernel_rfl
theorem ty61 : (tLoad Tryd.prog 61 = some none) /\ (tKind Tryd.prog 61 = some .slice) /\ (tSz Tryd.prog 61 = some 1) /\ (Tryd.prog.bytesOf 61 = 24) /\ (tZero Tryd.prog 61 = some [.nilsl]) /\ (eok Tryd.prog 61 [.nilsl] = true) /\ (mkE Tryd.prog 61 [.nilsl] = .nilsl) /\ (zeroOf Tryd.prog 61 = some [.nilsl]) /\ (tIndex Tryd.prog 61 = some (none, 5, some 5)) /\ (tSliceElem Tryd.prog 61 = some 75) /\ (isTy2 Tryd.prog 61 = true) :=
 by and_intros <;> kernel_rfl
theorem ty62 : (tLoad Tryd.prog 62 = some none) /\ (tKind Tryd.prog 62 = some .slice) /\ (tSz Tryd.prog 62 = some 1) /\ (Tryd.prog.bytesOf 62 = 24) /\ (tZero Tryd.prog 62 = some [.nilsl]) /\ (eok Tryd.prog 62 [.nilsl] = true) /\ (mkE Tryd.prog 62 [.nilsl] = .nilsl) /\ (zeroOf Tryd.prog 62 = some [.nilsl]) /\ (tIndex Tryd.prog 62 = some (none, 1, none)) /\ (tSliceElem Tryd.prog 62 = some 9) /\ (isTy2 Tryd.prog 62 = true) :=
 by and_intros <;> kernel_rfl
theorem ty63 : (tLoad Tryd.prog 63 = some none) /\ (tKind Tryd.prog 63 = some .slice) /\ (tSz Tryd.prog 63 = some 1) /\ (Tryd.prog.bytesOf 63 = 24) /\ (tZero Tryd.prog 63 = some [.nilsl]) /\ (eok Tryd.prog 63 [.nilsl] = true) /\ (mkE Tryd.prog 63 [.nilsl] = .nilsl) /\ (zeroOf Tryd.prog 63 = some [.nilsl]) /\ (tIndex Tryd.prog 63 = some (none, 5, some 5)) /\ (tSliceElem Tryd.prog 63 = some 106) /\ (isTy2 Tryd.prog 63 = true) :=
 by and_intros <;> kernel_rfl
theorem ty64 : (tLoad Tryd.prog 64 = some none) /\ (tKind Tryd.prog 64 = some .slice) /\ (tSz Tryd.prog 64 = some 1) /\ (Tryd.prog.bytesOf 64 = 24) /\ (tZero Tryd.prog 64 = some [.nilsl]) /\ (eok Tryd.prog 64 [.nilsl] = true) /\ (mkE Tryd.prog 64 [.nilsl] = .nilsl) /\ (zeroOf Tryd.prog 64 = some [.nilsl]) /\ (tIndex Tryd.prog 64 = some (none, 5, some 5)) /\ (tSliceElem Tryd.prog 64 = some 112) /\ (isTy2 Tryd.prog 64 = true) :=
 by and_intros <;> kernel_rfl
theorem ty65 : (tLoad Tryd.prog 65 = some none) /\ (tKind Tryd.prog 65 = some .slice) /\ (tSz Tryd.prog 65 = some 1) /\ (Tryd.prog.bytesOf 65 = 24) /\ (tZero Tryd.prog 65 = some [.nilsl]) /\ (eok Tryd.prog 65 [.nilsl] = true) /\ (mkE Tryd.prog 65 [.nilsl] = .nilsl) /\ (zeroOf Tryd.prog 65 = some [.nilsl]) /\ (tIndex Tryd.prog 65 = some (none, 2, some 2)) /\ (tSliceElem Tryd.prog 65 = some 159) /\ (isTy2 Tryd.prog 65 = true) :=
 by and_intros <;> kernel_rfl
theorem ty66 : (tLoad Tryd.prog 66 = some (some 9)) /\ (tKind Tryd.prog 66 = some .other) /\ (tSz Tryd.prog 66 = some 9) /\ (Tryd.prog.bytesOf 66 = 216) /\ (tZero Tryd.prog 66 = some [.nilsl, .nilsl, .nilsl, .nilsl, .nilsl, .nilsl, .nilsl, .nilsl, .nilsl]) /\ (eok Tryd.prog 66 [.nilsl, .nilsl, .nilsl, .nilsl, .nilsl, .nilsl, .nilsl, .nilsl, .nilsl] = true) /\ (mkE Tryd.prog 66 [.nilsl, .nilsl, .nilsl, .nilsl, .nilsl, .nilsl, .nilsl, .nilsl, .nilsl] = .agg [.nilsl, .nilsl, .nilsl, .nilsl, .nilsl, .nilsl, .nilsl, .nilsl, .nilsl]) /\ (zeroOf Tryd.prog 66 = some [.nilsl, .nilsl, .nilsl, .nilsl, .nilsl, .nilsl, .nilsl, .nilsl, .nilsl]) /\ (tField Tryd.prog 66 0 = some (0, none)) /\ (placeOf Tryd.prog 66 0 = some (0, 1)) /\ (tField Tryd.prog 66 1 = some (1, none)) /\ (placeOf Tryd.prog 66 1 = some (1, 1)) /\ (tField Tryd.prog 66 2 = some (2, none)) /\ (placeOf Tryd.prog 66 2 = some (2, 1)) /\ (tField Tryd.prog 66 3 = some (3, none)) /\ (placeOf Tryd.prog 66 3 = some (3, 1)) /\ (tField Tryd.prog 66 4 = some (4, none)) /\ (placeOf Tryd.prog 66 4 = some (4, 1)) /\ (tField Tryd.prog 66 5 = some (5, none)) /\ (placeOf Tryd.prog 66 5 = some (5, 1)) /\ (tField Tryd.prog 66 6 = some (6, none)) /\ (placeOf Tryd.prog 66 6 = some (6, 1)) /\ (tField Tryd.prog 66 7 = some (7, none)) /\ (placeOf Tryd.prog 66 7 = some (7, 1)) /\ (tField Tryd.prog 66 8 = some (8, none)) /\ (placeOf Tryd.prog 66 8 = some (8, 1)) /\ (buildable Tryd.prog 66 = true) :=
 by and_intros <;> kernel_rfl
theorem ty67 : (tLoad Tryd.prog 67 = some (some 9)) /\ (tKind Tryd.prog 67 = some .other) /\ (tSz Tryd.prog 67 = some 9) /\ (Tryd.prog.bytesOf 67 = 216) /\ (tZero Tryd.prog 67 = some [.nilsl, .nilsl, .nilsl, .nilsl, .nilsl, .nilsl, .nilsl, .nilsl, .nilsl]) /\ (eok Tryd.prog 67 [.nilsl, .nilsl, .nilsl, .nilsl, .nilsl, .nilsl, .nilsl, .nilsl, .nilsl] = true) /\ (mkE Tryd.prog 67 [.nilsl, .nilsl, .nilsl, .nilsl, .nilsl, .nilsl, .nilsl, .nilsl, .nilsl] = .agg [.nilsl, .nilsl, .nilsl, .nilsl, .nilsl, .nilsl, .nilsl, .nilsl, .nilsl]) /\ (zeroOf Tryd.prog 67 = some [.nilsl, .nilsl, .nilsl, .nilsl, .nilsl, .nilsl, .nilsl, .nilsl, .nilsl]) /\ (tField Tryd.prog 67 0 = some (0, none)) /\ (placeOf Tryd.prog 67 0 = some (0, 1)) /\ (tField Tryd.prog 67 1 = some (1, none)) /\ (placeOf Tryd.prog 67 1 = some (1, 1)) /\ (tField Tryd.prog 67 2 = some (2, none)) /\ (placeOf Tryd.prog 67 2 = some (2, 1)) /\ (tField Tryd.prog 67 3 = some (3, none)) /\ (placeOf Tryd.prog 67 3 = some (3, 1)) /\ (tField Tryd.prog 67 4 = some (4, none)) /\ (placeOf Tryd.prog 67 4 = some (4, 1)) /\ (tField Tryd.prog 67 5 = some (5, none)) /\ (placeOf Tryd.prog 67 5 = some (5, 1)) /\ (tField Tryd.prog 67 6 = some (6, none)) /\ (placeOf Tryd.prog 67 6 = some (6, 1)) /\ (tField Tryd.prog 67 7 = some (7, none)) /\ (placeOf Tryd.prog 67 7 = some (7, 1)) /\ (tField Tryd.prog 67 8 = some (8, none)) /\ (placeOf Tryd.prog 67 8 = some (8, 1)) /\ (buildable Tryd.prog 67 = true) :=
 by and_intros <;> kernel_rfl
theorem ty69 : (tLoad Tryd.prog 69 = some (some 2)) /\ (tKind Tryd.prog 69 = some .other) /\ (tSz Tryd.prog 69 = some 2) /\ (Tryd.prog.bytesOf 69 = 16) /\ (tZero Tryd.prog 69 = some [.int .i64 0, .int .i64 0]) /\ (eok Tryd.prog 69 [.int .i64 0, .int .i64 0] = true) /\ (mkE Tryd.prog 69 [.int .i64 0, .int .i64 0] = .agg [.int .i64 0, .int .i64 0]) /\ (zeroOf Tryd.prog 69 = some [.int .i64 0, .int .i64 0]) /\ (tField Tryd.prog 69 0 = some (0, none)) /\ (placeOf Tryd.prog 69 0 = some (0, 1)) /\ (tField Tryd.prog 69 1 = some (1, none)) /\ (placeOf Tryd.prog 69 1 = some (1, 1)) /\ (buildable Tryd.prog 69 = true) /\ (leaves Tryd.prog 69 = some [.i .i64, .i .i64]) :=
 by and_intros <;> kernel_rfl
theorem ty70 : (tLoad Tryd.prog 70 = some (some 2)) /\ (tKind Tryd.prog 70 = some .other) /\ (tSz Tryd.prog 70 = some 2) /\ (Tryd.prog.bytesOf 70 = 16) /\ (tZero Tryd.prog 70 = some [.int .i64 0, .int .i64 0]) /\ (eok Tryd.prog 70 [.int .i64 0, .int .i64 0] = true) /\ (mkE Tryd.prog 70 [.int .i64 0, .int .i64 0] = .agg [.int .i64 0, .int .i64 0]) /\ (zeroOf Tryd.prog 70 = some [.int .i64 0, .int .i64 0]) /\ (tField Tryd.prog 70 0 = some (0, none)) /\ (placeOf Tryd.prog 70 0 = some (0, 1)) /\ (tField Tryd.prog 70 1 = some (1, none)) /\ (placeOf Tryd.prog 70 1 = some (1, 1)) /\ (buildable Tryd.prog 70 = true) /\ (leaves Tryd.prog 70 = some [.i .i64, .i .i64]) :=
 by and_intros <;> kernel_rfl
theorem ty73 : (tLoad Tryd.prog 73 = some none) /\ (tKind Tryd.prog 73 = some .slice) /\ (tSz Tryd.prog 73 = some 1) /\ (Tryd.prog.bytesOf 73 = 24) /\ (tZero Tryd.prog 73 = some [.nilsl]) /\ (eok Tryd.prog 73 [.nilsl] = true) /\ (mkE Tryd.prog 73 [.nilsl] = .nilsl) /\ (zeroOf Tryd.prog 73 = some [.nilsl]) /\ (tIndex Tryd.prog 73 = some (none, 2, some 2)) /\ (tSliceElem Tryd.prog 73 = some 115) /\ (isTy2 Tryd.prog 73 = true) :=
 by and_intros <;> kernel_rfl
theorem ty74 : (tLoad Tryd.prog 74 = some (some 5)) /\ (tKind Tryd.prog 74 = some .other) /\ (tSz Tryd.prog 74 = some 5) /\ (Tryd.prog.bytesOf 74 = 96) /\ (tZero Tryd.prog 74 = some [.str ⟨#[]⟩, .int .i64 0, .nilsl, .nilsl, .nilsl]) /\ (eok Tryd.prog 74 [.str ⟨#[]⟩, .int .i64 0, .nilsl, .nilsl, .nilsl] = true) /\ (mkE Tryd.prog 74 [.str ⟨#[]⟩, .int .i64 0, .nilsl, .nilsl, .nilsl] = .agg [.str ⟨#[]⟩, .int .i64 0, .nilsl, .nilsl, .nilsl]) /\ (zeroOf Tryd.prog 74 = some [.str ⟨#[]⟩, .int .i64 0, .nilsl, .nilsl, .nilsl]) /\ (tField Tryd.prog 74 0 = some (0, none)) /\ (placeOf Tryd.prog 74 0 = some (0, 1)) /\ (tField Tryd.prog 74 1 = some (1, none)) /\ (placeOf Tryd.prog 74 1 = some (1, 1)) /\ (tField Tryd.prog 74 2 = some (2, none)) /\ (placeOf Tryd.prog 74 2 = some (2, 1)) /\ (tField Tryd.prog 74 3 = some (3, none)) /\ (placeOf Tryd.prog 74 3 = some (3, 1)) /\ (tField Tryd.prog 74 4 = some (4, none)) /\ (placeOf Tryd.prog 74 4 = some (4, 1)) /\ (buildable Tryd.prog 74 = true) :=
 by and_intros <;> kernel_rfl
theorem ty75 : (tLoad Tryd.prog 75 = some (some 5)) /\ (tKind Tryd.prog 75 = some .other) /\ (tSz Tryd.prog 75 = some 5) /\ (Tryd.prog.bytesOf 75 = 96) /\ (tZero Tryd.prog 75 = some [.str ⟨#[]⟩, .int .i64 0, .nilsl, .nilsl, .nilsl]) /\ (eok Tryd.prog 75 [.str ⟨#[]⟩, .int .i64 0, .nilsl, .nilsl, .nilsl] = true) /\ (mkE Tryd.prog 75 [.str ⟨#[]⟩, .int .i64 0, .nilsl, .nilsl, .nilsl] = .agg [.str ⟨#[]⟩, .int .i64 0, .nilsl, .nilsl, .nilsl]) /\ (zeroOf Tryd.prog 75 = some [.str ⟨#[]⟩, .int .i64 0, .nilsl, .nilsl, .nilsl]) /\ (tField Tryd.prog 75 0 = some (0, none)) /\ (placeOf Tryd.prog 75 0 = some (0, 1)) /\ (tField Tryd.prog 75 1 = some (1, none)) /\ (placeOf Tryd.prog 75 1 = some (1, 1)) /\ (tField Tryd.prog 75 2 = some (2, none)) /\ (placeOf Tryd.prog 75 2 = some (2, 1)) /\ (tField Tryd.prog 75 3 = some (3, none)) /\ (placeOf Tryd.prog 75 3 = some (3, 1)) /\ (tField Tryd.prog 75 4 = some (4, none)) /\ (placeOf Tryd.prog 75 4 = some (4, 1)) /\ (buildable Tryd.prog 75 = true) :=
 by and_intros <;> kernel_rfl
theorem ty76 : (tLoad Tryd.prog 76 = some none) /\ (tKind Tryd.prog 76 = some .slice) /\ (tSz Tryd.prog 76 = some 1) /\ (Tryd.prog.bytesOf 76 = 24) /\ (tZero Tryd.prog 76 = some [.nilsl]) /\ (eok Tryd.prog 76 [.nilsl] = true) /\ (mkE Tryd.prog 76 [.nilsl] = .nilsl) /\ (zeroOf Tryd.prog 76 = some [.nilsl]) /\ (tIndex Tryd.prog 76 = some (none, 1, none)) /\ (tSliceElem Tryd.prog 76 = some 4) /\ (isTy2 Tryd.prog 76 = true) :=
 by and_intros <;> kernel_rfl
theorem ty78 : (tLoad Tryd.prog 78 = some none) /\ (tKind Tryd.prog 78 = some .func) /\ (tSz Tryd.prog 78 = some 1) /\ (Tryd.prog.bytesOf 78 = 8) /\ (tZero Tryd.prog 78 = some [.nilf]) /\ (eok Tryd.prog 78 [.nilf] = true) /\ (mkE Tryd.prog 78 [.nilf] = .nilf) /\ (zeroOf Tryd.prog 78 = some [.nilf]) :=
 by and_intros <;> kernel_rfl
theorem ty80 : (tLoad Tryd.prog 80 = some none) /\ (tKind Tryd.prog 80 = some (.int .i64)) /\ (tSz Tryd.prog 80 = some 1) /\ (Tryd.prog.bytesOf 80 = 8) /\ (tZero Tryd.prog 80 = some [.int .i64 0]) /\ (eok Tryd.prog 80 [.int .i64 0] = true) /\ (mkE Tryd.prog 80 [.int .i64 0] = .int .i64 0) /\ (zeroOf Tryd.prog 80 = some [.int .i64 0]) :=
 by and_intros <;> kernel_rfl
theorem ty81 : (tLoad Tryd.prog 81 = some none) /\ (tKind Tryd.prog 81 = some .slice) /\ (tSz Tryd.prog 81 = some 1) /\ (Tryd.prog.bytesOf 81 = 24) /\ (tZero Tryd.prog 81 = some [.nilsl]) /\ (eok Tryd.prog 81 [.nilsl] = true) /\ (mkE Tryd.prog 81 [.nilsl] = .nilsl) /\ (zeroOf Tryd.prog 81 = some [.nilsl]) /\ (tIndex Tryd.prog 81 = some (none, 1, none)) /\ (tSliceElem Tryd.prog 81 = some 80) /\ (isTy2 Tryd.prog 81 = true) :=
 by and_intros <;> kernel_rfl
theorem ty82 : (tLoad Tryd.prog 82 = some (some 5)) /\ (tKind Tryd.prog 82 = some .other) /\ (tSz Tryd.prog 82 = some 5) /\ (Tryd.prog.bytesOf 82 = 56) /\ (tZero Tryd.prog 82 = some [.int .i64 0, .int .i64 0, .int .i64 0, .int .i64 0, .nilsl]) /\ (eok Tryd.prog 82 [.int .i64 0, .int .i64 0, .int .i64 0, .int .i64 0, .nilsl] = true) /\ (mkE Tryd.prog 82 [.int .i64 0, .int .i64 0, .int .i64 0, .int .i64 0, .nilsl] = .agg [.int .i64 0, .int .i64 0, .int .i64 0, .int .i64 0, .nilsl]) /\ (zeroOf Tryd.prog 82 = some [.int .i64 0, .int .i64 0, .int .i64 0, .int .i64 0, .nilsl]) /\ (tField Tryd.prog 82 0 = some (0, none)) /\ (placeOf Tryd.prog 82 0 = some (0, 1)) /\ (tField Tryd.prog 82 1 = some (1, none)) /\ (placeOf Tryd.prog 82 1 = some (1, 1)) /\ (tField Tryd.prog 82 2 = some (2, none)) /\ (placeOf Tryd.prog 82 2 = some (2, 1)) /\ (tField Tryd.prog 82 3 = some (3, none)) /\ (placeOf Tryd.prog 82 3 = some (3, 1)) /\ (tField Tryd.prog 82 4 = some (4, none)) /\ (placeOf Tryd.prog 82 4 = some (4, 1)) /\ (buildable Tryd.prog 82 = true) :=
 by and_intros <;> kernel_rfl
theorem ty83 : (tLoad Tryd.prog 83 = some (some 5)) /\ (tKind Tryd.prog 83 = some .other) /\ (tSz Tryd.prog 83 = some 5) /\ (Tryd.prog.bytesOf 83 = 56) /\ (tZero Tryd.prog 83 = some [.int .i64 0, .int .i64 0, .int .i64 0, .int .i64 0, .nilsl]) /\ (eok Tryd.prog 83 [.int .i64 0, .int .i64 0, .int .i64 0, .int .i64 0, .nilsl] = true) /\ (mkE Tryd.prog 83 [.int .i64 0, .int .i64 0, .int .i64 0, .int .i64 0, .nilsl] = .agg [.int .i64 0, .int .i64 0, .int .i64 0, .int .i64 0, .nilsl]) /\ (zeroOf Tryd.prog 83 = some [.int .i64 0, .int .i64 0, .int .i64 0, .int .i64 0, .nilsl]) /\ (tField Tryd.prog 83 0 = some (0, none)) /\ (placeOf Tryd.prog 83 0 = some (0, 1)) /\ (tField Tryd.prog 83 1 = some (1, none)) /\ (placeOf Tryd.prog 83 1 = some (1, 1)) /\ (tField Tryd.prog 83 2 = some (2, none)) /\ (placeOf Tryd.prog 83 2 = some (2, 1)) /\ (tField Tryd.prog 83 3 = some (3, none)) /\ (placeOf Tryd.prog 83 3 = some (3, 1)) /\ (tField Tryd.prog 83 4 = some (4, none)) /\ (placeOf Tryd.prog 83 4 = some (4, 1)) /\ (buildable Tryd.prog 83 = true) :=
 by and_intros <;> kernel_rfl
theorem ty84 : (tLoad Tryd.prog 84 = some (some 9)) /\ (tKind Tryd.prog 84 = some .other) /\ (tSz Tryd.prog 84 = some 9) /\ (Tryd.prog.bytesOf 84 = 80) /\ (tZero Tryd.prog 84 = some [.int .i64 0, .int .i64 0, .int .i64 0, .int .i64 0, .nilsl, .bool false, .int .i64 0, .bool false, .bool false]) /\ (eok Tryd.prog 84 [.int .i64 0, .int .i64 0, .int .i64 0, .int .i64 0, .nilsl, .bool false, .int .i64 0, .bool false, .bool false] = true) /\ (mkE Tryd.prog 84 [.int .i64 0, .int .i64 0, .int .i64 0, .int .i64 0, .nilsl, .bool false, .int .i64 0, .bool false, .bool false] = .agg [.int .i64 0, .int .i64 0, .int .i64 0, .int .i64 0, .nilsl, .bool false, .int .i64 0, .bool false, .bool false]) /\ (zeroOf Tryd.prog 84 = some [.int .i64 0, .int .i64 0, .int .i64 0, .int .i64 0, .nilsl, .bool false, .int .i64 0, .bool false, .bool false]) /\ (tField Tryd.prog 84 0 = some (0, some 5)) /\ (placeOf Tryd.prog 84 0 = some (0, 5)) /\ (tField Tryd.prog 84 1 = some (5, none)) /\ (placeOf Tryd.prog 84 1 = some (5, 1)) /\ (tField Tryd.prog 84 2 = some (6, none)) /\ (placeOf Tryd.prog 84 2 = some (6, 1)) /\ (tField Tryd.prog 84 3 = some (7, none)) /\ (placeOf Tryd.prog 84 3 = some (7, 1)) /\ (tField Tryd.prog 84 4 = some (8, none)) /\ (placeOf Tryd.prog 84 4 = some (8, 1)) /\ (buildable Tryd.prog 84 = true) :=
 by and_intros <;> kernel_rfl
theorem ty85 : (tLoad Tryd.prog 85 = some (some 9)) /\ (tKind Tryd.prog 85 = some .other) /\ (tSz Tryd.prog 85 = some 9) /\ (Tryd.prog.bytesOf 85 = 80) /\ (tZero Tryd.prog 85 = some [.int .i64 0, .int .i64 0, .int .i64 0, .int .i64 0, .nilsl, .bool false, .int .i64 0, .bool false, .bool false]) /\ (eok Tryd.prog 85 [.int .i64 0, .int .i64 0, .int .i64 0, .int .i64 0, .nilsl, .bool false, .int .i64 0, .bool false, .bool false] = true) /\ (mkE Tryd.prog 85 [.int .i64 0, .int .i64 0, .int .i64 0, .int .i64 0, .nilsl, .bool false, .int .i64 0, .bool false, .bool false] = .agg [.int .i64 0, .int .i64 0, .int .i64 0, .int .i64 0, .nilsl, .bool false, .int .i64 0, .bool false, .bool false]) /\ (zeroOf Tryd.prog 85 = some [.int .i64 0, .int .i64 0, .int .i64 0, .int .i64 0, .nilsl, .bool false, .int .i64 0, .bool false, .bool false]) /\ (tField Tryd.prog 85 0 = some (0, some 5)) /\ (placeOf Tryd.prog 85 0 = some (0, 5)) /\ (tField Tryd.prog 85 1 = some (5, none)) /\ (placeOf Tryd.prog 85 1 = some (5, 1)) /\ (tField Tryd.prog 85 2 = some (6, none)) /\ (placeOf Tryd.prog 85 2 = some (6, 1)) /\ (tField Tryd.prog 85 3 = some (7, none)) /\ (placeOf Tryd.prog 85 3 = some (7, 1)) /\ (tField Tryd.prog 85 4 = some (8, none)) /\ (placeOf Tryd.prog 85 4 = some (8, 1)) /\ (buildable Tryd.prog 85 = true) :=
 by and_intros <;> kernel_rfl
theorem ty90 : (tLoad Tryd.prog 90 = some none) /\ (tKind Tryd.prog 90 = some .func) /\ (tSz Tryd.prog 90 = some 1) /\ (Tryd.prog.bytesOf 90 = 8) /\ (tZero Tryd.prog 90 = some [.nilf]) /\ (eok Tryd.prog 90 [.nilf] = true) /\ (mkE Tryd.prog 90 [.nilf] = .nilf) /\ (zeroOf Tryd.prog 90 = some [.nilf]) :=
 by and_intros <;> kernel_rfl
theorem ty91 : (tLoad Tryd.prog 91 = some none) /\ (tKind Tryd.prog 91 = some .func) /\ (tSz Tryd.prog 91 = some 1) /\ (Tryd.prog.bytesOf 91 = 8) /\ (tZero Tryd.prog 91 = some [.nilf]) /\ (eok Tryd.prog 91 [.nilf] = true) /\ (mkE Tryd.prog 91 [.nilf] = .nilf) /\ (zeroOf Tryd.prog 91 = some [.nilf]) :=
 by and_intros <;> kernel_rfl
theorem ty93 : (tLoad Tryd.prog 93 = some (some 4)) /\ (tKind Tryd.prog 93 = some .other) /\ (tSz Tryd.prog 93 = some 4) /\ (Tryd.prog.bytesOf 93 = 32) /\ (tZero Tryd.prog 93 = some [.int .i64 0, .int .i64 0, .int .i64 0, .int .i64 0]) /\ (eok Tryd.prog 93 [.int .i64 0, .int .i64 0, .int .i64 0, .int .i64 0] = true) /\ (mkE Tryd.prog 93 [.int .i64 0, .int .i64 0, .int .i64 0, .int .i64 0] = .agg [.int .i64 0, .int .i64 0, .int .i64 0, .int .i64 0]) /\ (zeroOf Tryd.prog 93 = some [.int .i64 0, .int .i64 0, .int .i64 0, .int .i64 0]) /\ (tIndex Tryd.prog 93 = some (some 4, 1, none)) /\ (placeOf Tryd.prog 93 0 = some (0, 1)) /\ (placeOf Tryd.prog 93 1 = some (1, 1)) /\ (placeOf Tryd.prog 93 2 = some (2, 1)) /\ (placeOf Tryd.prog 93 3 = some (3, 1)) /\ (buildable Tryd.prog 93 = true) /\ (leaves Tryd.prog 93 = some [.i .i64, .i .i64, .i .i64, .i .i64]) :=
 by and_intros <;> kernel_rfl
theorem ty94 : (tLoad Tryd.prog 94 = some none) /\ (tKind Tryd.prog 94 = some .func) /\ (tSz Tryd.prog 94 = some 1) /\ (Tryd.prog.bytesOf 94 = 8) /\ (tZero Tryd.prog 94 = some [.nilf]) /\ (eok Tryd.prog 94 [.nilf] = true) /\ (mkE Tryd.prog 94 [.nilf] = .nilf) /\ (zeroOf Tryd.prog 94 = some [.nilf]) :=
 by and_intros <;> kernel_rfl
theorem ty96 : (tLoad Tryd.prog 96 = some (some 6)) /\ (tKind Tryd.prog 96 = some .other) /\ (tSz Tryd.prog 96 = some 6) /\ (Tryd.prog.bytesOf 96 = 64) /\ (tZero Tryd.prog 96 = some [.int .i64 0, .int .i64 0, .int .i64 0, .bool false, .nilsl, .int .i64 0]) /\ (eok Tryd.prog 96 [.int .i64 0, .int .i64 0, .int .i64 0, .bool false, .nilsl, .int .i64 0] = true) /\ (mkE Tryd.prog 96 [.int .i64 0, .int .i64 0, .int .i64 0, .bool false, .nilsl, .int .i64 0] = .agg [.int .i64 0, .int .i64 0, .int .i64 0, .bool false, .nilsl, .int .i64 0]) /\ (zeroOf Tryd.prog 96 = some [.int .i64 0, .int .i64 0, .int .i64 0, .bool false, .nilsl, .int .i64 0]) /\ (tField Tryd.prog 96 0 = some (0, none)) /\ (placeOf Tryd.prog 96 0 = some (0, 1)) /\ (tField Tryd.prog 96 1 = some (1, none)) /\ (placeOf Tryd.prog 96 1 = some (1, 1)) /\ (tField Tryd.prog 96 2 = some (2, none)) /\ (placeOf Tryd.prog 96 2 = some (2, 1)) /\ (tField Tryd.prog 96 3 = some (3, none)) /\ (placeOf Tryd.prog 96 3 = some (3, 1)) /\ (tField Tryd.prog 96 4 = some (4, none)) /\ (placeOf Tryd.prog 96 4 = some (4, 1)) /\ (tField Tryd.prog 96 5 = some (5, none)) /\ (placeOf Tryd.prog 96 5 = some (5, 1)) /\ (buildable Tryd.prog 96 = true) :=
 by and_intros <;> kernel_rfl
theorem ty97 : (tLoad Tryd.prog 97 = some (some 6)) /\ (tKind Tryd.prog 97 = some .other) /\ (tSz Tryd.prog 97 = some 6) /\ (Tryd.prog.bytesOf 97 = 64) /\ (tZero Tryd.prog 97 = some [.int .i64 0, .int .i64 0, .int .i64 0, .bool false, .nilsl, .int .i64 0]) /\ (eok Tryd.prog 97 [.int .i64 0, .int .i64 0, .int .i64 0, .bool false, .nilsl, .int .i64 0] = true) /\ (mkE Tryd.prog 97 [.int .i64 0, .int .i64 0, .int .i64 0, .bool false, .nilsl, .int .i64 0] = .agg [.int .i64 0, .int .i64 0, .int .i64 0, .bool false, .nilsl, .int .i64 0]) /\ (zeroOf Tryd.prog 97 = some [.int .i64 0, .int .i64 0, .int .i64 0, .bool false, .nilsl, .int .i64 0]) /\ (tField Tryd.prog 97 0 = some (0, none)) /\ (placeOf Tryd.prog 97 0 = some (0, 1)) /\ (tField Tryd.prog 97 1 = some (1, none)) /\ (placeOf Tryd.prog 97 1 = some (1, 1)) /\ (tField Tryd.prog 97 2 = some (2, none)) /\ (placeOf Tryd.prog 97 2 = some (2, 1)) /\ (tField Tryd.prog 97 3 = some (3, none)) /\ (placeOf Tryd.prog 97 3 = some (3, 1)) /\ (tField Tryd.prog 97 4 = some (4, none)) /\ (placeOf Tryd.prog 97 4 = some (4, 1)) /\ (tField Tryd.prog 97 5 = some (5, none)) /\ (placeOf Tryd.prog 97 5 = some (5, 1)) /\ (buildable Tryd.prog 97 = true) :=
 by and_intros <;> kernel_rfl
theorem ty99 : (tLoad Tryd.prog 99 = some none) /\ (tKind Tryd.prog 99 = some .func) /\ (tSz Tryd.prog 99 = some 1) /\ (Tryd.prog.bytesOf 99 = 8) /\ (tZero Tryd.prog 99 = some [.nilf]) /\ (eok Tryd.prog 99 [.nilf] = true) /\ (mkE Tryd.prog 99 [.nilf] = .nilf) /\ (zeroOf Tryd.prog 99 = some [.nilf]) :=
 by and_intros <;> kernel_rfl
theorem ty101 : (tLoad Tryd.prog 101 = some none) /\ (tKind Tryd.prog 101 = some .func) /\ (tSz Tryd.prog 101 = some 1) /\ (Tryd.prog.bytesOf 101 = 8) /\ (tZero Tryd.prog 101 = some [.nilf]) /\ (eok Tryd.prog 101 [.nilf] = true) /\ (mkE Tryd.prog 101 [.nilf] = .nilf) /\ (zeroOf Tryd.prog 101 = some [.nilf]) :=
 by and_intros <;> kernel_rfl
theorem ty102 : (tLoad Tryd.prog 102 = some none) /\ (tKind Tryd.prog 102 = some .func) /\ (tSz Tryd.prog 102 = some 1) /\ (Tryd.prog.bytesOf 102 = 8) /\ (tZero Tryd.prog 102 = some [.nilf]) /\ (eok Tryd.prog 102 [.nilf] = true) /\ (mkE Tryd.prog 102 [.nilf] = .nilf) /\ (zeroOf Tryd.prog 102 = some [.nilf]) :=
 by and_intros <;> kernel_rfl
theorem ty104 : (tLoad Tryd.prog 104 = some none) /\ (tKind Tryd.prog 104 = some .func) /\ (tSz Tryd.prog 104 = some 1) /\ (Tryd.prog.bytesOf 104 = 8) /\ (tZero Tryd.prog 104 = some [.nilf]) /\ (eok Tryd.prog 104 [.nilf] = true) /\ (mkE Tryd.prog 104 [.nilf] = .nilf) /\ (zeroOf Tryd.prog 104 = some [.nilf]) :=
 by and_intros <;> kernel_rfl
theorem ty105 : (tLoad Tryd.prog 105 = some (some 5)) /\ (tKind Tryd.prog 105 = some .other) /\ (tSz Tryd.prog 105 = some 5) /\ (Tryd.prog.bytesOf 105 = 64) /\ (tZero Tryd.prog 105 = some [.int .i64 0, .str ⟨#[]⟩, .int .i64 0, .int .i64 0, .nilsl]) /\ (eok Tryd.prog 105 [.int .i64 0, .str ⟨#[]⟩, .int .i64 0, .int .i64 0, .nilsl] = true) /\ (mkE Tryd.prog 105 [.int .i64 0, .str ⟨#[]⟩, .int .i64 0, .int .i64 0, .nilsl] = .agg [.int .i64 0, .str ⟨#[]⟩, .int .i64 0, .int .i64 0, .nilsl]) /\ (zeroOf Tryd.prog 105 = some [.int .i64 0, .str ⟨#[]⟩, .int .i64 0, .int .i64 0, .nilsl]) /\ (tField Tryd.prog 105 0 = some (0, none)) /\ (placeOf Tryd.prog 105 0 = some (0, 1)) /\ (tField Tryd.prog 105 1 = some (1, none)) /\ (placeOf Tryd.prog 105 1 = some (1, 1)) /\ (tField Tryd.prog 105 2 = some (2, none)) /\ (placeOf Tryd.prog 105 2 = some (2, 1)) /\ (tField Tryd.prog 105 3 = some (3, none)) /\ (placeOf Tryd.prog 105 3 = some (3, 1)) /\ (tField Tryd.prog 105 4 = some (4, none)) /\ (placeOf Tryd.prog 105 4 = some (4, 1)) /\ (buildable Tryd.prog 105 = true) :=
 by and_intros <;> kernel_rfl
theorem ty106 : (tLoad Tryd.prog 106 = some (some 5)) /\ (tKind Tryd.prog 106 = some .other) /\ (tSz Tryd.prog 106 = some 5) /\ (Tryd.prog.bytesOf 106 = 64) /\ (tZero Tryd.prog 106 = some [.int .i64 0, .str ⟨#[]⟩, .int .i64 0, .int .i64 0, .nilsl]) /\ (eok Tryd.prog 106 [.int .i64 0, .str ⟨#[]⟩, .int .i64 0, .int .i64 0, .nilsl] = true) /\ (mkE Tryd.prog 106 [.int .i64 0, .str ⟨#[]⟩, .int .i64 0, .int .i64 0, .nilsl] = .agg [.int .i64 0, .str ⟨#[]⟩, .int .i64 0, .int .i64 0, .nilsl]) /\ (zeroOf Tryd.prog 106 = some [.int .i64 0, .str ⟨#[]⟩, .int .i64 0, .int .i64 0, .nilsl]) /\ (tField Tryd.prog 106 0 = some (0, none)) /\ (placeOf Tryd.prog 106 0 = some (0, 1)) /\ (tField Tryd.prog 106 1 = some (1, none)) /\ (placeOf Tryd.prog 106 1 = some (1, 1)) /\ (tField Tryd.prog 106 2 = some (2, none)) /\ (placeOf Tryd.prog 106 2 = some (2, 1)) /\ (tField Tryd.prog 106 3 = some (3, none)) /\ (placeOf Tryd.prog 106 3 = some (3, 1)) /\ (tField Tryd.prog 106 4 = some (4, none)) /\ (placeOf Tryd.prog 106 4 = some (4, 1)) /\ (buildable Tryd.prog 106 = true) :=
 by and_intros <;> kernel_rfl
theorem ty108 : (tLoad Tryd.prog 108 = some none) /\ (tKind Tryd.prog 108 = some .func) /\ (tSz Tryd.prog 108 = some 1) /\ (Tryd.prog.bytesOf 108 = 8) /\ (tZero Tryd.prog 108 = some [.nilf]) /\ (eok Tryd.prog 108 [.nilf] = true) /\ (mkE Tryd.prog 108 [.nilf] = .nilf) /\ (zeroOf Tryd.prog 108 = some [.nilf]) :=
 by and_intros <;> kernel_rfl
theorem ty110 : (tLoad Tryd.prog 110 = some none) /\ (tKind Tryd.prog 110 = some (.int .u64)) /\ (tSz Tryd.prog 110 = some 1) /\ (Tryd.prog.bytesOf 110 = 8) /\ (tZero Tryd.prog 110 = some [.int .u64 0]) /\ (eok Tryd.prog 110 [.int .u64 0] = true) /\ (mkE Tryd.prog 110 [.int .u64 0] = .int .u64 0) /\ (zeroOf Tryd.prog 110 = some [.int .u64 0]) :=
 by and_intros <;> kernel_rfl
theorem ty111 : (tLoad Tryd.prog 111 = some (some 5)) /\ (tKind Tryd.prog 111 = some .other) /\ (tSz Tryd.prog 111 = some 5) /\ (Tryd.prog.bytesOf 111 = 64) /\ (tZero Tryd.prog 111 = some [.int .i64 0, .int .u64 0, .int .u64 0, .str ⟨#[]⟩, .nilsl]) /\ (eok Tryd.prog 111 [.int .i64 0, .int .u64 0, .int .u64 0, .str ⟨#[]⟩, .nilsl] = true) /\ (mkE Tryd.prog 111 [.int .i64 0, .int .u64 0, .int .u64 0, .str ⟨#[]⟩, .nilsl] = .agg [.int .i64 0, .int .u64 0, .int .u64 0, .str ⟨#[]⟩, .nilsl]) /\ (zeroOf Tryd.prog 111 = some [.int .i64 0, .int .u64 0, .int .u64 0, .str ⟨#[]⟩, .nilsl]) /\ (tField Tryd.prog 111 0 = some (0, none)) /\ (placeOf Tryd.prog 111 0 = some (0, 1)) /\ (tField Tryd.prog 111 1 = some (1, none)) /\ (placeOf Tryd.prog 111 1 = some (1, 1)) /\ (tField Tryd.prog 111 2 = some (2, none)) /\ (placeOf Tryd.prog 111 2 = some (2, 1)) /\ (tField Tryd.prog 111 3 = some (3, none)) /\ (placeOf Tryd.prog 111 3 = some (3, 1)) /\ (tField Tryd.prog 111 4 = some (4, none)) /\ (placeOf Tryd.prog 111 4 = some (4, 1)) /\ (buildable Tryd.prog 111 = true) :=
 by and_intros <;> kernel_rfl
theorem ty112 : (tLoad Tryd.prog 112 = some (some 5)) /\ (tKind Tryd.prog 112 = some .other) /\ (tSz Tryd.prog 112 = some 5) /\ (Tryd.prog.bytesOf 112 = 64) /\ (tZero Tryd.prog 112 = some [.int .i64 0, .int .u64 0, .int .u64 0, .str ⟨#[]⟩, .nilsl]) /\ (eok Tryd.prog 112 [.int .i64 0, .int .u64 0, .int .u64 0, .str ⟨#[]⟩, .nilsl] = true) /\ (mkE Tryd.prog 112 [.int .i64 0, .int .u64 0, .int .u64 0, .str ⟨#[]⟩, .nilsl] = .agg [.int .i64 0, .int .u64 0, .int .u64 0, .str ⟨#[]⟩, .nilsl]) /\ (zeroOf Tryd.prog 112 = some [.int .i64 0, .int .u64 0, .int .u64 0, .str ⟨#[]⟩, .nilsl]) /\ (tField Tryd.prog 112 0 = some (0, none)) /\ (placeOf Tryd.prog 112 0 = some (0, 1)) /\ (tField Tryd.prog 112 1 = some (1, none)) /\ (placeOf Tryd.prog 112 1 = some (1, 1)) /\ (tField Tryd.prog 112 2 = some (2, none)) /\ (placeOf Tryd.prog 112 2 = some (2, 1)) /\ (tField Tryd.prog 112 3 = some (3, none)) /\ (placeOf Tryd.prog 112 3 = some (3, 1)) /\ (tField Tryd.prog 112 4 = some (4, none)) /\ (placeOf Tryd.prog 112 4 = some (4, 1)) /\ (buildable Tryd.prog 112 = true) :=
 by and_intros <;> kernel_rfl
theorem ty113 : (tLoad Tryd.prog 113 = some none) /\ (tKind Tryd.prog 113 = some .func) /\ (tSz Tryd.prog 113 = some 1) /\ (Tryd.prog.bytesOf 113 = 8) /\ (tZero Tryd.prog 113 = some [.nilf]) /\ (eok Tryd.prog 113 [.nilf] = true) /\ (mkE Tryd.prog 113 [.nilf] = .nilf) /\ (zeroOf Tryd.prog 113 = some [.nilf]) :=
 by and_intros <;> kernel_rfl
theorem ty114 : (tLoad Tryd.prog 114 = some (some 2)) /\ (tKind Tryd.prog 114 = some .other) /\ (tSz Tryd.prog 114 = some 2) /\ (Tryd.prog.bytesOf 114 = 32) /\ (tZero Tryd.prog 114 = some [.int .i64 0, .nilsl]) /\ (eok Tryd.prog 114 [.int .i64 0, .nilsl] = true) /\ (mkE Tryd.prog 114 [.int .i64 0, .nilsl] = .agg [.int .i64 0, .nilsl]) /\ (zeroOf Tryd.prog 114 = some [.int .i64 0, .nilsl]) /\ (tField Tryd.prog 114 0 = some (0, none)) /\ (placeOf Tryd.prog 114 0 = some (0, 1)) /\ (tField Tryd.prog 114 1 = some (1, none)) /\ (placeOf Tryd.prog 114 1 = some (1, 1)) /\ (buildable Tryd.prog 114 = true) :=
 by and_intros <;> kernel_rfl
theorem ty115 : (tLoad Tryd.prog 115 = some (some 2)) /\ (tKind Tryd.prog 115 = some .other) /\ (tSz Tryd.prog 115 = some 2) /\ (Tryd.prog.bytesOf 115 = 32) /\ (tZero Tryd.prog 115 = some [.int .i64 0, .nilsl]) /\ (eok Tryd.prog 115 [.int .i64 0, .nilsl] = true) /\ (mkE Tryd.prog 115 [.int .i64 0, .nilsl] = .agg [.int .i64 0, .nilsl]) /\ (zeroOf Tryd.prog 115 = some [.int .i64 0, .nilsl]) /\ (tField Tryd.prog 115 0 = some (0, none)) /\ (placeOf Tryd.prog 115 0 = some (0, 1)) /\ (tField Tryd.prog 115 1 = some (1, none)) /\ (placeOf Tryd.prog 115 1 = some (1, 1)) /\ (buildable Tryd.prog 115 = true) :=
 by and_intros <;> kernel_rfl
theorem ty116 : (tLoad Tryd.prog 116 = some none) /\ (tKind Tryd.prog 116 = some .func) /\ (tSz Tryd.prog 116 = some 1) /\ (Tryd.prog.bytesOf 116 = 8) /\ (tZero Tryd.prog 116 = some [.nilf]) /\ (eok Tryd.prog 116 [.nilf] = true) /\ (mkE Tryd.prog 116 [.nilf] = .nilf) /\ (zeroOf Tryd.prog 116 = some [.nilf]) :=
 by and_intros <;> kernel_rfl
theorem ty119 : (tLoad Tryd.prog 119 = some none) /\ (tKind Tryd.prog 119 = some .other) /\ (tSz Tryd.prog 119 = some 1) /\ (Tryd.prog.bytesOf 119 = 8) /\ (tZero Tryd.prog 119 = some [.nilm]) /\ (eok Tryd.prog 119 [.nilm] = true) /\ (mkE Tryd.prog 119 [.nilm] = .nilm) /\ (zeroOf Tryd.prog 119 = some [.nilm]) /\ (tMap Tryd.prog 119 = some (5, .bool false)) :=
 by and_intros <;> kernel_rfl
theorem ty120 : (tLoad Tryd.prog 120 = some (some 15)) /\ (tKind Tryd.prog 120 = some .other) /\ (tSz Tryd.prog 120 = some 15) /\ (Tryd.prog.bytesOf 120 = 320) /\ (tZero Tryd.prog 120 = some [.nilsl, .nilsl, .nilsl, .nilsl, .nilsl, .nilsl, .nilsl, .nilsl, .nilsl, .str ⟨#[]⟩, .int .i64 0, .nilsl, .nilsl, .nilsl, .nilm]) /\ (eok Tryd.prog 120 [.nilsl, .nilsl, .nilsl, .nilsl, .nilsl, .nilsl, .nilsl, .nilsl, .nilsl, .str ⟨#[]⟩, .int .i64 0, .nilsl, .nilsl, .nilsl, .nilm] = true) /\ (mkE Tryd.prog 120 [.nilsl, .nilsl, .nilsl, .nilsl, .nilsl, .nilsl, .nilsl, .nilsl, .nilsl, .str ⟨#[]⟩, .int .i64 0, .nilsl, .nilsl, .nilsl, .nilm] = .agg [.nilsl, .nilsl, .nilsl, .nilsl, .nilsl, .nilsl, .nilsl, .nilsl, .nilsl, .str ⟨#[]⟩, .int .i64 0, .nilsl, .nilsl, .nilsl, .nilm]) /\ (zeroOf Tryd.prog 120 = some [.nilsl, .nilsl, .nilsl, .nilsl, .nilsl, .nilsl, .nilsl, .nilsl, .nilsl, .str ⟨#[]⟩, .int .i64 0, .nilsl, .nilsl, .nilsl, .nilm]) /\ (tField Tryd.prog 120 0 = some (0, some 9)) /\ (placeOf Tryd.prog 120 0 = some (0, 9)) /\ (tField Tryd.prog 120 1 = some (9, some 5)) /\ (placeOf Tryd.prog 120 1 = some (9, 5)) /\ (tField Tryd.prog 120 2 = some (14, none)) /\ (placeOf Tryd.prog 120 2 = some (14, 1)) /\ (buildable Tryd.prog 120 = true) :=
 by and_intros <;> kernel_rfl
theorem ty121 : (tLoad Tryd.prog 121 = some (some 15)) /\ (tKind Tryd.prog 121 = some .other) /\ (tSz Tryd.prog 121 = some 15) /\ (Tryd.prog.bytesOf 121 = 320) /\ (tZero Tryd.prog 121 = some [.nilsl, .nilsl, .nilsl, .nilsl, .nilsl, .nilsl, .nilsl, .nilsl, .nilsl, .str ⟨#[]⟩, .int .i64 0, .nilsl, .nilsl, .nilsl, .nilm]) /\ (eok Tryd.prog 121 [.nilsl, .nilsl, .nilsl, .nilsl, .nilsl, .nilsl, .nilsl, .nilsl, .nilsl, .str ⟨#[]⟩, .int .i64 0, .nilsl, .nilsl, .nilsl, .nilm] = true) /\ (mkE Tryd.prog 121 [.nilsl, .nilsl, .nilsl, .nilsl, .nilsl, .nilsl, .nilsl, .nilsl, .nilsl, .str ⟨#[]⟩, .int .i64 0, .nilsl, .nilsl, .nilsl, .nilm] = .agg [.nilsl, .nilsl, .nilsl, .nilsl, .nilsl, .nilsl, .nilsl, .nilsl, .nilsl, .str ⟨#[]⟩, .int .i64 0, .nilsl, .nilsl, .nilsl, .nilm]) /\ (zeroOf Tryd.prog 121 = some [.nilsl, .nilsl, .nilsl, .nilsl, .nilsl, .nilsl, .nilsl, .nilsl, .nilsl, .str ⟨#[]⟩, .int .i64 0, .nilsl, .nilsl, .nilsl, .nilm]) /\ (tField Tryd.prog 121 0 = some (0, some 9)) /\ (placeOf Tryd.prog 121 0 = some (0, 9)) /\ (tField Tryd.prog 121 1 = some (9, some 5)) /\ (placeOf Tryd.prog 121 1 = some (9, 5)) /\ (tField Tryd.prog 121 2 = some (14, none)) /\ (placeOf Tryd.prog 121 2 = some (14, 1)) /\ (buildable Tryd.prog 121 = true) :=
 by and_intros <;> kernel_rfl
theorem ty124 : (tLoad Tryd.prog 124 = some (some 216)) /\ (tKind Tryd.prog 124 = some .other) /\ (tSz Tryd.prog 124 = some 216) /\ (Tryd.prog.bytesOf 124 = 1920) /\ (tIndex Tryd.prog 124 = some (some 24, 9, some 9)) /\ (placeOf Tryd.prog 124 0 = some (0, 9)) /\ (placeOf Tryd.prog 124 1 = some (9, 9)) /\ (placeOf Tryd.prog 124 2 = some (18, 9)) /\ (placeOf Tryd.prog 124 3 = some (27, 9)) /\ (placeOf Tryd.prog 124 4 = some (36, 9)) /\ (placeOf Tryd.prog 124 5 = some (45, 9)) /\ (placeOf Tryd.prog 124 6 = some (54, 9)) /\ (placeOf Tryd.prog 124 7 = some (63, 9)) /\ (buildable Tryd.prog 124 = true) :=
 by and_intros <;> kernel_rfl
theorem ty125 : (tLoad Tryd.prog 125 = some none) /\ (tKind Tryd.prog 125 = some .func) /\ (tSz Tryd.prog 125 = some 1) /\ (Tryd.prog.bytesOf 125 = 8) /\ (tZero Tryd.prog 125 = some [.nilf]) /\ (eok Tryd.prog 125 [.nilf] = true) /\ (mkE Tryd.prog 125 [.nilf] = .nilf) /\ (zeroOf Tryd.prog 125 = some [.nilf]) :=
 by and_intros <;> kernel_rfl
theorem ty140 : (tLoad Tryd.prog 140 = some (some 256)) /\ (tKind Tryd.prog 140 = some .other) /\ (tSz Tryd.prog 140 = some 256) /\ (Tryd.prog.bytesOf 140 = 256) /\ (tZero Tryd.prog 140 = some ((List.replicate 256 (0 : Int)).map (AV.int .u8))) /\ (eok Tryd.prog 140 ((List.replicate 256 (0 : Int)).map (AV.int .u8)) = true) /\ (mkE Tryd.prog 140 ((List.replicate 256 (0 : Int)).map (AV.int .u8)) = .agg ((List.replicate 256 (0 : Int)).map (AV.int .u8))) /\ (zeroOf Tryd.prog 140 = some ((List.replicate 256 (0 : Int)).map (AV.int .u8))) /\ (tIndex Tryd.prog 140 = some (some 256, 1, none)) /\ (placeOf Tryd.prog 140 0 = some (0, 1)) /\ (placeOf Tryd.prog 140 1 = some (1, 1)) /\ (placeOf Tryd.prog 140 2 = some (2, 1)) /\ (placeOf Tryd.prog 140 3 = some (3, 1)) /\ (placeOf Tryd.prog 140 4 = some (4, 1)) /\ (placeOf Tryd.prog 140 5 = some (5, 1)) /\ (placeOf Tryd.prog 140 6 = some (6, 1)) /\ (placeOf Tryd.prog 140 7 = some (7, 1)) /\ (buildable Tryd.prog 140 = true) :=
 by and_intros <;> kernel_rfl
theorem ty141 : (tLoad Tryd.prog 141 = some (some 2)) /\ (tKind Tryd.prog 141 = some .other) /\ (tSz Tryd.prog 141 = some 2) /\ (Tryd.prog.bytesOf 141 = 2) /\ (tZero Tryd.prog 141 = some [.int .u8 0, .int .u8 0]) /\ (eok Tryd.prog 141 [.int .u8 0, .int .u8 0] = true) /\ (mkE Tryd.prog 141 [.int .u8 0, .int .u8 0] = .agg [.int .u8 0, .int .u8 0]) /\ (zeroOf Tryd.prog 141 = some [.int .u8 0, .int .u8 0]) /\ (tField Tryd.prog 141 0 = some (0, none)) /\ (placeOf Tryd.prog 141 0 = some (0, 1)) /\ (tField Tryd.prog 141 1 = some (1, none)) /\ (placeOf Tryd.prog 141 1 = some (1, 1)) /\ (buildable Tryd.prog 141 = true) /\ (leaves Tryd.prog 141 = some [.i .u8, .i .u8]) :=
 by and_intros <;> kernel_rfl
theorem ty142 : (tLoad Tryd.prog 142 = some (some 2)) /\ (tKind Tryd.prog 142 = some .other) /\ (tSz Tryd.prog 142 = some 2) /\ (Tryd.prog.bytesOf 142 = 2) /\ (tZero Tryd.prog 142 = some [.int .u8 0, .int .u8 0]) /\ (eok Tryd.prog 142 [.int .u8 0, .int .u8 0] = true) /\ (mkE Tryd.prog 142 [.int .u8 0, .int .u8 0] = .agg [.int .u8 0, .int .u8 0]) /\ (zeroOf Tryd.prog 142 = some [.int .u8 0, .int .u8 0]) /\ (tField Tryd.prog 142 0 = some (0, none)) /\ (placeOf Tryd.prog 142 0 = some (0, 1)) /\ (tField Tryd.prog 142 1 = some (1, none)) /\ (placeOf Tryd.prog 142 1 = some (1, 1)) /\ (buildable Tryd.prog 142 = true) /\ (leaves Tryd.prog 142 = some [.i .u8, .i .u8]) :=
 by and_intros <;> kernel_rfl
theorem ty143 : (tLoad Tryd.prog 143 = some (some 32)) /\ (tKind Tryd.prog 143 = some .other) /\ (tSz Tryd.prog 143 = some 32) /\ (Tryd.prog.bytesOf 143 = 32) /\ (tZero Tryd.prog 143 = some ((List.replicate 32 (0 : Int)).map (AV.int .u8))) /\ (eok Tryd.prog 143 ((List.replicate 32 (0 : Int)).map (AV.int .u8)) = true) /\ (mkE Tryd.prog 143 ((List.replicate 32 (0 : Int)).map (AV.int .u8)) = .agg ((List.replicate 32 (0 : Int)).map (AV.int .u8))) /\ (zeroOf Tryd.prog 143 = some ((List.replicate 32 (0 : Int)).map (AV.int .u8))) /\ (tIndex Tryd.prog 143 = some (some 16, 2, some 2)) /\ (placeOf Tryd.prog 143 0 = some (0, 2)) /\ (placeOf Tryd.prog 143 1 = some (2, 2)) /\ (placeOf Tryd.prog 143 2 = some (4, 2)) /\ (placeOf Tryd.prog 143 3 = some (6, 2)) /\ (placeOf Tryd.prog 143 4 = some (8, 2)) /\ (placeOf Tryd.prog 143 5 = some (10, 2)) /\ (placeOf Tryd.prog 143 6 = some (12, 2)) /\ (placeOf Tryd.prog 143 7 = some (14, 2)) /\ (buildable Tryd.prog 143 = true) /\ (leaves Tryd.prog 143 = some [.i .u8, .i .u8, .i .u8, .i .u8, .i .u8, .i .u8, .i .u8, .i .u8, .i .u8, .i .u8, .i .u8, .i .u8, .i .u8, .i .u8, .i .u8, .i .u8, .i .u8, .i .u8, .i .u8, .i .u8, .i .u8, .i .u8, .i .u8, .i .u8, .i .u8, .i .u8, .i .u8, .i .u8, .i .u8, .i .u8, .i .u8, .i .u8]) :=
 by and_intros <;> kernel_rfl
theorem ty158 : (tLoad Tryd.prog 158 = some (some 2)) /\ (tKind Tryd.prog 158 = some .other) /\ (tSz Tryd.prog 158 = some 2) /\ (Tryd.prog.bytesOf 158 = 16) /\ (tZero Tryd.prog 158 = some [.int .i64 0, .int .i64 0]) /\ (eok Tryd.prog 158 [.int .i64 0, .int .i64 0] = true) /\ (mkE Tryd.prog 158 [.int .i64 0, .int .i64 0] = .agg [.int .i64 0, .int .i64 0]) /\ (zeroOf Tryd.prog 158 = some [.int .i64 0, .int .i64 0]) /\ (tField Tryd.prog 158 0 = some (0, none)) /\ (placeOf Tryd.prog 158 0 = some (0, 1)) /\ (tField Tryd.prog 158 1 = some (1, none)) /\ (placeOf Tryd.prog 158 1 = some (1, 1)) /\ (buildable Tryd.prog 158 = true) /\ (leaves Tryd.prog 158 = some [.i .i64, .i .i64]) :=
 by and_intros <;> kernel_rfl
theorem ty159 : (tLoad Tryd.prog 159 = some (some 2)) /\ (tKind Tryd.prog 159 = some .other) /\ (tSz Tryd.prog 159 = some 2) /\ (Tryd.prog.bytesOf 159 = 16) /\ (tZero Tryd.prog 159 = some [.int .i64 0, .int .i64 0]) /\ (eok Tryd.prog 159 [.int .i64 0, .int .i64 0] = true) /\ (mkE Tryd.prog 159 [.int .i64 0, .int .i64 0] = .agg [.int .i64 0, .int .i64 0]) /\ (zeroOf Tryd.prog 159 = some [.int .i64 0, .int .i64 0]) /\ (tField Tryd.prog 159 0 = some (0, none)) /\ (placeOf Tryd.prog 159 0 = some (0, 1)) /\ (tField Tryd.prog 159 1 = some (1, none)) /\ (placeOf Tryd.prog 159 1 = some (1, 1)) /\ (buildable Tryd.prog 159 = true) /\ (leaves Tryd.prog 159 = some [.i .i64, .i .i64]) :=
 by and_intros <;> kernel_rfl
set_option maxRecDepth 100000
theorem tyb : type_of% @ty1 /\ type_of% @ty2 /\ type_of% @ty3 /\ type_of% @ty4 /\ type_of% @ty5 /\ type_of% @ty9 /\ type_of% @ty12 /\ type_of% @ty20 /\ type_of% @ty22 /\ type_of% @ty24 /\ type_of% @ty25 /\ type_of% @ty26 /\ type_of% @ty27 /\ type_of% @ty28 /\ type_of% @ty32 /\ type_of% @ty35 /\ type_of% @ty61 /\ type_of% @ty62 /\ type_of% @ty63 /\ type_of% @ty64 /\ type_of% @ty65 /\ type_of% @ty66 /\ type_of% @ty67 /\ type_of% @ty69 /\ type_of% @ty70 /\ type_of% @ty73 /\ type_of% @ty74 /\ type_of% @ty75 /\ type_of% @ty76 /\ type_of% @ty78 /\ type_of% @ty80 /\ type_of% @ty81 /\ type_of% @ty82 /\ type_of% @ty83 /\ type_of% @ty84 /\ type_of% @ty85 /\ type_of% @ty90 /\ type_of% @ty91 /\ type_of% @ty93 /\ type_of% @ty94 /\ type_of% @ty96 /\ type_of% @ty97 /\ type_of% @ty99 /\ type_of% @ty101 /\ type_of% @ty102 /\ type_of% @ty104 /\ type_of% @ty105 /\ type_of% @ty106 /\ type_of% @ty108 /\ type_of% @ty110 /\ type_of% @ty111 /\ type_of% @ty112 /\ type_of% @ty113 /\ type_of% @ty114 /\ type_of% @ty115 /\ type_of% @ty116 /\ type_of% @ty119 /\ type_of% @ty120 /\ type_of% @ty121 /\ type_of% @ty124 /\ type_of% @ty125 /\ type_of% @ty140 /\ type_of% @ty141 /\ type_of% @ty142 /\ type_of% @ty143 /\ type_of% @ty158 /\ type_of% @ty159 :=
 ⟨@ty1, @ty2, @ty3, @ty4, @ty5, @ty9, @ty12, @ty20, @ty22, @ty24, @ty25, @ty26, @ty27, @ty28, @ty32, @ty35, @ty61, @ty62, @ty63, @ty64, @ty65, @ty66, @ty67, @ty69, @ty70, @ty73, @ty74, @ty75, @ty76, @ty78, @ty80, @ty81, @ty82, @ty83, @ty84, @ty85, @ty90, @ty91, @ty93, @ty94, @ty96, @ty97, @ty99, @ty101, @ty102, @ty104, @ty105, @ty106, @ty108, @ty110, @ty111, @ty112, @ty113, @ty114, @ty115, @ty116, @ty119, @ty120, @ty121, @ty124, @ty125, @ty140, @ty141, @ty142, @ty143, @ty158, @ty159⟩
end Go.Proofs.YtfdipcpmfoidoaaDoor

/- slices.Chunk's iterator: what it yields. Own work. -/
namespace Go.Proofs.YtfdipcpmfoidoaaDoor
open Go Go.Aw Go.RowKit Go.Shelf
attribute [local go_sem] Oper.semAt_some
def chkE (es : List AV) (j : Nat) : AV := .tup [.ro 1 ((es.drop (4 * j)).take 4)]
def chk (es : List AV) : List AV := (List.range ((es.length + 3) / 4)).map (chkE es)
def chkL (n j : Nat) : Nat := min 4 (n - 4 * j)
set_option maxRecDepth 100000 in
set_option maxHeartbeats 4000000 in
theorem chunk_walk (l : Nat) (p1 p2 : Addr) (A : Option Addr) (b off n cap : Nat) (hA : 0 < n -> A = some ⟨b, off, none⟩) (hn : n ≤ 1000000) (hcap : n ≤ cap) (J : Nat -> World -> Prop) (Jx : World -> Prop)
  (h1 : ∀ i W, J i W -> W.cell? p1 = some (.slice A n cap)) (h2 : ∀ i W, J i W -> W.cell? p2 = some (.int .i64 4))
  (hd : ∀ i W, J i W -> J i W.drew)
  (hY : ∀ (i : Nat) (W : World), i < (n + 3) / 4 -> J i W -> YieldAt Fence.wide 0 Tryd.prog l #[.slice (some ⟨b, off + 4 * i, none⟩) (chkL n i) (chkL n i)] W fun e W' => (e = .returned (.bool true) /\ J (i + 1) W') \/ (e = .returned (.bool false) /\ Jx W'))
  (W : World) (h0 : J 0 W) :
  CallsIn Fence.wide 1 Tryd.prog 61 #[.func (.yield l) #[] #[], .pointer (some p1), .pointer (some p2)] W fun e W' => (∃ v, e = .returned v) /\ (J ((n + 3) / 4) W' \/ Jx W') := by
 refine callsIn_of_wp Tryd.func61 rfl trivial ?_ rfl
 simp only [Tryd.ntmps61, List.size_toArray, List.length_cons, List.length_nil, Nat.reduceAdd, Nat.reduceSub, Array.replicate_succ, Array.replicate_zero, List.push_toArray, List.append_toArray, List.nil_append, List.cons_append]
 gi_wp2
 gi_loopw [4] (fun i wr => ∃ k : Nat, k ≤ (n + 3) / 4 /\ i = .int .i64 (4 * k) /\ J k wr)
  (fun i _ => n + 4 - (intOf i).toNat)
 case atStart => exact ⟨0, Nat.zero_le _, rfl, h0⟩
 case round =>
  obtain ⟨k, hk, rfl, hJs⟩ := hrel
  have hc1 := h1 k wr hJs
  have hc2 := h2 k wr hJs
  by_cases hlt : 4 * k < n
  ·have hlt2 : k < (n + 3) / 4 := by omega
   have hA2 := hA (by omega)
   subst hA2
   gi_wp2
   gi_region
   all_goals gi_wp2
   case inl h =>
    obtain ⟨fn, tmps, assign, body, hy, hR⟩ := hY k wr.drew hlt2 (hd _ _ hJs)
    rw [show (4 * (k:Int) + ↑(n - 4 * k)).toNat - 4 * k = chkL n k from by unfold chkL; omega, hy]
    simp only [Oper.uponIn_round]
    refine ⟨fun h => by simp [Fence.wide] at h, hR.mono ?_⟩
    rintro e W3 (⟨rfl, hJ3⟩ | ⟨rfl, hJx3⟩)
    ·have hc1 := h1 _ W3 hJ3
     have hc2 := h2 _ W3 hJ3
     gi_wp2
     go_roundw
     case rel => exact ⟨k + 1, by omega, by simp; omega, hJ3⟩
     case measure => simp [intOf]; omega
    ·gi_wp2
     refine bodyPost_ret (results_none rfl _ _ _) rfl ?_
     exact ⟨⟨_, rfl⟩, .inr hJx3⟩
   case inr h =>
    obtain ⟨fn, tmps, assign, body, hy, hR⟩ := hY k wr.drew hlt2 (hd _ _ hJs)
    rw [show (4 * (k:Int) + 4).toNat - 4 * k = chkL n k from by unfold chkL; omega, hy]
    simp only [Oper.uponIn_round]
    refine ⟨fun h => by simp [Fence.wide] at h, hR.mono ?_⟩
    rintro e W3 (⟨rfl, hJ3⟩ | ⟨rfl, hJx3⟩)
    ·have hc1 := h1 _ W3 hJ3
     have hc2 := h2 _ W3 hJ3
     gi_wp2
     go_roundw
     case rel => exact ⟨k + 1, by omega, by simp; omega, hJ3⟩
     case measure => simp [intOf]; omega
    ·gi_wp2
     refine bodyPost_ret (results_none rfl _ _ _) rfl ?_
     exact ⟨⟨_, rfl⟩, .inr hJx3⟩
  ·gi_wp2
   go_end0
   have : k = (n + 3) / 4 := by omega
   subst this
   exact ⟨⟨_, rfl⟩, .inl hJs⟩
theorem chunk_seq (es : List AV) (h : es.length ≤ 1000000) : SeqOk Tryd.prog 61 [.rop (.ro 1 es) 0, .rop (.int .i64 4) 0] (chk es) := by
 refine ⟨fun ar w => callable_spec (by kernel_rfl) ar w, fun w0 im lb him hlb hcap => ?_⟩
 obtain ⟨v1, v2, rfl⟩ : ∃ v1 v2, lb = #[v1, v2] := by
  match lb, hlb with
  | ⟨[a, b]⟩, _ => exact ⟨a, b, rfl⟩
 have e1 := hcap 0 _ v1 rfl rfl
 have e2 := hcap 1 _ v2 rfl rfl
 cases e1 with
 | imm h => cases h
 | rop _ _ b1 o1 vs1 hb1 hc1 hr1 =>
 cases e2 with
 | imm h => cases h
 | rop _ _ b2 o2 vs2 hb2 hc2 hr2 =>
 have g1 := hc1 0 _ rfl
 have g2 := hc2 0 _ rfl
 have r1 := hr1 0 _ rfl
 have r2 := hr2 0 _ rfl
 generalize hx1 : vs1 0 = x1 at g1 r1
 generalize hx2 : vs2 0 = x2 at g2 r2
 cases r2 with
 | int _ _ =>
 cases r1 with
 | ro _ _ A cap b off vs hA hcp hz hc hr =>
 have hkeep : ∀ {W : World}, (∀ b, im b -> W.heap[b]? = w0.heap[b]?) -> W.cell? ⟨b1, o1 + 0, none⟩ = some (.slice A es.length cap) /\ W.cell? ⟨b2, o2 + 0, none⟩ = some (.int .i64 4) := fun hW =>
  ⟨(heap_cell (hW b1 hb1)).trans g1, (heap_cell (hW b2 hb2)).trans g2⟩
 refine ⟨(List.range ((es.length + 3) / 4)).map fun j => #[.slice (some ⟨b, off + 4 * j, none⟩) (chkL es.length j) (chkL es.length j)], by simp [chk], fun i x vs' hx hv => ?_, fun l J Jx W hJi hJg hJxg hY h0 => ?_⟩
 ·rw [chk, List.getElem?_map] at hx
  rw [List.getElem?_map] at hv
  obtain ⟨j, hj, rfl⟩ := Option.map_eq_some_iff.1 hx
  rw [hj] at hv
  cases hv
  have hjl : j < (es.length + 3) / 4 := by
   have := List.mem_range.1 (List.mem_of_getElem? hj)
   exact this
  have hpos : 0 < es.length := by omega
  have hlen : ((es.drop (4 * j)).take 4).length = chkL es.length j := by simp [chkL]
  refine .tup _ _ rfl fun i2 x2 v2 hx2 hv2 => ?_
  obtain rfl : i2 = 0 := by
   have := (List.getElem?_eq_some_iff.1 hx2).1
   simp at this
   omega
  cases hx2
  replace hv2 := Option.some.inj hv2
  subst hv2
  refine .imm ?_
  show RI im w0 _ (.slice (some ⟨b, off + 4 * j, none⟩) (chkL es.length j) (chkL es.length j))
  rw [<- hlen]
  have hget : ∀ (i : Nat) (e : AV), ((es.drop (4 * j)).take 4)[i]? = some e -> es[4 * j + i]? = some e := fun i e he => by
   rw [List.getElem?_take] at he
   split at he
   ·rwa [List.getElem?_drop] at he
   ·cases he
  refine .ro 1 _ _ _ b (off + 4 * j) (fun i k => vs (4 * j + i) k) (fun _ => ⟨rfl, (hA hpos).2⟩) (Nat.le_refl _) (fun i e he => hz _ e (hget i e he)) (fun i e k x he hk => ?_) (fun i e k x he hk => hr _ e k x (hget i e he) hk)
  have := hc _ e k x (hget i e he) hk
  rw [<- this]
  congr 2
  omega
 ·have hm : ((List.range ((es.length + 3) / 4)).map fun j => (#[.slice (some ⟨b, off + 4 * j, none⟩) (chkL es.length j) (chkL es.length j)] : Array Value)).length = (es.length + 3) / 4 := by simp
  rw [hm]
  refine callsIn_wide.1 (chunk_walk l ⟨b1, o1 + 0, none⟩ ⟨b2, o2 + 0, none⟩ A b off es.length cap (fun hp => (hA hp).1) h hcp J Jx (fun i W hJ => (hkeep (hJi i W hJ)).1) (fun i W hJ => (hkeep (hJi i W hJ)).2) (fun i W hJ => hJg i W W.drew hJ (Nat.le_refl _) (fun _ _ => rfl) rfl rfl rfl) (fun i W hi hJ => ?_) W h0)
  refine hY i _ W ?_ hJ
  rw [List.getElem?_map, List.getElem?_range hi]
  rfl
end Go.Proofs.YtfdipcpmfoidoaaDoor

namespace Go.Proofs.YtfdipcpmfoidoaaDoor
open Go Go.Aw
structure OpRow where
 a : Int
 b : Int
 c : Int
 w : Int
 x : List Int
 li : Bool
 le : Int
 wr : Bool
 sa : Bool
def rowsT : List OpRow :=
 [⟨4, 0, 0, 8, [], false, 0, true, false⟩,
  ⟨4, 4, 0, 0, [], false, 0, true, false⟩,
  ⟨3, 2, 5, 0, [], false, 0, true, false⟩,
  ⟨2, 3, 5, 0, [], false, 0, true, false⟩,
  ⟨3, 6, 0, 0, [], true, 2, true, false⟩,
  ⟨3, 3, 1, 0, [], false, 0, true, false⟩,
  ⟨3, 0, 0, 9, [], false, 0, true, true⟩,
  ⟨3, 0, 0, 10, [], false, 0, true, true⟩,
  ⟨3, 0, 0, 10, [], false, 0, true, true⟩,
  ⟨3, 3, 0, 0, [9], false, 0, true, false⟩,
  ⟨3, 3, 3, 0, [9], false, 0, true, false⟩,
  ⟨3, 6, 7, 0, [11], true, 1, true, true⟩,
  ⟨3, 6, 7, 0, [12], true, 0, true, true⟩,
  ⟨3, 6, 7, 0, [9], true, 1, true, true⟩,
  ⟨3, 6, 0, 0, [10, 9], true, 0, true, true⟩,
  ⟨0, 6, 0, 0, [9], true, 1, false, true⟩,
  ⟨2, 3, 3, 0, [], false, 0, true, false⟩,
  ⟨2, 3, 0, 0, [13], false, 0, true, false⟩,
  ⟨0, 0, 0, 14, [], false, 0, false, false⟩,
  ⟨2, 0, 0, 14, [], false, 0, false, false⟩,
  ⟨3, 0, 0, 0, [], false, 0, false, false⟩,
  ⟨0, 0, 0, 0, [], false, 0, false, false⟩,
  ⟨0, 0, 0, 0, [], false, 0, false, false⟩,
  ⟨2, 2, 2, 0, [9], false, 0, true, false⟩]
def rowA (r : OpRow) : List AV := [.int .i64 r.a, .int .i64 r.b, .int .i64 r.c, .int .i64 r.w, .ro 1 (r.x.map (.int .i64)), .bool r.li, .int .i64 r.le, .bool r.wr, .bool r.sa]
def tabA : List AV := rowsT.flatMap rowA
def firstT : List Int := List.replicate 128 240 ++ List.replicate 66 241 ++ List.replicate 30 2 ++ [19] ++ List.replicate 12 3 ++ [35] ++ List.replicate 2 3 ++ [52] ++ List.replicate 3 4 ++ [68] ++ List.replicate 11 241
def firstA : List AV := firstT.map (AV.int .u8)
def accT : List Int := [128, 191, 160, 191, 128, 159, 144, 191, 128, 143, 0, 0, 0, 0, 0, 0, 0, 0, 0, 0, 0, 0, 0, 0, 0, 0, 0, 0, 0, 0, 0, 0]
def accA : List AV := accT.map (AV.int .u8)
def G : Nat -> AV := fun g => if g = 0 then .rop (.agg tabA) 0 else if g = 1 then .rop (.agg firstA) 0 else if g = 2 then .rop (.agg accA) 0 else .junk
def seq : FuncId -> List AV -> Option (List AV × Prop) := fun q cap => match cap with
 | [.rop (.ro 1 es) 0, .rop (.int .i64 n) 0] => if q = 61 then some (chk es, es.length ≤ 1000000 /\ n = 4) else none
 | _ => none
def AN : Go.Aw.An := mkAn [] [6, 29, 30, 46, 49, 50, 52, 53, 56, 57, 58, 62, 64, 66, 67, 68, 69, 70, 71, 75, 76, 77, 79, 80, 82, 3, 4, 5, 7, 8, 9, 10, 12, 13, 14, 15, 16, 17, 18, 19, 20, 21, 22, 23, 24, 25, 26, 27, 28, 34, 35, 39, 40, 41, 42, 43, 44, 45, 46, 48] [11, 31, 51, 54, 60, 63, 65, 72, 73, 78]
 [3, 4, 5, 6, 7, 8, 9, 10, 11, 12, 13, 14, 15, 16, 17, 18, 19, 20, 21, 22, 23, 24, 25, 26, 27, 28, 29, 30, 31, 32, 33, 34, 35, 36, 37, 38, 39, 40, 41, 42, 43, 44, 45, 46, 47, 48, 49, 50, 51, 52, 53, 54, 55, 56, 57, 58, 59, 60, 62, 63, 64, 65, 66, 67, 68, 69, 70, 71, 72, 73, 74, 75, 76, 77, 78, 79, 80, 81, 82]
 [(3, 30, [2, 4, 17, 115, 116, 117]), (3, 17, [2, 3, 4, 6, 7, 24, 25, 26, 73, 74, 75]), (3, 7, [2, 3, 4, 24, 25, 26]), (4, 9, [4, 5, 13, 14, 77, 78, 79]), (6, 24, [2, 6, 10, 14, 32, 33, 34, 68, 69, 70, 75, 76, 77]), (6, 21, [2, 6, 10, 32, 33, 34, 68, 69, 70]), (6, 16, [6, 7, 10, 32, 33, 34, 57, 58, 59]), (6, 8, [2, 32, 33, 34]), (8, 200020, [2, 3, 8]), (8, 13, [1, 2, 3, 8, 64, 65, 66]), (9, 18, [0, 1, 4, 6, 7, 8, 10, 11]), (9, 12, [0, 1, 4, 6, 7, 8, 10, 61, 62]), (11, 5, [0, 1, 4, 12, 13]), (12, 4, [0, 2, 3, 4, 5, 6]), (13, 4, [8, 9, 10, 17, 18]), (17, 30, [1, 7, 11, 12, 13, 14]), (17, 25, [1, 7, 11]), (17, 14, [1, 2, 3, 7, 8]), (17, 8, [1, 2, 3, 4, 6]), (18, 32, [0, 1, 4, 5, 6, 9, 10, 13, 18, 19]), (18, 27, [0, 1, 4, 5, 6, 9, 10, 13]), (18, 19, [0, 1, 4, 6, 7, 9, 10, 12]), (20, 4, [0, 2, 3, 4, 5, 6]), (21, 5, [1, 2, 6, 15, 16, 17]), (24, 5, [0, 1, 4, 12, 13]), (29, 15, [1, 4, 5, 95, 96, 97, 126, 127, 128]), (29, 10, [1, 4, 5, 95, 96, 97]), (30, 15, [1, 2, 3, 83, 84, 85]), (30, 8, [1, 2, 3, 4, 69, 70, 71]), (47, 10, [0, 3, 4, 5]), (47, 5, [0, 2, 3]), (59, 16, [1, 2, 3, 5, 93, 94, 95]), (59, 11, [1, 5, 82, 83, 84]), (60, 3, [0, 1, 4, 7, 8]), (62, 3, [0, 1, 4, 7, 8]), (63, 3, [0, 1, 4, 7, 8]), (64, 6, [1, 2, 5]), (65, 3, [0, 1, 4, 7, 8]), (67, 4, [2, 3, 9, 10, 11]), (72, 12, [2, 3, 4, 78, 79, 80]), (72, 6, [2, 3, 4, 60, 61, 62]), (73, 14, [2, 4, 5, 6, 10, 28, 29, 30, 60, 61, 62]), (73, 9, [2, 4, 5, 6, 28, 29, 30]), (73, 4, [2, 6, 14, 15, 16]), (77, 3, [0, 1, 4, 7, 8]), (80, 10, [0, 2]), (80, 2, [0, 2])]
 [(3, 30, [(1, [], 9), (3, [], 9)]), (3, 17, [(1, [], 1), (2, [], 9), (4, [], 1), (5, [], 9), (8, [], 9)]), (3, 7, [(1, [], 1), (2, [], 9), (3, [], 9)]), (4, 9, [(0, [], 1), (4, [], 1)]), (6, 24, [(2, [], 1), (4, [], 5), (7, [], 9), (10, [], 1)]), (6, 21, [(2, [], 1), (3, [], 5), (6, [], 9)]), (6, 16, [(1, [], 9), (2, [], 1), (3, [], 5), (6, [], 9)]), (6, 8, [(1, [], 5)]), (8, 13, [(4, [], 1)]), (9, 18, [(0, [], 1), (3, [5], 1), (3, [7], 1)]), (9, 12, [(0, [], 1), (3, [5], 1), (3, [7], 1)]), (11, 5, [(0, [], 1), (1, [], 1)]), (12, 4, [(0, [], 1), (1, [], 9), (4, [], 9)]), (18, 32, [(0, [], 1), (8, [], 1), (4, [5], 1), (4, [7], 1)]), (18, 27, [(0, [], 1), (4, [5], 1), (4, [7], 1)]), (18, 19, [(0, [], 1), (3, [5], 1), (3, [7], 1)]), (20, 4, [(0, [], 1), (1, [], 9), (4, [], 9)]), (21, 5, [(0, [], 9), (3, [], 9)]), (24, 5, [(0, [], 1), (1, [], 1)]), (29, 15, [(3, [], 5), (6, [], 2)]), (29, 10, [(3, [], 5)]), (30, 15, [(3, [], 5)]), (30, 8, [(4, [], 5)]), (47, 10, [(0, [], 1), (2, [], 1)]), (47, 5, [(0, [], 1), (1, [], 1)]), (59, 16, [(3, [], 9), (4, [], 9)]), (59, 11, [(1, [], 9), (2, [], 9)]), (60, 3, [(0, [], 1)]), (62, 3, [(0, [], 1)]), (63, 3, [(0, [], 5)]), (65, 3, [(0, [], 5)]), (67, 4, [(2, [], 5)]), (72, 12, [(3, [], 1)]), (72, 6, [(3, [], 1)]), (73, 14, [(5, [], 2), (8, [], 1)]), (73, 9, [(4, [], 2)]), (73, 4, [(2, [], 9)]), (77, 3, [(0, [], 1)])]
 []
 [(8, [(0, [], 1)]), (9, [(0, [5], 1), (0, [7], 1)]), (12, [(0, [], 9)]), (17, [(0, [], 1)]), (18, [(0, [5], 1), (0, [7], 1)]), (20, [(0, [], 9)]), (22, [(0, [], 1)]), (23, [(0, [], 1)]), (25, [(0, [], 1)]), (26, [(0, [], 1)]), (34, [(0, [4], 1)]), (36, [(0, [], 1)]), (42, [(0, [4], 1)]), (47, [(0, [], 1)])]
 [8, 9, 12, 17, 18, 20, 22, 23, 25, 26, 34, 42]
 [(3, 19, ([], false, [], [])), (3, 22, ([97, 888888, 600097], false, [], [some 92, some 93, some 95])), (3, 31, ([], false, [], [])), (5, 5, ([], false, [], [])), (8, 10, ([62, 1000001, 1000060, 888888, 888887], false, [], [some 58, some 60])), (9, 12, ([69, 1000006, 1000064, 1000006, 1000071], false, [6], [some 64, some 66, some 71])), (9, 21, ([1000006, 1000109, 1000006, 1000111, 1000011, 1000113, 1000006, 1000118], false, [6], [some 109, some 111, some 113, some 118])), (11, 6, ([], false, [], [])), (18, 20, ([101, 1000006, 1000094, 1000000, 1000096, 1000009, 1000097, 1000096, 1000097, 1000098, 1000006, 1000103], false, [6], [some 94, some 96, some 97, some 98, some 103])), (18, 34, ([157, 1000006, 1000151, 1000018, 1000153, 1000019, 1000154, 1000153, 1000154, 1000155, 1000006, 1000159], false, [6], [some 151, some 153, some 154, some 155, some 159])), (24, 6, ([], false, [], [])), (26, 9, ([], false, [], [])), (26, 11, ([], false, [], [])), (47, 6, ([], false, [], [])), (47, 11, ([], false, [], [])), (72, 2, ([], false, [], [])), (72, 7, ([], false, [], [])), (72, 18, ([], false, [], [])), (72, 20, ([], false, [], [])), (73, 5, ([], false, [], [])), (73, 10, ([], false, [], [])), (80, 7, ([], false, [], [])), (80, 9, ([], false, [], [])), (80, 17, ([], false, [], [])), (80, 21, ([], false, [], [])), (80, 25, ([], false, [], [])), (82, 1, ([], false, [], [])), (82, 2, ([], false, [], []))] [8, 9, 12, 17, 18, 20, 22, 23, 25, 26] [(47, 14)] (seq := seq) (ord := [(3, 22, .node 2 3 (.node 2 4 .prog (.leaf [0, 1, 4, 2, 3, 5, 6, 7, 8])) (.node 2 4 (.leaf [0, 1, 3, 2, 4, 5, 6, 7, 8]) (.leaf [0, 1, 3, 4, 2, 5, 6, 7, 8]))), (8, 10, .node 1 4 .prog (.leaf [0, 2, 3, 4, 1, 5, 6])), (9, 12, .node 1 3 .prog (.leaf [0, 2, 3, 1, 4, 5, 6, 7, 8]))]) (sty := [38]) (lz := [6, 29, 30, 32, 33, 53, 55, 57, 58, 59, 64, 68, 69, 70, 72, 73, 75, 76, 78, 79, 80, 81, 4, 5, 7, 8, 9, 10, 11, 12, 13, 14, 15, 16, 17, 18, 19, 20, 21, 22, 23, 24, 25, 26, 27, 28, 34, 35, 36, 38, 39, 40, 41, 42, 43, 44, 45, 46, 47, 48]) (fzr := [(8, 21, [12]), (8, 11, [9])])
noncomputable abbrev E : Sig := ev Tryd.prog G AN
theorem ok3 : fchk Tryd.prog AN 3 = true := by kernel_rfl
theorem ok4 : fchk Tryd.prog AN 4 = true := by kernel_rfl
theorem ok5 : fchk Tryd.prog AN 5 = true := by kernel_rfl
theorem ok6 : fchk Tryd.prog AN 6 = true := by kernel_rfl
theorem ok7 : fchk Tryd.prog AN 7 = true := by kernel_rfl
theorem ok8 : fchk Tryd.prog AN 8 = true := by kernel_rfl
theorem ok9 : fchk Tryd.prog AN 9 = true := by kernel_rfl
theorem ok10 : fchk Tryd.prog AN 10 = true := by kernel_rfl
theorem ok11 : fchk Tryd.prog AN 11 = true := by kernel_rfl
theorem ok12 : fchk Tryd.prog AN 12 = true := by kernel_rfl
theorem ok13 : fchk Tryd.prog AN 13 = true := by kernel_rfl
theorem ok14 : fchk Tryd.prog AN 14 = true := by kernel_rfl
theorem ok15 : fchk Tryd.prog AN 15 = true := by kernel_rfl
theorem ok16 : fchk Tryd.prog AN 16 = true := by kernel_rfl
theorem ok17 : fchk Tryd.prog AN 17 = true := by kernel_rfl
theorem ok18 : fchk Tryd.prog AN 18 = true := by kernel_rfl
theorem ok19 : fchk Tryd.prog AN 19 = true := by kernel_rfl
theorem ok20 : fchk Tryd.prog AN 20 = true := by kernel_rfl
theorem ok21 : fchk Tryd.prog AN 21 = true := by kernel_rfl
theorem ok22 : fchk Tryd.prog AN 22 = true := by kernel_rfl
theorem ok23 : fchk Tryd.prog AN 23 = true := by kernel_rfl
theorem ok24 : fchk Tryd.prog AN 24 = true := by kernel_rfl
theorem ok25 : fchk Tryd.prog AN 25 = true := by kernel_rfl
theorem ok26 : fchk Tryd.prog AN 26 = true := by kernel_rfl
theorem ok27 : fchk Tryd.prog AN 27 = true := by kernel_rfl
theorem ok28 : fchk Tryd.prog AN 28 = true := by kernel_rfl
theorem ok29 : fchk Tryd.prog AN 29 = true := by kernel_rfl
theorem ok30 : fchk Tryd.prog AN 30 = true := by kernel_rfl
theorem ok31 : fchk Tryd.prog AN 31 = true := by kernel_rfl
theorem ok32 : fchk Tryd.prog AN 32 = true := by kernel_rfl
theorem ok33 : fchk Tryd.prog AN 33 = true := by kernel_rfl
theorem ok34 : fchk Tryd.prog AN 34 = true := by kernel_rfl
theorem ok35 : fchk Tryd.prog AN 35 = true := by kernel_rfl
theorem ok36 : fchk Tryd.prog AN 36 = true := by kernel_rfl
theorem ok37 : fchk Tryd.prog AN 37 = true := by kernel_rfl
theorem ok38 : fchk Tryd.prog AN 38 = true := by kernel_rfl
theorem ok39 : fchk Tryd.prog AN 39 = true := by kernel_rfl
theorem ok40 : fchk Tryd.prog AN 40 = true := by kernel_rfl
theorem ok41 : fchk Tryd.prog AN 41 = true := by kernel_rfl
theorem ok42 : fchk Tryd.prog AN 42 = true := by kernel_rfl
theorem ok43 : fchk Tryd.prog AN 43 = true := by kernel_rfl
theorem ok44 : fchk Tryd.prog AN 44 = true := by kernel_rfl
theorem ok45 : fchk Tryd.prog AN 45 = true := by kernel_rfl
theorem ok46 : fchk Tryd.prog AN 46 = true := by kernel_rfl
theorem ok47 : fchk Tryd.prog AN 47 = true := by kernel_rfl
theorem ok48 : fchk Tryd.prog AN 48 = true := by kernel_rfl
theorem ok49 : fchk Tryd.prog AN 49 = true := by kernel_rfl
theorem ok50 : fchk Tryd.prog AN 50 = true := by kernel_rfl
theorem ok51 : fchk Tryd.prog AN 51 = true := by kernel_rfl
theorem ok52 : fchk Tryd.prog AN 52 = true := by kernel_rfl
theorem ok53 : fchk Tryd.prog AN 53 = true := by kernel_rfl
theorem ok54 : fchk Tryd.prog AN 54 = true := by kernel_rfl
theorem ok55 : fchk Tryd.prog AN 55 = true := by kernel_rfl
theorem ok56 : fchk Tryd.prog AN 56 = true := by kernel_rfl
theorem ok57 : fchk Tryd.prog AN 57 = true := by kernel_rfl
theorem ok58 : fchk Tryd.prog AN 58 = true := by kernel_rfl
theorem ok59 : fchk Tryd.prog AN 59 = true := by kernel_rfl
theorem ok60 : fchk Tryd.prog AN 60 = true := by kernel_rfl
theorem ok62 : fchk Tryd.prog AN 62 = true := by kernel_rfl
theorem ok63 : fchk Tryd.prog AN 63 = true := by kernel_rfl
theorem ok64 : fchk Tryd.prog AN 64 = true := by kernel_rfl
theorem ok65 : fchk Tryd.prog AN 65 = true := by kernel_rfl
theorem ok66 : fchk Tryd.prog AN 66 = true := by kernel_rfl
theorem ok67 : fchk Tryd.prog AN 67 = true := by kernel_rfl
theorem ok68 : fchk Tryd.prog AN 68 = true := by kernel_rfl
theorem ok69 : fchk Tryd.prog AN 69 = true := by kernel_rfl
theorem ok70 : fchk Tryd.prog AN 70 = true := by kernel_rfl
theorem ok71 : fchk Tryd.prog AN 71 = true := by kernel_rfl
theorem ok72 : fchk Tryd.prog AN 72 = true := by kernel_rfl
theorem ok73 : fchk Tryd.prog AN 73 = true := by kernel_rfl
theorem ok74 : fchk Tryd.prog AN 74 = true := by kernel_rfl
theorem ok75 : fchk Tryd.prog AN 75 = true := by kernel_rfl
theorem ok76 : fchk Tryd.prog AN 76 = true := by kernel_rfl
theorem ok77 : fchk Tryd.prog AN 77 = true := by kernel_rfl
theorem ok78 : fchk Tryd.prog AN 78 = true := by kernel_rfl
theorem ok79 : fchk Tryd.prog AN 79 = true := by kernel_rfl
theorem ok80 : fchk Tryd.prog AN 80 = true := by kernel_rfl
theorem ok81 : fchk Tryd.prog AN 81 = true := by kernel_rfl
theorem ok82 : fchk Tryd.prog AN 82 = true := by kernel_rfl
theorem evok : EvOk Tryd.prog G AN where
 chk f h := by
  have h : [3, 4, 5, 6, 7, 8, 9, 10, 11, 12, 13, 14, 15, 16, 17, 18, 19, 20, 21, 22, 23, 24, 25, 26, 27, 28, 29, 30, 31, 32, 33, 34, 35, 36, 37, 38, 39, 40, 41, 42, 43, 44, 45, 46, 47, 48, 49, 50, 51, 52, 53, 54, 55, 56, 57, 58, 59, 60, 62, 63, 64, 65, 66, 67, 68, 69, 70, 71, 72, 73, 74, 75, 76, 77, 78, 79, 80, 81, 82].contains f = true := h
  have h := List.contains_iff_mem.1 h
  simp only [List.mem_cons, List.mem_nil_iff, or_false] at h
  rcases h with rfl | rfl | rfl | rfl | rfl | rfl | rfl | rfl | rfl | rfl | rfl | rfl | rfl | rfl | rfl | rfl | rfl | rfl | rfl | rfl | rfl | rfl | rfl | rfl | rfl | rfl | rfl | rfl | rfl | rfl | rfl | rfl | rfl | rfl | rfl | rfl | rfl | rfl | rfl | rfl | rfl | rfl | rfl | rfl | rfl | rfl | rfl | rfl | rfl | rfl | rfl | rfl | rfl | rfl | rfl | rfl | rfl | rfl | rfl | rfl | rfl | rfl | rfl | rfl | rfl | rfl | rfl | rfl | rfl | rfl | rfl | rfl | rfl | rfl | rfl | rfl | rfl | rfl | rfl
  ·exact ok3
  ·exact ok4
  ·exact ok5
  ·exact ok6
  ·exact ok7
  ·exact ok8
  ·exact ok9
  ·exact ok10
  ·exact ok11
  ·exact ok12
  ·exact ok13
  ·exact ok14
  ·exact ok15
  ·exact ok16
  ·exact ok17
  ·exact ok18
  ·exact ok19
  ·exact ok20
  ·exact ok21
  ·exact ok22
  ·exact ok23
  ·exact ok24
  ·exact ok25
  ·exact ok26
  ·exact ok27
  ·exact ok28
  ·exact ok29
  ·exact ok30
  ·exact ok31
  ·exact ok32
  ·exact ok33
  ·exact ok34
  ·exact ok35
  ·exact ok36
  ·exact ok37
  ·exact ok38
  ·exact ok39
  ·exact ok40
  ·exact ok41
  ·exact ok42
  ·exact ok43
  ·exact ok44
  ·exact ok45
  ·exact ok46
  ·exact ok47
  ·exact ok48
  ·exact ok49
  ·exact ok50
  ·exact ok51
  ·exact ok52
  ·exact ok53
  ·exact ok54
  ·exact ok55
  ·exact ok56
  ·exact ok57
  ·exact ok58
  ·exact ok59
  ·exact ok60
  ·exact ok62
  ·exact ok63
  ·exact ok64
  ·exact ok65
  ·exact ok66
  ·exact ok67
  ·exact ok68
  ·exact ok69
  ·exact ok70
  ·exact ok71
  ·exact ok72
  ·exact ok73
  ·exact ok74
  ·exact ok75
  ·exact ok76
  ·exact ok77
  ·exact ok78
  ·exact ok79
  ·exact ok80
  ·exact ok81
  ·exact ok82
 pureG g := by
  by_cases h : g = 0
  ·subst h; exact .inl (by kernel_rfl)
  by_cases h1 : g = 1
  ·subst h1; exact .inl (by kernel_rfl)
  by_cases h2 : g = 2
  ·subst h2; exact .inl (by kernel_rfl)
  ·exact .inr (by unfold G; rw [if_neg h, if_neg h1, if_neg h2])
 mixed := by kernel_rfl
 seq q cap xs φ h hφ := by
  change seq q cap = some (xs, φ) at h
  unfold seq at h
  split at h
  ·split at h
   ·rename_i e; subst e; cases h; obtain ⟨h1, rfl⟩ := hφ; exact chunk_seq _ h1
   ·cases h
  ·cases h
 giv _ _ _ _ _ _ h := by cases h
theorem afz : ∀ f k, AN.fzr f k = fz2 f k [(8, 21, [12]), (8, 11, [9])] := fun _ _ => rfl
theorem acp : ∀ f k, AN.cp f k = has2 f k [(47, 14)] := fun _ _ => rfl
set_option maxRecDepth 100000
theorem anf0 : (AN.bor 6 = false) /\ (AN.pur 6 = true) /\ (AN.ro 6 = false) /\ (AN.frz 6 = false) /\ (AN.fra 6 = false) /\ (AN.res 6 = []) /\ (AN.bor 7 = false) /\ (AN.pur 7 = true) /\ (AN.ro 7 = false) /\ (AN.frz 7 = false) /\ (AN.fra 7 = false) /\ (AN.res 7 = []) /\ (AN.bor 8 = false) /\ (AN.pur 8 = true) /\ (AN.ro 8 = false) /\ (AN.frz 8 = true) /\ (AN.fra 8 = true) /\ (AN.res 8 = [(0, [], 1)]) /\ (AN.bor 9 = false) /\ (AN.pur 9 = true) /\ (AN.ro 9 = false) /\ (AN.frz 9 = true) /\ (AN.fra 9 = true) /\ (AN.res 9 = [(0, [5], 1), (0, [7], 1)]) /\ (AN.bor 11 = false) /\ (AN.pur 11 = false) /\ (AN.ro 11 = true) /\ (AN.frz 11 = false) /\ (AN.fra 11 = false) /\ (AN.res 11 = []) /\ (AN.bor 12 = false) /\ (AN.pur 12 = true) /\ (AN.ro 12 = false) /\ (AN.frz 12 = true) /\ (AN.fra 12 = true) /\ (AN.res 12 = [(0, [], 9)]) /\ (AN.bor 13 = false) /\ (AN.pur 13 = true) /\ (AN.ro 13 = false) /\ (AN.frz 13 = false) /\ (AN.fra 13 = false) /\ (AN.res 13 = []) /\ (AN.bor 15 = false) /\ (AN.pur 15 = true) /\ (AN.ro 15 = false) /\ (AN.frz 15 = false) /\ (AN.fra 15 = false) /\ (AN.res 15 = []) /\ (AN.bor 22 = false) /\ (AN.pur 22 = true) /\ (AN.ro 22 = false) /\ (AN.frz 22 = true) /\ (AN.fra 22 = true) /\ (AN.res 22 = [(0, [], 1)]) /\ (AN.bor 25 = false) /\ (AN.pur 25 = true) /\ (AN.ro 25 = false) /\ (AN.frz 25 = true) /\ (AN.fra 25 = true) /\ (AN.res 25 = [(0, [], 1)]) /\ (AN.bor 27 = false) /\ (AN.pur 27 = true) /\ (AN.ro 27 = false) /\ (AN.frz 27 = false) /\ (AN.fra 27 = false) /\ (AN.res 27 = []) /\ (AN.bor 29 = false) /\ (AN.pur 29 = true) /\ (AN.ro 29 = false) /\ (AN.frz 29 = false) /\ (AN.fra 29 = false) /\ (AN.res 29 = []) /\ (AN.bor 30 = false) /\ (AN.pur 30 = true) /\ (AN.ro 30 = false) /\ (AN.frz 30 = false) /\ (AN.fra 30 = false) /\ (AN.res 30 = []) /\ (AN.bor 31 = false) /\ (AN.pur 31 = false) /\ (AN.ro 31 = true) /\ (AN.frz 31 = false) /\ (AN.fra 31 = false) /\ (AN.res 31 = []) /\ (AN.bor 32 = false) /\ (AN.pur 32 = false) /\ (AN.ro 32 = false) /\ (AN.frz 32 = false) /\ (AN.fra 32 = false) /\ (AN.res 32 = []) /\ (AN.bor 33 = false) /\ (AN.pur 33 = false) /\ (AN.ro 33 = false) /\ (AN.frz 33 = false) /\ (AN.fra 33 = false) /\ (AN.res 33 = []) /\ (AN.bor 34 = false) /\ (AN.pur 34 = true) /\ (AN.ro 34 = false) /\ (AN.frz 34 = true) /\ (AN.fra 34 = false) /\ (AN.res 34 = [(0, [4], 1)]) /\ (AN.bor 35 = false) /\ (AN.pur 35 = true) /\ (AN.ro 35 = false) /\ (AN.frz 35 = false) /\ (AN.fra 35 = false) /\ (AN.res 35 = []) /\ (AN.bor 36 = false) /\ (AN.pur 36 = false) /\ (AN.ro 36 = false) /\ (AN.frz 36 = false) /\ (AN.fra 36 = false) /\ (AN.res 36 = [(0, [], 1)]) /\ (AN.bor 37 = false) /\ (AN.pur 37 = false) /\ (AN.ro 37 = false) /\ (AN.frz 37 = false) /\ (AN.fra 37 = false) /\ (AN.res 37 = []) /\ (AN.bor 38 = false) /\ (AN.pur 38 = false) /\ (AN.ro 38 = false) /\ (AN.frz 38 = false) /\ (AN.fra 38 = false) /\ (AN.res 38 = []) /\ (AN.bor 43 = false) /\ (AN.pur 43 = true) /\ (AN.ro 43 = false) /\ (AN.frz 43 = false) /\ (AN.fra 43 = false) /\ (AN.res 43 = []) /\ (AN.bor 46 = false) /\ (AN.pur 46 = true) /\ (AN.ro 46 = false) /\ (AN.frz 46 = false) /\ (AN.fra 46 = false) /\ (AN.res 46 = []) /\ (AN.bor 47 = false) /\ (AN.pur 47 = false) /\ (AN.ro 47 = false) /\ (AN.frz 47 = false) /\ (AN.fra 47 = false) /\ (AN.res 47 = [(0, [], 1)]) /\ (AN.bor 49 = false) /\ (AN.pur 49 = true) /\ (AN.ro 49 = false) /\ (AN.frz 49 = false) /\ (AN.fra 49 = false) /\ (AN.res 49 = []) /\ (AN.bor 50 = false) /\ (AN.pur 50 = true) /\ (AN.ro 50 = false) /\ (AN.frz 50 = false) /\ (AN.fra 50 = false) /\ (AN.res 50 = []) /\ (AN.bor 51 = false) /\ (AN.pur 51 = false) /\ (AN.ro 51 = true) /\ (AN.frz 51 = false) /\ (AN.fra 51 = false) /\ (AN.res 51 = []) /\ (AN.bor 52 = false) /\ (AN.pur 52 = true) /\ (AN.ro 52 = false) /\ (AN.frz 52 = false) /\ (AN.fra 52 = false) /\ (AN.res 52 = []) /\ (AN.bor 53 = false) /\ (AN.pur 53 = true) /\ (AN.ro 53 = false) /\ (AN.frz 53 = false) /\ (AN.fra 53 = false) /\ (AN.res 53 = []) /\ (AN.bor 54 = false) /\ (AN.pur 54 = false) /\ (AN.ro 54 = true) /\ (AN.frz 54 = false) /\ (AN.fra 54 = false) /\ (AN.res 54 = []) /\ (AN.bor 55 = false) /\ (AN.pur 55 = false) /\ (AN.ro 55 = false) /\ (AN.frz 55 = false) /\ (AN.fra 55 = false) /\ (AN.res 55 = []) /\ (AN.bor 56 = false) /\ (AN.pur 56 = true) /\ (AN.ro 56 = false) /\ (AN.frz 56 = false) /\ (AN.fra 56 = false) /\ (AN.res 56 = []) /\ (AN.bor 57 = false) /\ (AN.pur 57 = true) /\ (AN.ro 57 = false) /\ (AN.frz 57 = false) /\ (AN.fra 57 = false) /\ (AN.res 57 = []) /\ (AN.bor 58 = false) /\ (AN.pur 58 = true) /\ (AN.ro 58 = false) /\ (AN.frz 58 = false) /\ (AN.fra 58 = false) /\ (AN.res 58 = []) /\ (AN.bor 59 = false) /\ (AN.pur 59 = false) /\ (AN.ro 59 = false) /\ (AN.frz 59 = false) /\ (AN.fra 59 = false) /\ (AN.res 59 = []) /\ (AN.bor 60 = false) /\ (AN.pur 60 = false) /\ (AN.ro 60 = true) /\ (AN.frz 60 = false) /\ (AN.fra 60 = false) /\ (AN.res 60 = []) /\ (AN.bor 62 = false) /\ (AN.pur 62 = true) /\ (AN.ro 62 = false) /\ (AN.frz 62 = false) /\ (AN.fra 62 = false) /\ (AN.res 62 = []) /\ (AN.bor 63 = false) /\ (AN.pur 63 = false) /\ (AN.ro 63 = true) /\ (AN.frz 63 = false) /\ (AN.fra 63 = false) /\ (AN.res 63 = []) /\ (AN.bor 64 = false) /\ (AN.pur 64 = true) /\ (AN.ro 64 = false) /\ (AN.frz 64 = false) /\ (AN.fra 64 = false) /\ (AN.res 64 = []) /\ (AN.bor 65 = false) /\ (AN.pur 65 = false) /\ (AN.ro 65 = true) /\ (AN.frz 65 = false) /\ (AN.fra 65 = false) /\ (AN.res 65 = []) /\ (AN.bor 66 = false) /\ (AN.pur 66 = true) /\ (AN.ro 66 = false) /\ (AN.frz 66 = false) /\ (AN.fra 66 = false) /\ (AN.res 66 = []) /\ (AN.bor 67 = false) /\ (AN.pur 67 = true) /\ (AN.ro 67 = false) /\ (AN.frz 67 = false) /\ (AN.fra 67 = false) /\ (AN.res 67 = []) /\ (AN.bor 68 = false) /\ (AN.pur 68 = true) /\ (AN.ro 68 = false) /\ (AN.frz 68 = false) /\ (AN.fra 68 = false) /\ (AN.res 68 = []) /\ (AN.bor 69 = false) /\ (AN.pur 69 = true) /\ (AN.ro 69 = false) /\ (AN.frz 69 = false) /\ (AN.fra 69 = false) /\ (AN.res 69 = []) /\ (AN.bor 70 = false) /\ (AN.pur 70 = true) /\ (AN.ro 70 = false) /\ (AN.frz 70 = false) /\ (AN.fra 70 = false) /\ (AN.res 70 = []) /\ (AN.bor 71 = false) /\ (AN.pur 71 = true) /\ (AN.ro 71 = false) /\ (AN.frz 71 = false) /\ (AN.fra 71 = false) /\ (AN.res 71 = []) /\ (AN.bor 72 = false) /\ (AN.pur 72 = false) /\ (AN.ro 72 = true) /\ (AN.frz 72 = false) /\ (AN.fra 72 = false) /\ (AN.res 72 = []) /\ (AN.bor 73 = false) /\ (AN.pur 73 = false) /\ (AN.ro 73 = true) /\ (AN.frz 73 = false) /\ (AN.fra 73 = false) /\ (AN.res 73 = []) /\ (AN.bor 74 = false) /\ (AN.pur 74 = false) /\ (AN.ro 74 = false) /\ (AN.frz 74 = false) /\ (AN.fra 74 = false) /\ (AN.res 74 = []) /\ (AN.bor 75 = false) /\ (AN.pur 75 = true) /\ (AN.ro 75 = false) /\ (AN.frz 75 = false) /\ (AN.fra 75 = false) /\ (AN.res 75 = []) /\ (AN.bor 76 = false) /\ (AN.pur 76 = true) /\ (AN.ro 76 = false) /\ (AN.frz 76 = false) /\ (AN.fra 76 = false) /\ (AN.res 76 = []) /\ (AN.bor 77 = false) /\ (AN.pur 77 = true) /\ (AN.ro 77 = false) /\ (AN.frz 77 = false) /\ (AN.fra 77 = false) /\ (AN.res 77 = []) /\ (AN.bor 78 = false) /\ (AN.pur 78 = false) /\ (AN.ro 78 = true) /\ (AN.frz 78 = false) /\ (AN.fra 78 = false) /\ (AN.res 78 = []) /\ (AN.bor 79 = false) /\ (AN.pur 79 = true) /\ (AN.ro 79 = false) /\ (AN.frz 79 = false) /\ (AN.fra 79 = false) /\ (AN.res 79 = []) /\ (AN.bor 80 = false) /\ (AN.pur 80 = true) /\ (AN.ro 80 = false) /\ (AN.frz 80 = false) /\ (AN.fra 80 = false) /\ (AN.res 80 = []) /\ (AN.bor 81 = false) /\ (AN.pur 81 = false) /\ (AN.ro 81 = false) /\ (AN.frz 81 = false) /\ (AN.fra 81 = false) /\ (AN.res 81 = []) /\ (AN.bor 82 = false) /\ (AN.pur 82 = true) /\ (AN.ro 82 = false) /\ (AN.frz 82 = false) /\ (AN.fra 82 = false) /\ (AN.res 82 = []) /\ (AN.ord 8 10 = .node 1 4 .prog (.leaf [0, 2, 3, 4, 1, 5, 6])) /\ (AN.ord 9 12 = .node 1 3 .prog (.leaf [0, 2, 3, 1, 4, 5, 6, 7, 8])) /\ (AN.ord 9 21 = .prog) /\ (AN.ord 11 6 = .prog) /\ (AN.ord 47 6 = .prog) /\ (AN.ord 47 11 = .prog) /\ (AN.ord 72 2 = .prog) /\ (AN.ord 72 7 = .prog) /\ (AN.ord 72 18 = .prog) /\ (AN.ord 72 20 = .prog) /\ (AN.ord 73 5 = .prog) /\ (AN.ord 73 10 = .prog) /\ (AN.ord 80 7 = .prog) /\ (AN.ord 80 9 = .prog) /\ (AN.ord 80 17 = .prog) /\ (AN.ord 80 21 = .prog) /\ (AN.ord 80 25 = .prog) /\ (AN.ord 82 1 = .prog) /\ (AN.ord 82 2 = .prog) /\ (AN.lz 6 = true) /\ (AN.lz 7 = true) /\ (AN.lz 8 = true) /\ (AN.lz 9 = true) /\ (AN.lz 11 = true) /\ (AN.lz 12 = true) /\ (AN.lz 13 = true) /\ (AN.lz 15 = true) /\ (AN.lz 22 = true) /\ (AN.lz 25 = true) /\ (AN.lz 27 = true) /\ (AN.lz 29 = true) /\ (AN.lz 30 = true) /\ (AN.lz 31 = false) /\ (AN.lz 32 = true) /\ (AN.lz 33 = true) /\ (AN.lz 34 = true) /\ (AN.lz 35 = true) /\ (AN.lz 36 = true) /\ (AN.lz 37 = false) /\ (AN.lz 38 = true) /\ (AN.lz 43 = true) /\ (AN.lz 46 = true) /\ (AN.lz 47 = true) /\ (AN.lz 49 = false) /\ (AN.lz 50 = false) /\ (AN.lz 51 = false) /\ (AN.lz 52 = false) /\ (AN.lz 53 = true) /\ (AN.lz 54 = false) /\ (AN.lz 55 = true) /\ (AN.lz 56 = false) /\ (AN.lz 57 = true) /\ (AN.lz 58 = true) /\ (AN.lz 59 = true) /\ (AN.lz 60 = false) /\ (AN.lz 62 = false) /\ (AN.lz 63 = false) /\ (AN.lz 64 = true) /\ (AN.lz 65 = false) /\ (AN.lz 66 = false) /\ (AN.lz 67 = false) /\ (AN.lz 68 = true) /\ (AN.lz 69 = true) /\ (AN.lz 70 = true) /\ (AN.lz 71 = false) /\ (AN.lz 72 = true) /\ (AN.lz 73 = true) /\ (AN.lz 74 = false) /\ (AN.lz 75 = true) /\ (AN.lz 76 = true) /\ (AN.lz 77 = false) /\ (AN.lz 78 = true) /\ (AN.lz 79 = true) /\ (AN.lz 80 = true) /\ (AN.lz 81 = true) /\ (AN.lz 82 = false) /\ (AN.sty 6 = false) /\ (AN.sty 7 = false) /\ (AN.sty 8 = false) /\ (AN.sty 9 = false) /\ (AN.sty 11 = false) /\ (AN.sty 12 = false) /\ (AN.sty 13 = false) /\ (AN.sty 15 = false) /\ (AN.sty 22 = false) /\ (AN.sty 25 = false) /\ (AN.sty 27 = false) /\ (AN.sty 29 = false) /\ (AN.sty 30 = false) /\ (AN.sty 31 = false) /\ (AN.sty 32 = false) /\ (AN.sty 33 = false) /\ (AN.sty 34 = false) /\ (AN.sty 35 = false) /\ (AN.sty 36 = false) /\ (AN.sty 37 = false) /\ (AN.sty 38 = true) /\ (AN.sty 43 = false) /\ (AN.sty 46 = false) /\ (AN.sty 47 = false) /\ (AN.sty 49 = false) /\ (AN.sty 50 = false) /\ (AN.sty 51 = false) /\ (AN.sty 52 = false) /\ (AN.sty 53 = false) /\ (AN.sty 54 = false) /\ (AN.sty 55 = false) /\ (AN.sty 56 = false) /\ (AN.sty 57 = false) /\ (AN.sty 58 = false) /\ (AN.sty 59 = false) /\ (AN.sty 60 = false) /\ (AN.sty 62 = false) /\ (AN.sty 63 = false) /\ (AN.sty 64 = false) /\ (AN.sty 65 = false) /\ (AN.sty 66 = false) /\ (AN.sty 67 = false) /\ (AN.sty 68 = false) /\ (AN.sty 69 = false) /\ (AN.sty 70 = false) /\ (AN.sty 71 = false) /\ (AN.sty 72 = false) /\ (AN.sty 73 = false) /\ (AN.sty 74 = false) /\ (AN.sty 75 = false) /\ (AN.sty 76 = false) /\ (AN.sty 77 = false) /\ (AN.sty 78 = false) /\ (AN.sty 79 = false) /\ (AN.sty 80 = false) /\ (AN.sty 81 = false) /\ (AN.sty 82 = false) /\ (AN.dr 8 10 = some ([62, 1000001, 1000060, 888888, 888887], false, [], [some 58, some 60])) /\ (AN.dr 9 12 = some ([69, 1000006, 1000064, 1000006, 1000071], false, [6], [some 64, some 66, some 71])) /\ (AN.dr 9 21 = some ([1000006, 1000109, 1000006, 1000111, 1000011, 1000113, 1000006, 1000118], false, [6], [some 109, some 111, some 113, some 118])) /\ (AN.dr 11 6 = some ([], false, [], [])) /\ (AN.dr 47 6 = some ([], false, [], [])) /\ (AN.dr 47 11 = some ([], false, [], [])) /\ (AN.dr 72 2 = some ([], false, [], [])) /\ (AN.dr 72 7 = some ([], false, [], [])) /\ (AN.dr 72 18 = some ([], false, [], [])) /\ (AN.dr 72 20 = some ([], false, [], [])) /\ (AN.dr 73 5 = some ([], false, [], [])) /\ (AN.dr 73 10 = some ([], false, [], [])) /\ (AN.dr 80 7 = some ([], false, [], [])) /\ (AN.dr 80 9 = some ([], false, [], [])) /\ (AN.dr 80 17 = some ([], false, [], [])) /\ (AN.dr 80 21 = some ([], false, [], [])) /\ (AN.dr 80 25 = some ([], false, [], [])) /\ (AN.dr 82 1 = some ([], false, [], [])) /\ (AN.dr 82 2 = some ([], false, [], [])) /\ (AN.keep 6 24 = some [2, 6, 10, 14, 32, 33, 34, 68, 69, 70, 75, 76, 77]) /\ (AN.fix 6 24 = [(2, [], 1), (4, [], 5), (7, [], 9), (10, [], 1)]) /\ (AN.frl 6 24 = false) /\ (AN.keep 6 21 = some [2, 6, 10, 32, 33, 34, 68, 69, 70]) /\ (AN.fix 6 21 = [(2, [], 1), (3, [], 5), (6, [], 9)]) /\ (AN.frl 6 21 = false) /\ (AN.keep 6 16 = some [6, 7, 10, 32, 33, 34, 57, 58, 59]) /\ (AN.fix 6 16 = [(1, [], 9), (2, [], 1), (3, [], 5), (6, [], 9)]) /\ (AN.frl 6 16 = false) /\ (AN.keep 6 8 = some [2, 32, 33, 34]) /\ (AN.fix 6 8 = [(1, [], 5)]) /\ (AN.frl 6 8 = false) /\ (AN.keep 8 200020 = some [2, 3, 8]) /\ (AN.fix 8 200020 = []) /\ (AN.frl 8 200020 = false) /\ (AN.keep 8 13 = some [1, 2, 3, 8, 64, 65, 66]) /\ (AN.fix 8 13 = [(4, [], 1)]) /\ (AN.frl 8 13 = false) /\ (AN.keep 9 18 = some [0, 1, 4, 6, 7, 8, 10, 11]) /\ (AN.fix 9 18 = [(0, [], 1), (3, [5], 1), (3, [7], 1)]) /\ (AN.frl 9 18 = false) /\ (AN.keep 9 12 = some [0, 1, 4, 6, 7, 8, 10, 61, 62]) /\ (AN.fix 9 12 = [(0, [], 1), (3, [5], 1), (3, [7], 1)]) /\ (AN.frl 9 12 = false) /\ (AN.keep 11 5 = some [0, 1, 4, 12, 13]) /\ (AN.fix 11 5 = [(0, [], 1), (1, [], 1)]) /\ (AN.frl 11 5 = false) /\ (AN.keep 12 4 = some [0, 2, 3, 4, 5, 6]) /\ (AN.fix 12 4 = [(0, [], 1), (1, [], 9), (4, [], 9)]) /\ (AN.frl 12 4 = false) /\ (AN.keep 13 4 = some [8, 9, 10, 17, 18]) /\ (AN.fix 13 4 = []) /\ (AN.frl 13 4 = false) /\ (AN.keep 29 15 = some [1, 4, 5, 95, 96, 97, 126, 127, 128]) /\ (AN.fix 29 15 = [(3, [], 5), (6, [], 2)]) /\ (AN.frl 29 15 = false) /\ (AN.keep 29 10 = some [1, 4, 5, 95, 96, 97]) /\ (AN.fix 29 10 = [(3, [], 5)]) /\ (AN.frl 29 10 = false) /\ (AN.keep 30 15 = some [1, 2, 3, 83, 84, 85]) /\ (AN.fix 30 15 = [(3, [], 5)]) /\ (AN.frl 30 15 = false) /\ (AN.keep 30 8 = some [1, 2, 3, 4, 69, 70, 71]) /\ (AN.fix 30 8 = [(4, [], 5)]) /\ (AN.frl 30 8 = false) /\ (AN.keep 47 10 = some [0, 3, 4, 5]) /\ (AN.fix 47 10 = [(0, [], 1), (2, [], 1)]) /\ (AN.frl 47 10 = false) /\ (AN.keep 47 5 = some [0, 2, 3]) /\ (AN.fix 47 5 = [(0, [], 1), (1, [], 1)]) /\ (AN.frl 47 5 = false) /\ (AN.keep 59 16 = some [1, 2, 3, 5, 93, 94, 95]) /\ (AN.fix 59 16 = [(3, [], 9), (4, [], 9)]) /\ (AN.frl 59 16 = false) /\ (AN.keep 59 11 = some [1, 5, 82, 83, 84]) /\ (AN.fix 59 11 = [(1, [], 9), (2, [], 9)]) /\ (AN.frl 59 11 = false) /\ (AN.keep 60 3 = some [0, 1, 4, 7, 8]) /\ (AN.fix 60 3 = [(0, [], 1)]) /\ (AN.frl 60 3 = false) /\ (AN.keep 62 3 = some [0, 1, 4, 7, 8]) /\ (AN.fix 62 3 = [(0, [], 1)]) /\ (AN.frl 62 3 = false) /\ (AN.keep 63 3 = some [0, 1, 4, 7, 8]) /\ (AN.fix 63 3 = [(0, [], 5)]) /\ (AN.frl 63 3 = false) /\ (AN.keep 64 6 = some [1, 2, 5]) /\ (AN.fix 64 6 = []) /\ (AN.frl 64 6 = false) /\ (AN.keep 65 3 = some [0, 1, 4, 7, 8]) /\ (AN.fix 65 3 = [(0, [], 5)]) /\ (AN.frl 65 3 = false) /\ (AN.keep 67 4 = some [2, 3, 9, 10, 11]) /\ (AN.fix 67 4 = [(2, [], 5)]) /\ (AN.frl 67 4 = false) /\ (AN.keep 72 12 = some [2, 3, 4, 78, 79, 80]) /\ (AN.fix 72 12 = [(3, [], 1)]) /\ (AN.frl 72 12 = false) /\ (AN.keep 72 6 = some [2, 3, 4, 60, 61, 62]) /\ (AN.fix 72 6 = [(3, [], 1)]) /\ (AN.frl 72 6 = false) /\ (AN.keep 73 14 = some [2, 4, 5, 6, 10, 28, 29, 30, 60, 61, 62]) /\ (AN.fix 73 14 = [(5, [], 2), (8, [], 1)]) /\ (AN.frl 73 14 = false) /\ (AN.keep 73 9 = some [2, 4, 5, 6, 28, 29, 30]) /\ (AN.fix 73 9 = [(4, [], 2)]) /\ (AN.frl 73 9 = false) /\ (AN.keep 73 4 = some [2, 6, 14, 15, 16]) /\ (AN.fix 73 4 = [(2, [], 9)]) /\ (AN.frl 73 4 = false) /\ (AN.keep 77 3 = some [0, 1, 4, 7, 8]) /\ (AN.fix 77 3 = [(0, [], 1)]) /\ (AN.frl 77 3 = false) /\ (AN.keep 80 10 = some [0, 2]) /\ (AN.fix 80 10 = []) /\ (AN.frl 80 10 = false) /\ (AN.keep 80 2 = some [0, 2]) /\ (AN.fix 80 2 = []) /\ (AN.frl 80 2 = false) := by and_intros <;> kernel_rfl
theorem anf : type_of% @anf0 /\ type_of% @acp /\ type_of% @afz := ⟨@anf0, @acp, @afz⟩
variable (a v : List AV) (l : HL)
theorem l6_24 : type_of% (ev_lp AN G 6 24 119 [2, 6, 10, 14, 32, 33, 34, 68, 69, 70, 75, 76, 77] (by kernel_rfl) Tryd.func6 rfl rfl rfl (by kernel_rfl) v l) :=
 ev_lp AN G 6 24 119 [2, 6, 10, 14, 32, 33, 34, 68, 69, 70, 75, 76, 77] (by kernel_rfl) Tryd.func6 rfl rfl rfl (by kernel_rfl) v l
theorem l6_21 : type_of% (ev_lp AN G 6 21 119 [2, 6, 10, 32, 33, 34, 68, 69, 70] (by kernel_rfl) Tryd.func6 rfl rfl rfl (by kernel_rfl) v l) :=
 ev_lp AN G 6 21 119 [2, 6, 10, 32, 33, 34, 68, 69, 70] (by kernel_rfl) Tryd.func6 rfl rfl rfl (by kernel_rfl) v l
theorem l6_16 : type_of% (ev_lp AN G 6 16 119 [6, 7, 10, 32, 33, 34, 57, 58, 59] (by kernel_rfl) Tryd.func6 rfl rfl rfl (by kernel_rfl) v l) :=
 ev_lp AN G 6 16 119 [6, 7, 10, 32, 33, 34, 57, 58, 59] (by kernel_rfl) Tryd.func6 rfl rfl rfl (by kernel_rfl) v l
theorem l6_8 : type_of% (ev_lp AN G 6 8 119 [2, 32, 33, 34] (by kernel_rfl) Tryd.func6 rfl rfl rfl (by kernel_rfl) v l) :=
 ev_lp AN G 6 8 119 [2, 32, 33, 34] (by kernel_rfl) Tryd.func6 rfl rfl rfl (by kernel_rfl) v l
theorem l8_200020 : type_of% (fun xs rest v l => ev_rg1 AN G 8 200020 114 [2, 3, 8] (by kernel_rfl) Tryd.func8 rfl rfl rfl (by kernel_rfl) xs rest v l) :=
 fun xs rest v l => ev_rg1 AN G 8 200020 114 [2, 3, 8] (by kernel_rfl) Tryd.func8 rfl rfl rfl (by kernel_rfl) xs rest v l
theorem l8_1200020 : type_of% (fun v l => ev_rg0 AN G 8 200020 114 [2, 3, 8] (by kernel_rfl) Tryd.func8 rfl rfl rfl (by kernel_rfl) v l) :=
 fun v l => ev_rg0 AN G 8 200020 114 [2, 3, 8] (by kernel_rfl) Tryd.func8 rfl rfl rfl (by kernel_rfl) v l
theorem l8_13 : type_of% (ev_lp AN G 8 13 114 [1, 2, 3, 8, 64, 65, 66] (by kernel_rfl) Tryd.func8 rfl rfl rfl (by kernel_rfl) v l) :=
 ev_lp AN G 8 13 114 [1, 2, 3, 8, 64, 65, 66] (by kernel_rfl) Tryd.func8 rfl rfl rfl (by kernel_rfl) v l
theorem l9_18 : type_of% (ev_lp AN G 9 18 143 [0, 1, 4, 6, 7, 8, 10, 11] (by kernel_rfl) Tryd.func9 rfl rfl rfl (by kernel_rfl) v l) :=
 ev_lp AN G 9 18 143 [0, 1, 4, 6, 7, 8, 10, 11] (by kernel_rfl) Tryd.func9 rfl rfl rfl (by kernel_rfl) v l
theorem l9_12 : type_of% (ev_lp AN G 9 12 143 [0, 1, 4, 6, 7, 8, 10, 61, 62] (by kernel_rfl) Tryd.func9 rfl rfl rfl (by kernel_rfl) v l) :=
 ev_lp AN G 9 12 143 [0, 1, 4, 6, 7, 8, 10, 61, 62] (by kernel_rfl) Tryd.func9 rfl rfl rfl (by kernel_rfl) v l
theorem l11_5 : type_of% (ev_lp AN G 11 5 26 [0, 1, 4, 12, 13] (by kernel_rfl) Tryd.func11 rfl rfl rfl (by kernel_rfl) v l) :=
 ev_lp AN G 11 5 26 [0, 1, 4, 12, 13] (by kernel_rfl) Tryd.func11 rfl rfl rfl (by kernel_rfl) v l
theorem l12_4 : type_of% (ev_lp AN G 12 4 32 [0, 2, 3, 4, 5, 6] (by kernel_rfl) Tryd.func12 rfl rfl rfl (by kernel_rfl) v l) :=
 ev_lp AN G 12 4 32 [0, 2, 3, 4, 5, 6] (by kernel_rfl) Tryd.func12 rfl rfl rfl (by kernel_rfl) v l
theorem l13_4 : type_of% (ev_lp AN G 13 4 37 [8, 9, 10, 17, 18] (by kernel_rfl) Tryd.func13 rfl rfl rfl (by kernel_rfl) v l) :=
 ev_lp AN G 13 4 37 [8, 9, 10, 17, 18] (by kernel_rfl) Tryd.func13 rfl rfl rfl (by kernel_rfl) v l
theorem l29_15 : type_of% (ev_lp AN G 29 15 138 [1, 4, 5, 95, 96, 97, 126, 127, 128] (by kernel_rfl) Tryd.func29 rfl rfl rfl (by kernel_rfl) v l) :=
 ev_lp AN G 29 15 138 [1, 4, 5, 95, 96, 97, 126, 127, 128] (by kernel_rfl) Tryd.func29 rfl rfl rfl (by kernel_rfl) v l
theorem l29_10 : type_of% (ev_lp AN G 29 10 138 [1, 4, 5, 95, 96, 97] (by kernel_rfl) Tryd.func29 rfl rfl rfl (by kernel_rfl) v l) :=
 ev_lp AN G 29 10 138 [1, 4, 5, 95, 96, 97] (by kernel_rfl) Tryd.func29 rfl rfl rfl (by kernel_rfl) v l
theorem l30_15 : type_of% (ev_lp AN G 30 15 106 [1, 2, 3, 83, 84, 85] (by kernel_rfl) Tryd.func30 rfl rfl rfl (by kernel_rfl) v l) :=
 ev_lp AN G 30 15 106 [1, 2, 3, 83, 84, 85] (by kernel_rfl) Tryd.func30 rfl rfl rfl (by kernel_rfl) v l
theorem l30_8 : type_of% (ev_lp AN G 30 8 106 [1, 2, 3, 4, 69, 70, 71] (by kernel_rfl) Tryd.func30 rfl rfl rfl (by kernel_rfl) v l) :=
 ev_lp AN G 30 8 106 [1, 2, 3, 4, 69, 70, 71] (by kernel_rfl) Tryd.func30 rfl rfl rfl (by kernel_rfl) v l
theorem l47_10 : type_of% (ev_lp AN G 47 10 61 [0, 3, 4, 5] (by kernel_rfl) Tryd.func47 rfl rfl rfl (by kernel_rfl) v l) :=
 ev_lp AN G 47 10 61 [0, 3, 4, 5] (by kernel_rfl) Tryd.func47 rfl rfl rfl (by kernel_rfl) v l
theorem l47_5 : type_of% (ev_lp AN G 47 5 61 [0, 2, 3] (by kernel_rfl) Tryd.func47 rfl rfl rfl (by kernel_rfl) v l) :=
 ev_lp AN G 47 5 61 [0, 2, 3] (by kernel_rfl) Tryd.func47 rfl rfl rfl (by kernel_rfl) v l
theorem l59_16 : type_of% (ev_lp AN G 59 16 115 [1, 2, 3, 5, 93, 94, 95] (by kernel_rfl) Tryd.func59 rfl rfl rfl (by kernel_rfl) v l) :=
 ev_lp AN G 59 16 115 [1, 2, 3, 5, 93, 94, 95] (by kernel_rfl) Tryd.func59 rfl rfl rfl (by kernel_rfl) v l
theorem l59_11 : type_of% (ev_lp AN G 59 11 115 [1, 5, 82, 83, 84] (by kernel_rfl) Tryd.func59 rfl rfl rfl (by kernel_rfl) v l) :=
 ev_lp AN G 59 11 115 [1, 5, 82, 83, 84] (by kernel_rfl) Tryd.func59 rfl rfl rfl (by kernel_rfl) v l
theorem l60_3 : type_of% (ev_lp AN G 60 3 19 [0, 1, 4, 7, 8] (by kernel_rfl) Tryd.func60 rfl rfl rfl (by kernel_rfl) v l) :=
 ev_lp AN G 60 3 19 [0, 1, 4, 7, 8] (by kernel_rfl) Tryd.func60 rfl rfl rfl (by kernel_rfl) v l
theorem l62_3 : type_of% (ev_lp AN G 62 3 19 [0, 1, 4, 7, 8] (by kernel_rfl) Tryd.func62 rfl rfl rfl (by kernel_rfl) v l) :=
 ev_lp AN G 62 3 19 [0, 1, 4, 7, 8] (by kernel_rfl) Tryd.func62 rfl rfl rfl (by kernel_rfl) v l
theorem l63_3 : type_of% (ev_lp AN G 63 3 19 [0, 1, 4, 7, 8] (by kernel_rfl) Tryd.func63 rfl rfl rfl (by kernel_rfl) v l) :=
 ev_lp AN G 63 3 19 [0, 1, 4, 7, 8] (by kernel_rfl) Tryd.func63 rfl rfl rfl (by kernel_rfl) v l
theorem l64_6 : type_of% (ev_lp AN G 64 6 31 [1, 2, 5] (by kernel_rfl) Tryd.func64 rfl rfl rfl (by kernel_rfl) v l) :=
 ev_lp AN G 64 6 31 [1, 2, 5] (by kernel_rfl) Tryd.func64 rfl rfl rfl (by kernel_rfl) v l
theorem l65_3 : type_of% (ev_lp AN G 65 3 19 [0, 1, 4, 7, 8] (by kernel_rfl) Tryd.func65 rfl rfl rfl (by kernel_rfl) v l) :=
 ev_lp AN G 65 3 19 [0, 1, 4, 7, 8] (by kernel_rfl) Tryd.func65 rfl rfl rfl (by kernel_rfl) v l
theorem l67_4 : type_of% (ev_lp AN G 67 4 30 [2, 3, 9, 10, 11] (by kernel_rfl) Tryd.func67 rfl rfl rfl (by kernel_rfl) v l) :=
 ev_lp AN G 67 4 30 [2, 3, 9, 10, 11] (by kernel_rfl) Tryd.func67 rfl rfl rfl (by kernel_rfl) v l
theorem l72_12 : type_of% (ev_lp AN G 72 12 139 [2, 3, 4, 78, 79, 80] (by kernel_rfl) Tryd.func72 rfl rfl rfl (by kernel_rfl) v l) :=
 ev_lp AN G 72 12 139 [2, 3, 4, 78, 79, 80] (by kernel_rfl) Tryd.func72 rfl rfl rfl (by kernel_rfl) v l
theorem l72_6 : type_of% (ev_lp AN G 72 6 139 [2, 3, 4, 60, 61, 62] (by kernel_rfl) Tryd.func72 rfl rfl rfl (by kernel_rfl) v l) :=
 ev_lp AN G 72 6 139 [2, 3, 4, 60, 61, 62] (by kernel_rfl) Tryd.func72 rfl rfl rfl (by kernel_rfl) v l
theorem l73_14 : type_of% (ev_lp AN G 73 14 95 [2, 4, 5, 6, 10, 28, 29, 30, 60, 61, 62] (by kernel_rfl) Tryd.func73 rfl rfl rfl (by kernel_rfl) v l) :=
 ev_lp AN G 73 14 95 [2, 4, 5, 6, 10, 28, 29, 30, 60, 61, 62] (by kernel_rfl) Tryd.func73 rfl rfl rfl (by kernel_rfl) v l
theorem l73_9 : type_of% (ev_lp AN G 73 9 95 [2, 4, 5, 6, 28, 29, 30] (by kernel_rfl) Tryd.func73 rfl rfl rfl (by kernel_rfl) v l) :=
 ev_lp AN G 73 9 95 [2, 4, 5, 6, 28, 29, 30] (by kernel_rfl) Tryd.func73 rfl rfl rfl (by kernel_rfl) v l
theorem l73_4 : type_of% (ev_lp AN G 73 4 95 [2, 6, 14, 15, 16] (by kernel_rfl) Tryd.func73 rfl rfl rfl (by kernel_rfl) v l) :=
 ev_lp AN G 73 4 95 [2, 6, 14, 15, 16] (by kernel_rfl) Tryd.func73 rfl rfl rfl (by kernel_rfl) v l
theorem l77_3 : type_of% (ev_lp AN G 77 3 19 [0, 1, 4, 7, 8] (by kernel_rfl) Tryd.func77 rfl rfl rfl (by kernel_rfl) v l) :=
 ev_lp AN G 77 3 19 [0, 1, 4, 7, 8] (by kernel_rfl) Tryd.func77 rfl rfl rfl (by kernel_rfl) v l
theorem l80_10 : type_of% (ev_lp AN G 80 10 169 [0, 2] (by kernel_rfl) Tryd.func80 rfl rfl rfl (by kernel_rfl) v l) :=
 ev_lp AN G 80 10 169 [0, 2] (by kernel_rfl) Tryd.func80 rfl rfl rfl (by kernel_rfl) v l
theorem l80_2 : type_of% (ev_lp AN G 80 2 169 [0, 2] (by kernel_rfl) Tryd.func80 rfl rfl rfl (by kernel_rfl) v l) :=
 ev_lp AN G 80 2 169 [0, 2] (by kernel_rfl) Tryd.func80 rfl rfl rfl (by kernel_rfl) v l
theorem e3 : type_of% (ev_fn AN G 3 141 [.tmp 2] (by kernel_rfl) Tryd.func3 rfl rfl rfl a l) :=
 ev_fn AN G 3 141 [.tmp 2] (by kernel_rfl) Tryd.func3 rfl rfl rfl a l
theorem e4 : type_of% (ev_fn AN G 4 184 [.tmp 14] (by kernel_rfl) Tryd.func4 rfl rfl rfl a l) :=
 ev_fn AN G 4 184 [.tmp 14] (by kernel_rfl) Tryd.func4 rfl rfl rfl a l
theorem e5 : type_of% (ev_fn AN G 5 53 [.tmp 2] (by kernel_rfl) Tryd.func5 rfl rfl rfl a l) :=
 ev_fn AN G 5 53 [.tmp 2] (by kernel_rfl) Tryd.func5 rfl rfl rfl a l
theorem e6 : type_of% (ev_fn AN G 6 119 [.tmp 2] (by kernel_rfl) Tryd.func6 rfl rfl rfl a l) :=
 ev_fn AN G 6 119 [.tmp 2] (by kernel_rfl) Tryd.func6 rfl rfl rfl a l
theorem e7 : type_of% (ev_fn AN G 7 47 [.tmp 0] (by kernel_rfl) Tryd.func7 rfl rfl rfl a l) :=
 ev_fn AN G 7 47 [.tmp 0] (by kernel_rfl) Tryd.func7 rfl rfl rfl a l
theorem e8 : type_of% (ev_fn AN G 8 114 [.cell 2 24, .cell 3 28] (by kernel_rfl) Tryd.func8 rfl rfl rfl a l) :=
 ev_fn AN G 8 114 [.cell 2 24, .cell 3 28] (by kernel_rfl) Tryd.func8 rfl rfl rfl a l
theorem e9 : type_of% (ev_fn AN G 9 143 [.cell 4 27, .tmp 5] (by kernel_rfl) Tryd.func9 rfl rfl rfl a l) :=
 ev_fn AN G 9 143 [.cell 4 27, .tmp 5] (by kernel_rfl) Tryd.func9 rfl rfl rfl a l
theorem e11 : type_of% (ev_fn AN G 11 26 [.tmp 4] (by kernel_rfl) Tryd.func11 rfl rfl rfl a l) :=
 ev_fn AN G 11 26 [.tmp 4] (by kernel_rfl) Tryd.func11 rfl rfl rfl a l
theorem e12 : type_of% (ev_fn AN G 12 32 [.tmp 2, .tmp 3, .tmp 4] (by kernel_rfl) Tryd.func12 rfl rfl rfl a l) :=
 ev_fn AN G 12 32 [.tmp 2, .tmp 3, .tmp 4] (by kernel_rfl) Tryd.func12 rfl rfl rfl a l
theorem e13 : type_of% (ev_fn AN G 13 37 [.tmp 8, .tmp 9] (by kernel_rfl) Tryd.func13 rfl rfl rfl a l) :=
 ev_fn AN G 13 37 [.tmp 8, .tmp 9] (by kernel_rfl) Tryd.func13 rfl rfl rfl a l
theorem e15 : type_of% (ev_fn AN G 15 20 [.tmp 2, .tmp 3, .tmp 4, .tmp 5] (by kernel_rfl) Tryd.func15 rfl rfl rfl a l) :=
 ev_fn AN G 15 20 [.tmp 2, .tmp 3, .tmp 4, .tmp 5] (by kernel_rfl) Tryd.func15 rfl rfl rfl a l
theorem e16 : type_of% (ev_fn AN G 16 19 [.tmp 2, .tmp 3, .tmp 4, .tmp 5] (by kernel_rfl) Tryd.func16 rfl rfl rfl a l) :=
 ev_fn AN G 16 19 [.tmp 2, .tmp 3, .tmp 4, .tmp 5] (by kernel_rfl) Tryd.func16 rfl rfl rfl a l
theorem e22 : type_of% (ev_fn AN G 22 55 [.tmp 2, .tmp 3] (by kernel_rfl) Tryd.func22 rfl rfl rfl a l) :=
 ev_fn AN G 22 55 [.tmp 2, .tmp 3] (by kernel_rfl) Tryd.func22 rfl rfl rfl a l
theorem e24 : type_of% (ev_fn AN G 24 26 [.tmp 4] (by kernel_rfl) Tryd.func24 rfl rfl rfl a l) :=
 ev_fn AN G 24 26 [.tmp 4] (by kernel_rfl) Tryd.func24 rfl rfl rfl a l
theorem e25 : type_of% (ev_fn AN G 25 40 [.tmp 2] (by kernel_rfl) Tryd.func25 rfl rfl rfl a l) :=
 ev_fn AN G 25 40 [.tmp 2] (by kernel_rfl) Tryd.func25 rfl rfl rfl a l
theorem e27 : type_of% (ev_fn AN G 27 16 [.tmp 2] (by kernel_rfl) Tryd.func27 rfl rfl rfl a l) :=
 ev_fn AN G 27 16 [.tmp 2] (by kernel_rfl) Tryd.func27 rfl rfl rfl a l
theorem e29 : type_of% (ev_fn AN G 29 138 [.tmp 4] (by kernel_rfl) Tryd.func29 rfl rfl rfl a l) :=
 ev_fn AN G 29 138 [.tmp 4] (by kernel_rfl) Tryd.func29 rfl rfl rfl a l
theorem e30 : type_of% (ev_fn AN G 30 106 [.cell 2 70, .tmp 3] (by kernel_rfl) Tryd.func30 rfl rfl rfl a l) :=
 ev_fn AN G 30 106 [.cell 2 70, .tmp 3] (by kernel_rfl) Tryd.func30 rfl rfl rfl a l
theorem e31 : type_of% (ev_fn AN G 31 9 [.tmp 4] (by kernel_rfl) Tryd.func31 rfl rfl rfl a l) :=
 ev_fn AN G 31 9 [.tmp 4] (by kernel_rfl) Tryd.func31 rfl rfl rfl a l
theorem e32 : type_of% (ev_fn AN G 32 13 [.tmp 3] (by kernel_rfl) Tryd.func32 rfl rfl rfl a l) :=
 ev_fn AN G 32 13 [.tmp 3] (by kernel_rfl) Tryd.func32 rfl rfl rfl a l
theorem e33 : type_of% (ev_fn AN G 33 10 [.tmp 3] (by kernel_rfl) Tryd.func33 rfl rfl rfl a l) :=
 ev_fn AN G 33 10 [.tmp 3] (by kernel_rfl) Tryd.func33 rfl rfl rfl a l
theorem e34 : type_of% (ev_fn AN G 34 14 [.cell 2 85, .tmp 3] (by kernel_rfl) Tryd.func34 rfl rfl rfl a l) :=
 ev_fn AN G 34 14 [.cell 2 85, .tmp 3] (by kernel_rfl) Tryd.func34 rfl rfl rfl a l
theorem e35 : type_of% (ev_fn AN G 35 105 [.tmp 4] (by kernel_rfl) Tryd.func35 rfl rfl rfl a l) :=
 ev_fn AN G 35 105 [.tmp 4] (by kernel_rfl) Tryd.func35 rfl rfl rfl a l
theorem e36 : type_of% (ev_fn AN G 36 8 [.tmp 2] (by kernel_rfl) Tryd.func36 rfl rfl rfl a l) :=
 ev_fn AN G 36 8 [.tmp 2] (by kernel_rfl) Tryd.func36 rfl rfl rfl a l
theorem e37 : type_of% (ev_fn AN G 37 9 [.tmp 4] (by kernel_rfl) Tryd.func37 rfl rfl rfl a l) :=
 ev_fn AN G 37 9 [.tmp 4] (by kernel_rfl) Tryd.func37 rfl rfl rfl a l
theorem e38 : type_of% (ev_fn AN G 38 18 [.tmp 3] (by kernel_rfl) Tryd.func38 rfl rfl rfl a l) :=
 ev_fn AN G 38 18 [.tmp 3] (by kernel_rfl) Tryd.func38 rfl rfl rfl a l
theorem e43 : type_of% (ev_fn AN G 43 13 [.tmp 2] (by kernel_rfl) Tryd.func43 rfl rfl rfl a l) :=
 ev_fn AN G 43 13 [.tmp 2] (by kernel_rfl) Tryd.func43 rfl rfl rfl a l
theorem e46 : type_of% (ev_fn AN G 46 9 [.tmp 2] (by kernel_rfl) Tryd.func46 rfl rfl rfl a l) :=
 ev_fn AN G 46 9 [.tmp 2] (by kernel_rfl) Tryd.func46 rfl rfl rfl a l
theorem e47 : type_of% (ev_fn AN G 47 61 [.tmp 2] (by kernel_rfl) Tryd.func47 rfl rfl rfl a l) :=
 ev_fn AN G 47 61 [.tmp 2] (by kernel_rfl) Tryd.func47 rfl rfl rfl a l
theorem e49 : type_of% (ev_fn AN G 49 6 [.tmp 2] (by kernel_rfl) Tryd.func49 rfl rfl rfl a l) :=
 ev_fn AN G 49 6 [.tmp 2] (by kernel_rfl) Tryd.func49 rfl rfl rfl a l
theorem e50 : type_of% (ev_fn AN G 50 9 [.tmp 4] (by kernel_rfl) Tryd.func50 rfl rfl rfl a l) :=
 ev_fn AN G 50 9 [.tmp 4] (by kernel_rfl) Tryd.func50 rfl rfl rfl a l
theorem e51 : type_of% (ev_fn AN G 51 9 [.tmp 4] (by kernel_rfl) Tryd.func51 rfl rfl rfl a l) :=
 ev_fn AN G 51 9 [.tmp 4] (by kernel_rfl) Tryd.func51 rfl rfl rfl a l
theorem e52 : type_of% (ev_fn AN G 52 6 [.tmp 2] (by kernel_rfl) Tryd.func52 rfl rfl rfl a l) :=
 ev_fn AN G 52 6 [.tmp 2] (by kernel_rfl) Tryd.func52 rfl rfl rfl a l
theorem e53 : type_of% (ev_fn AN G 53 15 [.tmp 4] (by kernel_rfl) Tryd.func53 rfl rfl rfl a l) :=
 ev_fn AN G 53 15 [.tmp 4] (by kernel_rfl) Tryd.func53 rfl rfl rfl a l
theorem e54 : type_of% (ev_fn AN G 54 9 [.tmp 4] (by kernel_rfl) Tryd.func54 rfl rfl rfl a l) :=
 ev_fn AN G 54 9 [.tmp 4] (by kernel_rfl) Tryd.func54 rfl rfl rfl a l
theorem e55 : type_of% (ev_fn AN G 55 14 [.tmp 3] (by kernel_rfl) Tryd.func55 rfl rfl rfl a l) :=
 ev_fn AN G 55 14 [.tmp 3] (by kernel_rfl) Tryd.func55 rfl rfl rfl a l
theorem e56 : type_of% (ev_fn AN G 56 5 [.tmp 2] (by kernel_rfl) Tryd.func56 rfl rfl rfl a l) :=
 ev_fn AN G 56 5 [.tmp 2] (by kernel_rfl) Tryd.func56 rfl rfl rfl a l
theorem e57 : type_of% (ev_fn AN G 57 13 [.tmp 2] (by kernel_rfl) Tryd.func57 rfl rfl rfl a l) :=
 ev_fn AN G 57 13 [.tmp 2] (by kernel_rfl) Tryd.func57 rfl rfl rfl a l
theorem e58 : type_of% (ev_fn AN G 58 19 [.tmp 2] (by kernel_rfl) Tryd.func58 rfl rfl rfl a l) :=
 ev_fn AN G 58 19 [.tmp 2] (by kernel_rfl) Tryd.func58 rfl rfl rfl a l
theorem e59 : type_of% (ev_fn AN G 59 115 [.tmp 2, .tmp 3] (by kernel_rfl) Tryd.func59 rfl rfl rfl a l) :=
 ev_fn AN G 59 115 [.tmp 2, .tmp 3] (by kernel_rfl) Tryd.func59 rfl rfl rfl a l
theorem e60 : type_of% (ev_fn AN G 60 19 [.tmp 4] (by kernel_rfl) Tryd.func60 rfl rfl rfl a l) :=
 ev_fn AN G 60 19 [.tmp 4] (by kernel_rfl) Tryd.func60 rfl rfl rfl a l
theorem e62 : type_of% (ev_fn AN G 62 19 [.tmp 4] (by kernel_rfl) Tryd.func62 rfl rfl rfl a l) :=
 ev_fn AN G 62 19 [.tmp 4] (by kernel_rfl) Tryd.func62 rfl rfl rfl a l
theorem e63 : type_of% (ev_fn AN G 63 19 [.tmp 4] (by kernel_rfl) Tryd.func63 rfl rfl rfl a l) :=
 ev_fn AN G 63 19 [.tmp 4] (by kernel_rfl) Tryd.func63 rfl rfl rfl a l
theorem e64 : type_of% (ev_fn AN G 64 31 [.tmp 4] (by kernel_rfl) Tryd.func64 rfl rfl rfl a l) :=
 ev_fn AN G 64 31 [.tmp 4] (by kernel_rfl) Tryd.func64 rfl rfl rfl a l
theorem e65 : type_of% (ev_fn AN G 65 19 [.tmp 4] (by kernel_rfl) Tryd.func65 rfl rfl rfl a l) :=
 ev_fn AN G 65 19 [.tmp 4] (by kernel_rfl) Tryd.func65 rfl rfl rfl a l
theorem e66 : type_of% (ev_fn AN G 66 6 [.tmp 2] (by kernel_rfl) Tryd.func66 rfl rfl rfl a l) :=
 ev_fn AN G 66 6 [.tmp 2] (by kernel_rfl) Tryd.func66 rfl rfl rfl a l
theorem e67 : type_of% (ev_fn AN G 67 30 [.tmp 2, .tmp 3] (by kernel_rfl) Tryd.func67 rfl rfl rfl a l) :=
 ev_fn AN G 67 30 [.tmp 2, .tmp 3] (by kernel_rfl) Tryd.func67 rfl rfl rfl a l
theorem e68 : type_of% (ev_fn AN G 68 15 [.tmp 4] (by kernel_rfl) Tryd.func68 rfl rfl rfl a l) :=
 ev_fn AN G 68 15 [.tmp 4] (by kernel_rfl) Tryd.func68 rfl rfl rfl a l
theorem e69 : type_of% (ev_fn AN G 69 124 [.tmp 2] (by kernel_rfl) Tryd.func69 rfl rfl rfl a l) :=
 ev_fn AN G 69 124 [.tmp 2] (by kernel_rfl) Tryd.func69 rfl rfl rfl a l
theorem e70 : type_of% (ev_fn AN G 70 9 [.tmp 2] (by kernel_rfl) Tryd.func70 rfl rfl rfl a l) :=
 ev_fn AN G 70 9 [.tmp 2] (by kernel_rfl) Tryd.func70 rfl rfl rfl a l
theorem e71 : type_of% (ev_fn AN G 71 9 [.tmp 4] (by kernel_rfl) Tryd.func71 rfl rfl rfl a l) :=
 ev_fn AN G 71 9 [.tmp 4] (by kernel_rfl) Tryd.func71 rfl rfl rfl a l
theorem e72 : type_of% (ev_fn AN G 72 139 [.tmp 4] (by kernel_rfl) Tryd.func72 rfl rfl rfl a l) :=
 ev_fn AN G 72 139 [.tmp 4] (by kernel_rfl) Tryd.func72 rfl rfl rfl a l
theorem e73 : type_of% (ev_fn AN G 73 95 [.tmp 4, .tmp 5] (by kernel_rfl) Tryd.func73 rfl rfl rfl a l) :=
 ev_fn AN G 73 95 [.tmp 4, .tmp 5] (by kernel_rfl) Tryd.func73 rfl rfl rfl a l
theorem e74 : type_of% (ev_fn AN G 74 8 [.tmp 3] (by kernel_rfl) Tryd.func74 rfl rfl rfl a l) :=
 ev_fn AN G 74 8 [.tmp 3] (by kernel_rfl) Tryd.func74 rfl rfl rfl a l
theorem e75 : type_of% (ev_fn AN G 75 9 [.tmp 2] (by kernel_rfl) Tryd.func75 rfl rfl rfl a l) :=
 ev_fn AN G 75 9 [.tmp 2] (by kernel_rfl) Tryd.func75 rfl rfl rfl a l
theorem e76 : type_of% (ev_fn AN G 76 17 [.tmp 4] (by kernel_rfl) Tryd.func76 rfl rfl rfl a l) :=
 ev_fn AN G 76 17 [.tmp 4] (by kernel_rfl) Tryd.func76 rfl rfl rfl a l
theorem e77 : type_of% (ev_fn AN G 77 19 [.tmp 4] (by kernel_rfl) Tryd.func77 rfl rfl rfl a l) :=
 ev_fn AN G 77 19 [.tmp 4] (by kernel_rfl) Tryd.func77 rfl rfl rfl a l
theorem e78 : type_of% (ev_fn AN G 78 80 [.tmp 6] (by kernel_rfl) Tryd.func78 rfl rfl rfl a l) :=
 ev_fn AN G 78 80 [.tmp 6] (by kernel_rfl) Tryd.func78 rfl rfl rfl a l
theorem e79 : type_of% (ev_fn AN G 79 13 [.tmp 2] (by kernel_rfl) Tryd.func79 rfl rfl rfl a l) :=
 ev_fn AN G 79 13 [.tmp 2] (by kernel_rfl) Tryd.func79 rfl rfl rfl a l
theorem e80 : type_of% (ev_fn AN G 80 169 [.tmp 2] (by kernel_rfl) Tryd.func80 rfl rfl rfl a l) :=
 ev_fn AN G 80 169 [.tmp 2] (by kernel_rfl) Tryd.func80 rfl rfl rfl a l
theorem e81 : type_of% (ev_fn AN G 81 25 [.tmp 4] (by kernel_rfl) Tryd.func81 rfl rfl rfl a l) :=
 ev_fn AN G 81 25 [.tmp 4] (by kernel_rfl) Tryd.func81 rfl rfl rfl a l
theorem e82 : type_of% (ev_fn AN G 82 59 [.tmp 2] (by kernel_rfl) Tryd.func82 rfl rfl rfl a l) :=
 ev_fn AN G 82 59 [.tmp 2] (by kernel_rfl) Tryd.func82 rfl rfl rfl a l
end Go.Proofs.YtfdipcpmfoidoaaDoor

