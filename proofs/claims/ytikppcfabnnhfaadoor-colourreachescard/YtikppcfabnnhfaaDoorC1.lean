/- A part of the proof of ColourReachesCardSaid. -/
import Derived.Test.YtikppcfabnnhfaaDoorProg
import Derived.Test.YtikppcfabnnhfaaDoorCAw5
namespace Go.Proofs.YtikppcfabnnhfaaDoor
open Go Go.Aw
theorem ty1 : (tLoad Tryd.prog 1 = some none) /\ (tKind Tryd.prog 1 = some .func) /\ (tSz Tryd.prog 1 = some 1) /\ (Tryd.prog.bytesOf 1 = 8) /\ (tZero Tryd.prog 1 = some [.nilf]) /\ (eok Tryd.prog 1 [.nilf] = true) /\ (mkE Tryd.prog 1 [.nilf] = .nilf) /\ (zeroOf Tryd.prog 1 = some [.nilf]) :=
 by and_intros <;> kernel_rfl
theorem ty2 : (tLoad Tryd.prog 2 = some none) /\ (tKind Tryd.prog 2 = some (.int .i64)) /\ (tSz Tryd.prog 2 = some 1) /\ (Tryd.prog.bytesOf 2 = 8) /\ (tZero Tryd.prog 2 = some [.int .i64 0]) /\ (eok Tryd.prog 2 [.int .i64 0] = true) /\ (mkE Tryd.prog 2 [.int .i64 0] = .int .i64 0) /\ (zeroOf Tryd.prog 2 = some [.int .i64 0]) :=
 by and_intros <;> kernel_rfl
theorem ty3 : (tLoad Tryd.prog 3 = some none) /\ (tKind Tryd.prog 3 = some (.int .i64)) /\ (tSz Tryd.prog 3 = some 1) /\ (Tryd.prog.bytesOf 3 = 8) /\ (tZero Tryd.prog 3 = some [.int .i64 0]) /\ (eok Tryd.prog 3 [.int .i64 0] = true) /\ (mkE Tryd.prog 3 [.int .i64 0] = .int .i64 0) /\ (zeroOf Tryd.prog 3 = some [.int .i64 0]) :=
 by and_intros <;> kernel_rfl
theorem ty4 : (tLoad Tryd.prog 4 = some none) /\ (tKind Tryd.prog 4 = some .bool) /\ (tSz Tryd.prog 4 = some 1) /\ (Tryd.prog.bytesOf 4 = 1) /\ (tZero Tryd.prog 4 = some [.bool false]) /\ (eok Tryd.prog 4 [.bool false] = true) /\ (mkE Tryd.prog 4 [.bool false] = .bool false) /\ (zeroOf Tryd.prog 4 = some [.bool false]) :=
 by and_intros <;> kernel_rfl
theorem ty5 : (tLoad Tryd.prog 5 = some none) /\ (tKind Tryd.prog 5 = some (.int .u8)) /\ (tSz Tryd.prog 5 = some 1) /\ (Tryd.prog.bytesOf 5 = 1) /\ (tZero Tryd.prog 5 = some [.int .u8 0]) /\ (eok Tryd.prog 5 [.int .u8 0] = true) /\ (mkE Tryd.prog 5 [.int .u8 0] = .int .u8 0) /\ (zeroOf Tryd.prog 5 = some [.int .u8 0]) :=
 by and_intros <;> kernel_rfl
theorem ty9 : (tLoad Tryd.prog 9 = some none) /\ (tKind Tryd.prog 9 = some .string) /\ (tSz Tryd.prog 9 = some 1) /\ (Tryd.prog.bytesOf 9 = 16) /\ (tZero Tryd.prog 9 = some [.str ⟨#[]⟩]) /\ (eok Tryd.prog 9 [.str ⟨#[]⟩] = true) /\ (mkE Tryd.prog 9 [.str ⟨#[]⟩] = .str ⟨#[]⟩) /\ (zeroOf Tryd.prog 9 = some [.str ⟨#[]⟩]) /\ (isTy2 Tryd.prog 9 = true) :=
 by and_intros <;> kernel_rfl
theorem ty20 : (tLoad Tryd.prog 20 = some none) /\ (tKind Tryd.prog 20 = some .other) :=
 by and_intros <;> kernel_rfl
theorem ty22 : (tLoad Tryd.prog 22 = some none) /\ (tKind Tryd.prog 22 = some .slice) /\ (tSz Tryd.prog 22 = some 1) /\ (Tryd.prog.bytesOf 22 = 24) /\ (tZero Tryd.prog 22 = some [.nilsl]) /\ (eok Tryd.prog 22 [.nilsl] = true) /\ (mkE Tryd.prog 22 [.nilsl] = .nilsl) /\ (zeroOf Tryd.prog 22 = some [.nilsl]) /\ (tIndex Tryd.prog 22 = some (none, 2, some 2)) /\ (tSliceElem Tryd.prog 22 = some 27) /\ (isTy2 Tryd.prog 22 = true) :=
 by and_intros <;> kernel_rfl
theorem ty23 : (tLoad Tryd.prog 23 = some none) /\ (tKind Tryd.prog 23 = some .slice) /\ (tSz Tryd.prog 23 = some 1) /\ (Tryd.prog.bytesOf 23 = 24) /\ (tZero Tryd.prog 23 = some [.nilsl]) /\ (eok Tryd.prog 23 [.nilsl] = true) /\ (mkE Tryd.prog 23 [.nilsl] = .nilsl) /\ (zeroOf Tryd.prog 23 = some [.nilsl]) /\ (tIndex Tryd.prog 23 = some (none, 1, none)) /\ (tSliceElem Tryd.prog 23 = some 3) /\ (isTy2 Tryd.prog 23 = true) :=
 by and_intros <;> kernel_rfl
theorem ty26 : (tLoad Tryd.prog 26 = some (some 2)) /\ (tKind Tryd.prog 26 = some .other) /\ (tSz Tryd.prog 26 = some 2) /\ (Tryd.prog.bytesOf 26 = 16) /\ (tZero Tryd.prog 26 = some [.int .i64 0, .int .i64 0]) /\ (eok Tryd.prog 26 [.int .i64 0, .int .i64 0] = true) /\ (mkE Tryd.prog 26 [.int .i64 0, .int .i64 0] = .agg [.int .i64 0, .int .i64 0]) /\ (zeroOf Tryd.prog 26 = some [.int .i64 0, .int .i64 0]) /\ (tField Tryd.prog 26 0 = some (0, none)) /\ (placeOf Tryd.prog 26 0 = some (0, 1)) /\ (tField Tryd.prog 26 1 = some (1, none)) /\ (placeOf Tryd.prog 26 1 = some (1, 1)) /\ (buildable Tryd.prog 26 = true) /\ (leaves Tryd.prog 26 = some [.i .i64, .i .i64]) :=
 by and_intros <;> kernel_rfl
theorem ty27 : (tLoad Tryd.prog 27 = some (some 2)) /\ (tKind Tryd.prog 27 = some .other) /\ (tSz Tryd.prog 27 = some 2) /\ (Tryd.prog.bytesOf 27 = 16) /\ (tZero Tryd.prog 27 = some [.int .i64 0, .int .i64 0]) /\ (eok Tryd.prog 27 [.int .i64 0, .int .i64 0] = true) /\ (mkE Tryd.prog 27 [.int .i64 0, .int .i64 0] = .agg [.int .i64 0, .int .i64 0]) /\ (zeroOf Tryd.prog 27 = some [.int .i64 0, .int .i64 0]) /\ (tField Tryd.prog 27 0 = some (0, none)) /\ (placeOf Tryd.prog 27 0 = some (0, 1)) /\ (tField Tryd.prog 27 1 = some (1, none)) /\ (placeOf Tryd.prog 27 1 = some (1, 1)) /\ (buildable Tryd.prog 27 = true) /\ (leaves Tryd.prog 27 = some [.i .i64, .i .i64]) :=
 by and_intros <;> kernel_rfl
theorem ty32 : (tLoad Tryd.prog 32 = some none) /\ (tKind Tryd.prog 32 = some .slice) /\ (tSz Tryd.prog 32 = some 1) /\ (Tryd.prog.bytesOf 32 = 24) /\ (tZero Tryd.prog 32 = some [.nilsl]) /\ (eok Tryd.prog 32 [.nilsl] = true) /\ (mkE Tryd.prog 32 [.nilsl] = .nilsl) /\ (zeroOf Tryd.prog 32 = some [.nilsl]) /\ (tIndex Tryd.prog 32 = some (none, 1, none)) /\ (tSliceElem Tryd.prog 32 = some 36) /\ (isTy2 Tryd.prog 32 = true) :=
 by and_intros <;> kernel_rfl
theorem ty33 : (tLoad Tryd.prog 33 = some none) /\ (tKind Tryd.prog 33 = some .slice) /\ (tSz Tryd.prog 33 = some 1) /\ (Tryd.prog.bytesOf 33 = 24) /\ (tZero Tryd.prog 33 = some [.nilsl]) /\ (eok Tryd.prog 33 [.nilsl] = true) /\ (mkE Tryd.prog 33 [.nilsl] = .nilsl) /\ (zeroOf Tryd.prog 33 = some [.nilsl]) /\ (tIndex Tryd.prog 33 = some (none, 3, some 3)) /\ (tSliceElem Tryd.prog 33 = some 83) /\ (isTy2 Tryd.prog 33 = true) :=
 by and_intros <;> kernel_rfl
theorem ty34 : (tLoad Tryd.prog 34 = some (some 3)) /\ (tKind Tryd.prog 34 = some .other) /\ (tSz Tryd.prog 34 = some 3) /\ (Tryd.prog.bytesOf 34 = 72) /\ (tZero Tryd.prog 34 = some [.nilsl, .nilsl, .nilsl]) /\ (eok Tryd.prog 34 [.nilsl, .nilsl, .nilsl] = true) /\ (mkE Tryd.prog 34 [.nilsl, .nilsl, .nilsl] = .agg [.nilsl, .nilsl, .nilsl]) /\ (zeroOf Tryd.prog 34 = some [.nilsl, .nilsl, .nilsl]) /\ (tField Tryd.prog 34 0 = some (0, none)) /\ (placeOf Tryd.prog 34 0 = some (0, 1)) /\ (tField Tryd.prog 34 1 = some (1, none)) /\ (placeOf Tryd.prog 34 1 = some (1, 1)) /\ (tField Tryd.prog 34 2 = some (2, none)) /\ (placeOf Tryd.prog 34 2 = some (2, 1)) /\ (buildable Tryd.prog 34 = true) :=
 by and_intros <;> kernel_rfl
theorem ty35 : (tLoad Tryd.prog 35 = some (some 3)) /\ (tKind Tryd.prog 35 = some .other) /\ (tSz Tryd.prog 35 = some 3) /\ (Tryd.prog.bytesOf 35 = 72) /\ (tZero Tryd.prog 35 = some [.nilsl, .nilsl, .nilsl]) /\ (eok Tryd.prog 35 [.nilsl, .nilsl, .nilsl] = true) /\ (mkE Tryd.prog 35 [.nilsl, .nilsl, .nilsl] = .agg [.nilsl, .nilsl, .nilsl]) /\ (zeroOf Tryd.prog 35 = some [.nilsl, .nilsl, .nilsl]) /\ (tField Tryd.prog 35 0 = some (0, none)) /\ (placeOf Tryd.prog 35 0 = some (0, 1)) /\ (tField Tryd.prog 35 1 = some (1, none)) /\ (placeOf Tryd.prog 35 1 = some (1, 1)) /\ (tField Tryd.prog 35 2 = some (2, none)) /\ (placeOf Tryd.prog 35 2 = some (2, 1)) /\ (buildable Tryd.prog 35 = true) :=
 by and_intros <;> kernel_rfl
theorem ty36 : (tLoad Tryd.prog 36 = some none) /\ (tKind Tryd.prog 36 = some .slice) /\ (tSz Tryd.prog 36 = some 1) /\ (Tryd.prog.bytesOf 36 = 24) /\ (tZero Tryd.prog 36 = some [.nilsl]) /\ (eok Tryd.prog 36 [.nilsl] = true) /\ (mkE Tryd.prog 36 [.nilsl] = .nilsl) /\ (zeroOf Tryd.prog 36 = some [.nilsl]) /\ (tIndex Tryd.prog 36 = some (none, 2, some 2)) /\ (tSliceElem Tryd.prog 36 = some 71) /\ (isTy2 Tryd.prog 36 = true) :=
 by and_intros <;> kernel_rfl
theorem ty38 : (tLoad Tryd.prog 38 = some none) /\ (tKind Tryd.prog 38 = some (.int .i64)) /\ (tSz Tryd.prog 38 = some 1) /\ (Tryd.prog.bytesOf 38 = 8) /\ (tZero Tryd.prog 38 = some [.int .i64 0]) /\ (eok Tryd.prog 38 [.int .i64 0] = true) /\ (mkE Tryd.prog 38 [.int .i64 0] = .int .i64 0) /\ (zeroOf Tryd.prog 38 = some [.int .i64 0]) :=
 by and_intros <;> kernel_rfl
theorem ty40 : (tLoad Tryd.prog 40 = some none) /\ (tKind Tryd.prog 40 = some .func) /\ (tSz Tryd.prog 40 = some 1) /\ (Tryd.prog.bytesOf 40 = 8) /\ (tZero Tryd.prog 40 = some [.nilf]) /\ (eok Tryd.prog 40 [.nilf] = true) /\ (mkE Tryd.prog 40 [.nilf] = .nilf) /\ (zeroOf Tryd.prog 40 = some [.nilf]) :=
 by and_intros <;> kernel_rfl
theorem ty41 : (tLoad Tryd.prog 41 = some none) /\ (tKind Tryd.prog 41 = some .func) /\ (tSz Tryd.prog 41 = some 1) /\ (Tryd.prog.bytesOf 41 = 8) /\ (tZero Tryd.prog 41 = some [.nilf]) /\ (eok Tryd.prog 41 [.nilf] = true) /\ (mkE Tryd.prog 41 [.nilf] = .nilf) /\ (zeroOf Tryd.prog 41 = some [.nilf]) :=
 by and_intros <;> kernel_rfl
theorem ty42 : (tLoad Tryd.prog 42 = some none) /\ (tKind Tryd.prog 42 = some .slice) /\ (tSz Tryd.prog 42 = some 1) /\ (Tryd.prog.bytesOf 42 = 24) /\ (tZero Tryd.prog 42 = some [.nilsl]) /\ (eok Tryd.prog 42 [.nilsl] = true) /\ (mkE Tryd.prog 42 [.nilsl] = .nilsl) /\ (zeroOf Tryd.prog 42 = some [.nilsl]) /\ (tIndex Tryd.prog 42 = some (none, 1, none)) /\ (tSliceElem Tryd.prog 42 = some 50) /\ (isTy2 Tryd.prog 42 = true) :=
 by and_intros <;> kernel_rfl
theorem ty43 : (tLoad Tryd.prog 43 = some none) /\ (tKind Tryd.prog 43 = some .slice) /\ (tSz Tryd.prog 43 = some 1) /\ (Tryd.prog.bytesOf 43 = 24) /\ (tZero Tryd.prog 43 = some [.nilsl]) /\ (eok Tryd.prog 43 [.nilsl] = true) /\ (mkE Tryd.prog 43 [.nilsl] = .nilsl) /\ (zeroOf Tryd.prog 43 = some [.nilsl]) /\ (tIndex Tryd.prog 43 = some (none, 3, some 3)) /\ (tSliceElem Tryd.prog 43 = some 98) /\ (isTy2 Tryd.prog 43 = true) :=
 by and_intros <;> kernel_rfl
theorem ty44 : (tLoad Tryd.prog 44 = some (some 3)) /\ (tKind Tryd.prog 44 = some .other) /\ (tSz Tryd.prog 44 = some 3) /\ (Tryd.prog.bytesOf 44 = 72) /\ (tZero Tryd.prog 44 = some [.nilsl, .nilsl, .nilsl]) /\ (eok Tryd.prog 44 [.nilsl, .nilsl, .nilsl] = true) /\ (mkE Tryd.prog 44 [.nilsl, .nilsl, .nilsl] = .agg [.nilsl, .nilsl, .nilsl]) /\ (zeroOf Tryd.prog 44 = some [.nilsl, .nilsl, .nilsl]) /\ (tField Tryd.prog 44 0 = some (0, none)) /\ (placeOf Tryd.prog 44 0 = some (0, 1)) /\ (tField Tryd.prog 44 1 = some (1, none)) /\ (placeOf Tryd.prog 44 1 = some (1, 1)) /\ (tField Tryd.prog 44 2 = some (2, none)) /\ (placeOf Tryd.prog 44 2 = some (2, 1)) /\ (buildable Tryd.prog 44 = true) :=
 by and_intros <;> kernel_rfl
theorem ty45 : (tLoad Tryd.prog 45 = some (some 3)) /\ (tKind Tryd.prog 45 = some .other) /\ (tSz Tryd.prog 45 = some 3) /\ (Tryd.prog.bytesOf 45 = 72) /\ (tZero Tryd.prog 45 = some [.nilsl, .nilsl, .nilsl]) /\ (eok Tryd.prog 45 [.nilsl, .nilsl, .nilsl] = true) /\ (mkE Tryd.prog 45 [.nilsl, .nilsl, .nilsl] = .agg [.nilsl, .nilsl, .nilsl]) /\ (zeroOf Tryd.prog 45 = some [.nilsl, .nilsl, .nilsl]) /\ (tField Tryd.prog 45 0 = some (0, none)) /\ (placeOf Tryd.prog 45 0 = some (0, 1)) /\ (tField Tryd.prog 45 1 = some (1, none)) /\ (placeOf Tryd.prog 45 1 = some (1, 1)) /\ (tField Tryd.prog 45 2 = some (2, none)) /\ (placeOf Tryd.prog 45 2 = some (2, 1)) /\ (buildable Tryd.prog 45 = true) :=
 by and_intros <;> kernel_rfl
theorem ty46 : (tLoad Tryd.prog 46 = some none) /\ (tKind Tryd.prog 46 = some .func) /\ (tSz Tryd.prog 46 = some 1) /\ (Tryd.prog.bytesOf 46 = 8) /\ (tZero Tryd.prog 46 = some [.nilf]) /\ (eok Tryd.prog 46 [.nilf] = true) /\ (mkE Tryd.prog 46 [.nilf] = .nilf) /\ (zeroOf Tryd.prog 46 = some [.nilf]) :=
 by and_intros <;> kernel_rfl
theorem ty50 : (tLoad Tryd.prog 50 = some none) /\ (tKind Tryd.prog 50 = some .slice) /\ (tSz Tryd.prog 50 = some 1) /\ (Tryd.prog.bytesOf 50 = 24) /\ (tZero Tryd.prog 50 = some [.nilsl]) /\ (eok Tryd.prog 50 [.nilsl] = true) /\ (mkE Tryd.prog 50 [.nilsl] = .nilsl) /\ (zeroOf Tryd.prog 50 = some [.nilsl]) /\ (tIndex Tryd.prog 50 = some (none, 2, some 2)) /\ (tSliceElem Tryd.prog 50 = some 105) /\ (isTy2 Tryd.prog 50 = true) :=
 by and_intros <;> kernel_rfl
theorem ty71 : (tLoad Tryd.prog 71 = some (some 2)) /\ (tKind Tryd.prog 71 = some .other) /\ (tSz Tryd.prog 71 = some 2) /\ (Tryd.prog.bytesOf 71 = 16) /\ (tZero Tryd.prog 71 = some [.int .i64 0, .int .i64 0]) /\ (eok Tryd.prog 71 [.int .i64 0, .int .i64 0] = true) /\ (mkE Tryd.prog 71 [.int .i64 0, .int .i64 0] = .agg [.int .i64 0, .int .i64 0]) /\ (zeroOf Tryd.prog 71 = some [.int .i64 0, .int .i64 0]) /\ (tField Tryd.prog 71 0 = some (0, none)) /\ (placeOf Tryd.prog 71 0 = some (0, 1)) /\ (tField Tryd.prog 71 1 = some (1, none)) /\ (placeOf Tryd.prog 71 1 = some (1, 1)) /\ (buildable Tryd.prog 71 = true) /\ (leaves Tryd.prog 71 = some [.i .i64, .i .i64]) :=
 by and_intros <;> kernel_rfl
theorem ty77 : (tLoad Tryd.prog 77 = some none) /\ (tKind Tryd.prog 77 = some .slice) /\ (tSz Tryd.prog 77 = some 1) /\ (Tryd.prog.bytesOf 77 = 24) /\ (tZero Tryd.prog 77 = some [.nilsl]) /\ (eok Tryd.prog 77 [.nilsl] = true) /\ (mkE Tryd.prog 77 [.nilsl] = .nilsl) /\ (zeroOf Tryd.prog 77 = some [.nilsl]) /\ (tIndex Tryd.prog 77 = some (none, 2, some 2)) /\ (tSliceElem Tryd.prog 77 = some 81) /\ (isTy2 Tryd.prog 77 = true) :=
 by and_intros <;> kernel_rfl
theorem ty81 : (tLoad Tryd.prog 81 = some (some 2)) /\ (tKind Tryd.prog 81 = some .other) /\ (tSz Tryd.prog 81 = some 2) /\ (Tryd.prog.bytesOf 81 = 16) /\ (tZero Tryd.prog 81 = some [.int .i64 0, .int .i64 0]) /\ (eok Tryd.prog 81 [.int .i64 0, .int .i64 0] = true) /\ (mkE Tryd.prog 81 [.int .i64 0, .int .i64 0] = .agg [.int .i64 0, .int .i64 0]) /\ (zeroOf Tryd.prog 81 = some [.int .i64 0, .int .i64 0]) /\ (tIndex Tryd.prog 81 = some (some 2, 1, none)) /\ (placeOf Tryd.prog 81 0 = some (0, 1)) /\ (placeOf Tryd.prog 81 1 = some (1, 1)) /\ (buildable Tryd.prog 81 = true) /\ (leaves Tryd.prog 81 = some [.i .i64, .i .i64]) :=
 by and_intros <;> kernel_rfl
theorem ty82 : (tLoad Tryd.prog 82 = some (some 3)) /\ (tKind Tryd.prog 82 = some .other) /\ (tSz Tryd.prog 82 = some 3) /\ (Tryd.prog.bytesOf 82 = 72) /\ (tZero Tryd.prog 82 = some [.nilsl, .nilsl, .nilsl]) /\ (eok Tryd.prog 82 [.nilsl, .nilsl, .nilsl] = true) /\ (mkE Tryd.prog 82 [.nilsl, .nilsl, .nilsl] = .agg [.nilsl, .nilsl, .nilsl]) /\ (zeroOf Tryd.prog 82 = some [.nilsl, .nilsl, .nilsl]) /\ (tField Tryd.prog 82 0 = some (0, none)) /\ (placeOf Tryd.prog 82 0 = some (0, 1)) /\ (tField Tryd.prog 82 1 = some (1, none)) /\ (placeOf Tryd.prog 82 1 = some (1, 1)) /\ (tField Tryd.prog 82 2 = some (2, none)) /\ (placeOf Tryd.prog 82 2 = some (2, 1)) /\ (buildable Tryd.prog 82 = true) :=
 by and_intros <;> kernel_rfl
theorem ty83 : (tLoad Tryd.prog 83 = some (some 3)) /\ (tKind Tryd.prog 83 = some .other) /\ (tSz Tryd.prog 83 = some 3) /\ (Tryd.prog.bytesOf 83 = 72) /\ (tZero Tryd.prog 83 = some [.nilsl, .nilsl, .nilsl]) /\ (eok Tryd.prog 83 [.nilsl, .nilsl, .nilsl] = true) /\ (mkE Tryd.prog 83 [.nilsl, .nilsl, .nilsl] = .agg [.nilsl, .nilsl, .nilsl]) /\ (zeroOf Tryd.prog 83 = some [.nilsl, .nilsl, .nilsl]) /\ (tField Tryd.prog 83 0 = some (0, none)) /\ (placeOf Tryd.prog 83 0 = some (0, 1)) /\ (tField Tryd.prog 83 1 = some (1, none)) /\ (placeOf Tryd.prog 83 1 = some (1, 1)) /\ (tField Tryd.prog 83 2 = some (2, none)) /\ (placeOf Tryd.prog 83 2 = some (2, 1)) /\ (buildable Tryd.prog 83 = true) :=
 by and_intros <;> kernel_rfl
theorem ty86 : (tLoad Tryd.prog 86 = some none) /\ (tKind Tryd.prog 86 = some .pointer) /\ (tSz Tryd.prog 86 = some 1) /\ (Tryd.prog.bytesOf 86 = 8) /\ (tZero Tryd.prog 86 = some [.nilp]) /\ (eok Tryd.prog 86 [.nilp] = true) /\ (mkE Tryd.prog 86 [.nilp] = .nilp) /\ (zeroOf Tryd.prog 86 = some [.nilp]) :=
 by and_intros <;> kernel_rfl
theorem ty88 : (tLoad Tryd.prog 88 = some none) /\ (tKind Tryd.prog 88 = some (.int .u64)) /\ (tSz Tryd.prog 88 = some 1) /\ (Tryd.prog.bytesOf 88 = 8) /\ (tZero Tryd.prog 88 = some [.int .u64 0]) /\ (eok Tryd.prog 88 [.int .u64 0] = true) /\ (mkE Tryd.prog 88 [.int .u64 0] = .int .u64 0) /\ (zeroOf Tryd.prog 88 = some [.int .u64 0]) :=
 by and_intros <;> kernel_rfl
theorem ty89 : (tLoad Tryd.prog 89 = some (some 8)) /\ (tKind Tryd.prog 89 = some .other) /\ (tSz Tryd.prog 89 = some 8) /\ (Tryd.prog.bytesOf 89 = 64) /\ (tZero Tryd.prog 89 = some ((List.replicate 8 (0 : Int)).map (AV.int .u64))) /\ (eok Tryd.prog 89 ((List.replicate 8 (0 : Int)).map (AV.int .u64)) = true) /\ (mkE Tryd.prog 89 ((List.replicate 8 (0 : Int)).map (AV.int .u64)) = .agg ((List.replicate 8 (0 : Int)).map (AV.int .u64))) /\ (zeroOf Tryd.prog 89 = some ((List.replicate 8 (0 : Int)).map (AV.int .u64))) /\ (tIndex Tryd.prog 89 = some (some 8, 1, none)) /\ (placeOf Tryd.prog 89 0 = some (0, 1)) /\ (placeOf Tryd.prog 89 1 = some (1, 1)) /\ (placeOf Tryd.prog 89 2 = some (2, 1)) /\ (placeOf Tryd.prog 89 3 = some (3, 1)) /\ (placeOf Tryd.prog 89 4 = some (4, 1)) /\ (placeOf Tryd.prog 89 5 = some (5, 1)) /\ (placeOf Tryd.prog 89 6 = some (6, 1)) /\ (placeOf Tryd.prog 89 7 = some (7, 1)) /\ (buildable Tryd.prog 89 = true) /\ (leaves Tryd.prog 89 = some [.i .u64, .i .u64, .i .u64, .i .u64, .i .u64, .i .u64, .i .u64, .i .u64]) :=
 by and_intros <;> kernel_rfl
theorem ty90 : (tLoad Tryd.prog 90 = some (some 8)) /\ (tKind Tryd.prog 90 = some .other) /\ (tSz Tryd.prog 90 = some 8) /\ (Tryd.prog.bytesOf 90 = 64) /\ (tZero Tryd.prog 90 = some ((List.replicate 8 (0 : Int)).map (AV.int .u64))) /\ (eok Tryd.prog 90 ((List.replicate 8 (0 : Int)).map (AV.int .u64)) = true) /\ (mkE Tryd.prog 90 ((List.replicate 8 (0 : Int)).map (AV.int .u64)) = .agg ((List.replicate 8 (0 : Int)).map (AV.int .u64))) /\ (zeroOf Tryd.prog 90 = some ((List.replicate 8 (0 : Int)).map (AV.int .u64))) /\ (tIndex Tryd.prog 90 = some (some 8, 1, none)) /\ (placeOf Tryd.prog 90 0 = some (0, 1)) /\ (placeOf Tryd.prog 90 1 = some (1, 1)) /\ (placeOf Tryd.prog 90 2 = some (2, 1)) /\ (placeOf Tryd.prog 90 3 = some (3, 1)) /\ (placeOf Tryd.prog 90 4 = some (4, 1)) /\ (placeOf Tryd.prog 90 5 = some (5, 1)) /\ (placeOf Tryd.prog 90 6 = some (6, 1)) /\ (placeOf Tryd.prog 90 7 = some (7, 1)) /\ (buildable Tryd.prog 90 = true) /\ (leaves Tryd.prog 90 = some [.i .u64, .i .u64, .i .u64, .i .u64, .i .u64, .i .u64, .i .u64, .i .u64]) :=
 by and_intros <;> kernel_rfl
theorem ty91 : (tLoad Tryd.prog 91 = some (some 4000)) /\ (tKind Tryd.prog 91 = some .other) /\ (tSz Tryd.prog 91 = some 4000) /\ (Tryd.prog.bytesOf 91 = 32000) /\ (tZero Tryd.prog 91 = some ((List.replicate 4000 (0 : Int)).map (AV.int .u64))) /\ (eok Tryd.prog 91 ((List.replicate 4000 (0 : Int)).map (AV.int .u64)) = true) /\ (mkE Tryd.prog 91 ((List.replicate 4000 (0 : Int)).map (AV.int .u64)) = .agg ((List.replicate 4000 (0 : Int)).map (AV.int .u64))) /\ (zeroOf Tryd.prog 91 = some ((List.replicate 4000 (0 : Int)).map (AV.int .u64))) /\ (tIndex Tryd.prog 91 = some (some 500, 8, some 8)) /\ (placeOf Tryd.prog 91 0 = some (0, 8)) /\ (placeOf Tryd.prog 91 1 = some (8, 8)) /\ (placeOf Tryd.prog 91 2 = some (16, 8)) /\ (placeOf Tryd.prog 91 3 = some (24, 8)) /\ (placeOf Tryd.prog 91 4 = some (32, 8)) /\ (placeOf Tryd.prog 91 5 = some (40, 8)) /\ (placeOf Tryd.prog 91 6 = some (48, 8)) /\ (placeOf Tryd.prog 91 7 = some (56, 8)) /\ (buildable Tryd.prog 91 = true) :=
 by and_intros <;> kernel_rfl
theorem ty92 : (tLoad Tryd.prog 92 = some (some 4008)) /\ (tKind Tryd.prog 92 = some .other) /\ (tSz Tryd.prog 92 = some 4008) /\ (Tryd.prog.bytesOf 92 = 32064) /\ (tZero Tryd.prog 92 = some ((List.replicate 4008 (0 : Int)).map (AV.int .u64))) /\ (eok Tryd.prog 92 ((List.replicate 4008 (0 : Int)).map (AV.int .u64)) = true) /\ (mkE Tryd.prog 92 ((List.replicate 4008 (0 : Int)).map (AV.int .u64)) = .agg ((List.replicate 4008 (0 : Int)).map (AV.int .u64))) /\ (zeroOf Tryd.prog 92 = some ((List.replicate 4008 (0 : Int)).map (AV.int .u64))) /\ (tField Tryd.prog 92 0 = some (0, some 8)) /\ (placeOf Tryd.prog 92 0 = some (0, 8)) /\ (tField Tryd.prog 92 1 = some (8, some 4000)) /\ (placeOf Tryd.prog 92 1 = some (8, 4000)) /\ (buildable Tryd.prog 92 = true) :=
 by and_intros <;> kernel_rfl
theorem ty93 : (tLoad Tryd.prog 93 = some (some 4008)) /\ (tKind Tryd.prog 93 = some .other) /\ (tSz Tryd.prog 93 = some 4008) /\ (Tryd.prog.bytesOf 93 = 32064) /\ (tZero Tryd.prog 93 = some ((List.replicate 4008 (0 : Int)).map (AV.int .u64))) /\ (eok Tryd.prog 93 ((List.replicate 4008 (0 : Int)).map (AV.int .u64)) = true) /\ (mkE Tryd.prog 93 ((List.replicate 4008 (0 : Int)).map (AV.int .u64)) = .agg ((List.replicate 4008 (0 : Int)).map (AV.int .u64))) /\ (zeroOf Tryd.prog 93 = some ((List.replicate 4008 (0 : Int)).map (AV.int .u64))) /\ (tField Tryd.prog 93 0 = some (0, some 8)) /\ (placeOf Tryd.prog 93 0 = some (0, 8)) /\ (tField Tryd.prog 93 1 = some (8, some 4000)) /\ (placeOf Tryd.prog 93 1 = some (8, 4000)) /\ (buildable Tryd.prog 93 = true) :=
 by and_intros <;> kernel_rfl
theorem ty95 : (tLoad Tryd.prog 95 = some none) /\ (tKind Tryd.prog 95 = some .func) /\ (tSz Tryd.prog 95 = some 1) /\ (Tryd.prog.bytesOf 95 = 8) /\ (tZero Tryd.prog 95 = some [.nilf]) /\ (eok Tryd.prog 95 [.nilf] = true) /\ (mkE Tryd.prog 95 [.nilf] = .nilf) /\ (zeroOf Tryd.prog 95 = some [.nilf]) :=
 by and_intros <;> kernel_rfl
theorem ty97 : (tLoad Tryd.prog 97 = some none) /\ (tKind Tryd.prog 97 = some .func) /\ (tSz Tryd.prog 97 = some 1) /\ (Tryd.prog.bytesOf 97 = 8) /\ (tZero Tryd.prog 97 = some [.nilf]) /\ (eok Tryd.prog 97 [.nilf] = true) /\ (mkE Tryd.prog 97 [.nilf] = .nilf) /\ (zeroOf Tryd.prog 97 = some [.nilf]) :=
 by and_intros <;> kernel_rfl
theorem ty98 : (tLoad Tryd.prog 98 = some (some 3)) /\ (tKind Tryd.prog 98 = some .other) /\ (tSz Tryd.prog 98 = some 3) /\ (Tryd.prog.bytesOf 98 = 72) /\ (tZero Tryd.prog 98 = some [.nilsl, .nilsl, .nilsl]) /\ (eok Tryd.prog 98 [.nilsl, .nilsl, .nilsl] = true) /\ (mkE Tryd.prog 98 [.nilsl, .nilsl, .nilsl] = .agg [.nilsl, .nilsl, .nilsl]) /\ (zeroOf Tryd.prog 98 = some [.nilsl, .nilsl, .nilsl]) /\ (tField Tryd.prog 98 0 = some (0, none)) /\ (placeOf Tryd.prog 98 0 = some (0, 1)) /\ (tField Tryd.prog 98 1 = some (1, none)) /\ (placeOf Tryd.prog 98 1 = some (1, 1)) /\ (tField Tryd.prog 98 2 = some (2, none)) /\ (placeOf Tryd.prog 98 2 = some (2, 1)) /\ (buildable Tryd.prog 98 = true) :=
 by and_intros <;> kernel_rfl
theorem ty99 : (tLoad Tryd.prog 99 = some none) /\ (tKind Tryd.prog 99 = some .func) /\ (tSz Tryd.prog 99 = some 1) /\ (Tryd.prog.bytesOf 99 = 8) /\ (tZero Tryd.prog 99 = some [.nilf]) /\ (eok Tryd.prog 99 [.nilf] = true) /\ (mkE Tryd.prog 99 [.nilf] = .nilf) /\ (zeroOf Tryd.prog 99 = some [.nilf]) :=
 by and_intros <;> kernel_rfl
theorem ty101 : (tLoad Tryd.prog 101 = some none) /\ (tKind Tryd.prog 101 = some .func) /\ (tSz Tryd.prog 101 = some 1) /\ (Tryd.prog.bytesOf 101 = 8) /\ (tZero Tryd.prog 101 = some [.nilf]) /\ (eok Tryd.prog 101 [.nilf] = true) /\ (mkE Tryd.prog 101 [.nilf] = .nilf) /\ (zeroOf Tryd.prog 101 = some [.nilf]) :=
 by and_intros <;> kernel_rfl
theorem ty102 : (tLoad Tryd.prog 102 = some none) /\ (tKind Tryd.prog 102 = some .func) /\ (tSz Tryd.prog 102 = some 1) /\ (Tryd.prog.bytesOf 102 = 8) /\ (tZero Tryd.prog 102 = some [.nilf]) /\ (eok Tryd.prog 102 [.nilf] = true) /\ (mkE Tryd.prog 102 [.nilf] = .nilf) /\ (zeroOf Tryd.prog 102 = some [.nilf]) :=
 by and_intros <;> kernel_rfl
theorem ty103 : (tLoad Tryd.prog 103 = some none) /\ (tKind Tryd.prog 103 = some .func) /\ (tSz Tryd.prog 103 = some 1) /\ (Tryd.prog.bytesOf 103 = 8) /\ (tZero Tryd.prog 103 = some [.nilf]) /\ (eok Tryd.prog 103 [.nilf] = true) /\ (mkE Tryd.prog 103 [.nilf] = .nilf) /\ (zeroOf Tryd.prog 103 = some [.nilf]) :=
 by and_intros <;> kernel_rfl
theorem ty104 : (tLoad Tryd.prog 104 = some none) /\ (tKind Tryd.prog 104 = some .func) /\ (tSz Tryd.prog 104 = some 1) /\ (Tryd.prog.bytesOf 104 = 8) /\ (tZero Tryd.prog 104 = some [.nilf]) /\ (eok Tryd.prog 104 [.nilf] = true) /\ (mkE Tryd.prog 104 [.nilf] = .nilf) /\ (zeroOf Tryd.prog 104 = some [.nilf]) :=
 by and_intros <;> kernel_rfl
theorem ty105 : (tLoad Tryd.prog 105 = some (some 2)) /\ (tKind Tryd.prog 105 = some .other) /\ (tSz Tryd.prog 105 = some 2) /\ (Tryd.prog.bytesOf 105 = 16) /\ (tZero Tryd.prog 105 = some [.int .i64 0, .int .i64 0]) /\ (eok Tryd.prog 105 [.int .i64 0, .int .i64 0] = true) /\ (mkE Tryd.prog 105 [.int .i64 0, .int .i64 0] = .agg [.int .i64 0, .int .i64 0]) /\ (zeroOf Tryd.prog 105 = some [.int .i64 0, .int .i64 0]) /\ (tField Tryd.prog 105 0 = some (0, none)) /\ (placeOf Tryd.prog 105 0 = some (0, 1)) /\ (tField Tryd.prog 105 1 = some (1, none)) /\ (placeOf Tryd.prog 105 1 = some (1, 1)) /\ (buildable Tryd.prog 105 = true) /\ (leaves Tryd.prog 105 = some [.i .i64, .i .i64]) :=
 by and_intros <;> kernel_rfl
theorem ty108 : (tLoad Tryd.prog 108 = some none) /\ (tKind Tryd.prog 108 = some .func) /\ (tSz Tryd.prog 108 = some 1) /\ (Tryd.prog.bytesOf 108 = 8) /\ (tZero Tryd.prog 108 = some [.nilf]) /\ (eok Tryd.prog 108 [.nilf] = true) /\ (mkE Tryd.prog 108 [.nilf] = .nilf) /\ (zeroOf Tryd.prog 108 = some [.nilf]) :=
 by and_intros <;> kernel_rfl
theorem ty109 : (tLoad Tryd.prog 109 = some none) /\ (tKind Tryd.prog 109 = some .func) /\ (tSz Tryd.prog 109 = some 1) /\ (Tryd.prog.bytesOf 109 = 8) /\ (tZero Tryd.prog 109 = some [.nilf]) /\ (eok Tryd.prog 109 [.nilf] = true) /\ (mkE Tryd.prog 109 [.nilf] = .nilf) /\ (zeroOf Tryd.prog 109 = some [.nilf]) :=
 by and_intros <;> kernel_rfl
theorem ty110 : (tLoad Tryd.prog 110 = some none) /\ (tKind Tryd.prog 110 = some .func) /\ (tSz Tryd.prog 110 = some 1) /\ (Tryd.prog.bytesOf 110 = 8) /\ (tZero Tryd.prog 110 = some [.nilf]) /\ (eok Tryd.prog 110 [.nilf] = true) /\ (mkE Tryd.prog 110 [.nilf] = .nilf) /\ (zeroOf Tryd.prog 110 = some [.nilf]) :=
 by and_intros <;> kernel_rfl
theorem ty111 : (tLoad Tryd.prog 111 = some none) /\ (tKind Tryd.prog 111 = some .func) /\ (tSz Tryd.prog 111 = some 1) /\ (Tryd.prog.bytesOf 111 = 8) /\ (tZero Tryd.prog 111 = some [.nilf]) /\ (eok Tryd.prog 111 [.nilf] = true) /\ (mkE Tryd.prog 111 [.nilf] = .nilf) /\ (zeroOf Tryd.prog 111 = some [.nilf]) :=
 by and_intros <;> kernel_rfl
theorem ty112 : (tLoad Tryd.prog 112 = some none) /\ (tKind Tryd.prog 112 = some .func) /\ (tSz Tryd.prog 112 = some 1) /\ (Tryd.prog.bytesOf 112 = 8) /\ (tZero Tryd.prog 112 = some [.nilf]) /\ (eok Tryd.prog 112 [.nilf] = true) /\ (mkE Tryd.prog 112 [.nilf] = .nilf) /\ (zeroOf Tryd.prog 112 = some [.nilf]) :=
 by and_intros <;> kernel_rfl
theorem ty113 : (tLoad Tryd.prog 113 = some none) /\ (tKind Tryd.prog 113 = some .slice) /\ (tSz Tryd.prog 113 = some 1) /\ (Tryd.prog.bytesOf 113 = 24) /\ (tZero Tryd.prog 113 = some [.nilsl]) /\ (eok Tryd.prog 113 [.nilsl] = true) /\ (mkE Tryd.prog 113 [.nilsl] = .nilsl) /\ (zeroOf Tryd.prog 113 = some [.nilsl]) /\ (tIndex Tryd.prog 113 = some (none, 1, none)) /\ (tSliceElem Tryd.prog 113 = some 4) /\ (isTy2 Tryd.prog 113 = true) :=
 by and_intros <;> kernel_rfl
theorem ty114 : (tLoad Tryd.prog 114 = some none) /\ (tKind Tryd.prog 114 = some .func) /\ (tSz Tryd.prog 114 = some 1) /\ (Tryd.prog.bytesOf 114 = 8) /\ (tZero Tryd.prog 114 = some [.nilf]) /\ (eok Tryd.prog 114 [.nilf] = true) /\ (mkE Tryd.prog 114 [.nilf] = .nilf) /\ (zeroOf Tryd.prog 114 = some [.nilf]) :=
 by and_intros <;> kernel_rfl
theorem ty115 : (tLoad Tryd.prog 115 = some none) /\ (tKind Tryd.prog 115 = some .func) /\ (tSz Tryd.prog 115 = some 1) /\ (Tryd.prog.bytesOf 115 = 8) /\ (tZero Tryd.prog 115 = some [.nilf]) /\ (eok Tryd.prog 115 [.nilf] = true) /\ (mkE Tryd.prog 115 [.nilf] = .nilf) /\ (zeroOf Tryd.prog 115 = some [.nilf]) :=
 by and_intros <;> kernel_rfl
theorem ty116 : (tLoad Tryd.prog 116 = some none) /\ (tKind Tryd.prog 116 = some .func) /\ (tSz Tryd.prog 116 = some 1) /\ (Tryd.prog.bytesOf 116 = 8) /\ (tZero Tryd.prog 116 = some [.nilf]) /\ (eok Tryd.prog 116 [.nilf] = true) /\ (mkE Tryd.prog 116 [.nilf] = .nilf) /\ (zeroOf Tryd.prog 116 = some [.nilf]) :=
 by and_intros <;> kernel_rfl
theorem ty117 : (tLoad Tryd.prog 117 = some none) /\ (tKind Tryd.prog 117 = some .func) /\ (tSz Tryd.prog 117 = some 1) /\ (Tryd.prog.bytesOf 117 = 8) /\ (tZero Tryd.prog 117 = some [.nilf]) /\ (eok Tryd.prog 117 [.nilf] = true) /\ (mkE Tryd.prog 117 [.nilf] = .nilf) /\ (zeroOf Tryd.prog 117 = some [.nilf]) :=
 by and_intros <;> kernel_rfl
theorem ty118 : (tLoad Tryd.prog 118 = some none) /\ (tKind Tryd.prog 118 = some .func) /\ (tSz Tryd.prog 118 = some 1) /\ (Tryd.prog.bytesOf 118 = 8) /\ (tZero Tryd.prog 118 = some [.nilf]) /\ (eok Tryd.prog 118 [.nilf] = true) /\ (mkE Tryd.prog 118 [.nilf] = .nilf) /\ (zeroOf Tryd.prog 118 = some [.nilf]) :=
 by and_intros <;> kernel_rfl
theorem ty119 : (tLoad Tryd.prog 119 = some none) /\ (tKind Tryd.prog 119 = some .func) /\ (tSz Tryd.prog 119 = some 1) /\ (Tryd.prog.bytesOf 119 = 8) /\ (tZero Tryd.prog 119 = some [.nilf]) /\ (eok Tryd.prog 119 [.nilf] = true) /\ (mkE Tryd.prog 119 [.nilf] = .nilf) /\ (zeroOf Tryd.prog 119 = some [.nilf]) :=
 by and_intros <;> kernel_rfl
theorem ty120 : (tLoad Tryd.prog 120 = some none) /\ (tKind Tryd.prog 120 = some .func) /\ (tSz Tryd.prog 120 = some 1) /\ (Tryd.prog.bytesOf 120 = 8) /\ (tZero Tryd.prog 120 = some [.nilf]) /\ (eok Tryd.prog 120 [.nilf] = true) /\ (mkE Tryd.prog 120 [.nilf] = .nilf) /\ (zeroOf Tryd.prog 120 = some [.nilf]) :=
 by and_intros <;> kernel_rfl
theorem ty121 : (tLoad Tryd.prog 121 = some none) /\ (tKind Tryd.prog 121 = some .func) /\ (tSz Tryd.prog 121 = some 1) /\ (Tryd.prog.bytesOf 121 = 8) /\ (tZero Tryd.prog 121 = some [.nilf]) /\ (eok Tryd.prog 121 [.nilf] = true) /\ (mkE Tryd.prog 121 [.nilf] = .nilf) /\ (zeroOf Tryd.prog 121 = some [.nilf]) :=
 by and_intros <;> kernel_rfl
theorem ty122 : (tLoad Tryd.prog 122 = some none) /\ (tKind Tryd.prog 122 = some .slice) /\ (tSz Tryd.prog 122 = some 1) /\ (Tryd.prog.bytesOf 122 = 24) /\ (tZero Tryd.prog 122 = some [.nilsl]) /\ (eok Tryd.prog 122 [.nilsl] = true) /\ (mkE Tryd.prog 122 [.nilsl] = .nilsl) /\ (zeroOf Tryd.prog 122 = some [.nilsl]) /\ (tIndex Tryd.prog 122 = some (none, 1, none)) /\ (tSliceElem Tryd.prog 122 = some 4) /\ (isTy2 Tryd.prog 122 = true) :=
 by and_intros <;> kernel_rfl
theorem ty123 : (tLoad Tryd.prog 123 = some none) /\ (tKind Tryd.prog 123 = some .func) /\ (tSz Tryd.prog 123 = some 1) /\ (Tryd.prog.bytesOf 123 = 8) /\ (tZero Tryd.prog 123 = some [.nilf]) /\ (eok Tryd.prog 123 [.nilf] = true) /\ (mkE Tryd.prog 123 [.nilf] = .nilf) /\ (zeroOf Tryd.prog 123 = some [.nilf]) :=
 by and_intros <;> kernel_rfl
theorem ty127 : (tLoad Tryd.prog 127 = some none) /\ (tKind Tryd.prog 127 = some .pointer) /\ (tSz Tryd.prog 127 = some 1) /\ (Tryd.prog.bytesOf 127 = 8) /\ (tZero Tryd.prog 127 = some [.nilp]) /\ (eok Tryd.prog 127 [.nilp] = true) /\ (mkE Tryd.prog 127 [.nilp] = .nilp) /\ (zeroOf Tryd.prog 127 = some [.nilp]) :=
 by and_intros <;> kernel_rfl
theorem ty129 : (tLoad Tryd.prog 129 = some none) /\ (tKind Tryd.prog 129 = some (.int .u64)) /\ (tSz Tryd.prog 129 = some 1) /\ (Tryd.prog.bytesOf 129 = 8) /\ (tZero Tryd.prog 129 = some [.int .u64 0]) /\ (eok Tryd.prog 129 [.int .u64 0] = true) /\ (mkE Tryd.prog 129 [.int .u64 0] = .int .u64 0) /\ (zeroOf Tryd.prog 129 = some [.int .u64 0]) :=
 by and_intros <;> kernel_rfl
theorem ty141 : (tLoad Tryd.prog 141 = some none) /\ (tKind Tryd.prog 141 = some .func) /\ (tSz Tryd.prog 141 = some 1) /\ (Tryd.prog.bytesOf 141 = 8) /\ (tZero Tryd.prog 141 = some [.nilf]) /\ (eok Tryd.prog 141 [.nilf] = true) /\ (mkE Tryd.prog 141 [.nilf] = .nilf) /\ (zeroOf Tryd.prog 141 = some [.nilf]) :=
 by and_intros <;> kernel_rfl
theorem ty142 : (tLoad Tryd.prog 142 = some none) /\ (tKind Tryd.prog 142 = some (.int .u32)) /\ (tSz Tryd.prog 142 = some 1) /\ (Tryd.prog.bytesOf 142 = 4) /\ (tZero Tryd.prog 142 = some [.int .u32 0]) /\ (eok Tryd.prog 142 [.int .u32 0] = true) /\ (mkE Tryd.prog 142 [.int .u32 0] = .int .u32 0) /\ (zeroOf Tryd.prog 142 = some [.int .u32 0]) :=
 by and_intros <;> kernel_rfl
theorem ty147 : (tLoad Tryd.prog 147 = some (some 64)) /\ (tKind Tryd.prog 147 = some .other) /\ (tSz Tryd.prog 147 = some 64) /\ (Tryd.prog.bytesOf 147 = 64) /\ (tZero Tryd.prog 147 = some ((List.replicate 64 (0 : Int)).map (AV.int .u8))) /\ (eok Tryd.prog 147 ((List.replicate 64 (0 : Int)).map (AV.int .u8)) = true) /\ (mkE Tryd.prog 147 ((List.replicate 64 (0 : Int)).map (AV.int .u8)) = .agg ((List.replicate 64 (0 : Int)).map (AV.int .u8))) /\ (zeroOf Tryd.prog 147 = some ((List.replicate 64 (0 : Int)).map (AV.int .u8))) /\ (tIndex Tryd.prog 147 = some (some 64, 1, none)) /\ (placeOf Tryd.prog 147 0 = some (0, 1)) /\ (placeOf Tryd.prog 147 1 = some (1, 1)) /\ (placeOf Tryd.prog 147 2 = some (2, 1)) /\ (placeOf Tryd.prog 147 3 = some (3, 1)) /\ (placeOf Tryd.prog 147 4 = some (4, 1)) /\ (placeOf Tryd.prog 147 5 = some (5, 1)) /\ (placeOf Tryd.prog 147 6 = some (6, 1)) /\ (placeOf Tryd.prog 147 7 = some (7, 1)) /\ (buildable Tryd.prog 147 = true) /\ (leaves Tryd.prog 147 = some [.i .u8, .i .u8, .i .u8, .i .u8, .i .u8, .i .u8, .i .u8, .i .u8, .i .u8, .i .u8, .i .u8, .i .u8, .i .u8, .i .u8, .i .u8, .i .u8, .i .u8, .i .u8, .i .u8, .i .u8, .i .u8, .i .u8, .i .u8, .i .u8, .i .u8, .i .u8, .i .u8, .i .u8, .i .u8, .i .u8, .i .u8, .i .u8, .i .u8, .i .u8, .i .u8, .i .u8, .i .u8, .i .u8, .i .u8, .i .u8, .i .u8, .i .u8, .i .u8, .i .u8, .i .u8, .i .u8, .i .u8, .i .u8, .i .u8, .i .u8, .i .u8, .i .u8, .i .u8, .i .u8, .i .u8, .i .u8, .i .u8, .i .u8, .i .u8, .i .u8, .i .u8, .i .u8, .i .u8, .i .u8]) :=
 by and_intros <;> kernel_rfl
set_option maxRecDepth 100000
theorem tyb : type_of% @ty1 /\ type_of% @ty2 /\ type_of% @ty3 /\ type_of% @ty4 /\ type_of% @ty5 /\ type_of% @ty9 /\ type_of% @ty20 /\ type_of% @ty22 /\ type_of% @ty23 /\ type_of% @ty26 /\ type_of% @ty27 /\ type_of% @ty32 /\ type_of% @ty33 /\ type_of% @ty34 /\ type_of% @ty35 /\ type_of% @ty36 /\ type_of% @ty38 /\ type_of% @ty40 /\ type_of% @ty41 /\ type_of% @ty42 /\ type_of% @ty43 /\ type_of% @ty44 /\ type_of% @ty45 /\ type_of% @ty46 /\ type_of% @ty50 /\ type_of% @ty71 /\ type_of% @ty77 /\ type_of% @ty81 /\ type_of% @ty82 /\ type_of% @ty83 /\ type_of% @ty86 /\ type_of% @ty88 /\ type_of% @ty89 /\ type_of% @ty90 /\ type_of% @ty91 /\ type_of% @ty92 /\ type_of% @ty93 /\ type_of% @ty95 /\ type_of% @ty97 /\ type_of% @ty98 /\ type_of% @ty99 /\ type_of% @ty101 /\ type_of% @ty102 /\ type_of% @ty103 /\ type_of% @ty104 /\ type_of% @ty105 /\ type_of% @ty108 /\ type_of% @ty109 /\ type_of% @ty110 /\ type_of% @ty111 /\ type_of% @ty112 /\ type_of% @ty113 /\ type_of% @ty114 /\ type_of% @ty115 /\ type_of% @ty116 /\ type_of% @ty117 /\ type_of% @ty118 /\ type_of% @ty119 /\ type_of% @ty120 /\ type_of% @ty121 /\ type_of% @ty122 /\ type_of% @ty123 /\ type_of% @ty127 /\ type_of% @ty129 /\ type_of% @ty141 /\ type_of% @ty142 /\ type_of% @ty147 :=
 ⟨@ty1, @ty2, @ty3, @ty4, @ty5, @ty9, @ty20, @ty22, @ty23, @ty26, @ty27, @ty32, @ty33, @ty34, @ty35, @ty36, @ty38, @ty40, @ty41, @ty42, @ty43, @ty44, @ty45, @ty46, @ty50, @ty71, @ty77, @ty81, @ty82, @ty83, @ty86, @ty88, @ty89, @ty90, @ty91, @ty92, @ty93, @ty95, @ty97, @ty98, @ty99, @ty101, @ty102, @ty103, @ty104, @ty105, @ty108, @ty109, @ty110, @ty111, @ty112, @ty113, @ty114, @ty115, @ty116, @ty117, @ty118, @ty119, @ty120, @ty121, @ty122, @ty123, @ty127, @ty129, @ty141, @ty142, @ty147⟩
end Go.Proofs.YtikppcfabnnhfaaDoor

namespace Go.Proofs.YtikppcfabnnhfaaDoor
open Go Go.Aw
def tab : List Int := [0, 1, 56, 2, 57, 49, 28, 3, 61, 58, 42, 50, 38, 29, 17, 4, 62, 47, 59, 36, 45, 43, 51, 22, 53, 39, 33, 30, 24, 18, 12, 5, 63, 55, 48, 27, 60, 41, 37, 16, 46, 35, 44, 21, 52, 32, 23, 11, 54, 26, 40, 15, 34, 20, 31, 10, 25, 14, 19, 9, 13, 8, 7, 6]
def G : Nat -> AV := fun g => if g = 0 then .rop (.agg (tab.map (AV.int .u8))) 0 else .junk
def AN : Go.Aw.An := mkAn [12, 13, 20, 23, 26, 27, 30, 32, 33, 38, 41, 42, 47, 48, 50, 54, 57, 58, 60, 61, 62, 65, 67, 69, 71, 72, 75, 80, 81, 84, 85, 86, 87, 93] [15, 28, 31, 36, 37, 53, 63, 66, 78, 82, 83] []
 [3, 4, 6, 7, 8, 9, 11, 12, 13, 14, 15, 17, 18, 19, 20, 21, 22, 23, 25, 26, 27, 28, 29, 30, 31, 32, 33, 34, 35, 36, 37, 38, 39, 40, 41, 42, 43, 44, 45, 46, 47, 48, 49, 50, 51, 52, 53, 54, 55, 56, 57, 58, 59, 60, 61, 62, 63, 64, 65, 66, 67, 68, 69, 70, 71, 72, 73, 74, 75, 76, 77, 78, 79, 80, 81, 82, 83, 84, 85, 86, 87, 88, 89, 90, 91, 92, 93]
 [(3, 6, [0, 1, 2, 3, 4, 11, 12]), (4, 10, [1, 2, 4, 5, 7, 8]), (6, 27, [5, 6, 7, 10, 13, 15, 16, 17]), (6, 23, [4, 5, 6, 7, 10, 13, 15]), (6, 19, [5, 6, 7, 10, 13, 14]), (7, 25, [1, 3, 5, 6, 7, 9, 10, 11, 12]), (7, 21, [1, 2, 3, 5, 6, 7, 9, 10]), (7, 17, [1, 2, 3, 5, 6, 7, 9]), (7, 12, [1, 3, 5, 6, 7, 8]), (8, 24, [1, 2, 5, 7, 8, 11, 12, 13]), (8, 20, [1, 2, 4, 5, 7, 8, 11]), (8, 15, [1, 2, 4, 5, 7, 8, 10]), (9, 16, [2, 12, 13, 14]), (14, 11, [1, 3, 4, 5, 7]), (14, 6, [1, 3, 4, 5, 6]), (15, 17, [5, 6, 8, 9]), (15, 10, [5, 6, 22]), (17, 13, [2, 6, 7, 8, 12, 13, 51, 52, 53]), (18, 32, [2, 10, 12, 14, 15, 16, 19, 20, 21]), (18, 29, [2, 10, 12, 14, 15, 16, 19, 20]), (18, 23, [2, 10, 12, 14, 15, 16, 17, 18]), (18, 18, [2, 6, 7, 8, 10, 12, 14, 15]), (18, 11, [1, 2, 10, 12, 13]), (19, 4, [0, 3, 4]), (20, 5, [0, 1, 4, 5]), (23, 5, [0, 1, 4, 5]), (25, 18, [1, 2, 8, 9, 10, 11, 12, 13]), (25, 16, [1, 2, 8, 9, 10, 11, 12, 13]), (25, 12, [1, 2, 8, 9, 10, 11, 12]), (25, 8, [1, 2, 8, 9, 10]), (27, 17, [1, 2, 4, 6, 8, 9]), (27, 14, [1, 2, 4, 6, 8]), (27, 9, [1, 2, 4, 6, 7]), (28, 10, [1, 2, 3, 5, 6]), (29, 8, [5, 6, 21, 22]), (30, 27, [1, 2, 9]), (30, 20, [1, 2, 6, 7, 8]), (30, 16, [1, 2, 6]), (30, 10, [1, 2, 4]), (30, 5, [1, 2, 3]), (31, 9, [1, 3, 4, 5, 6, 7]), (31, 5, [1, 3, 4, 5]), (32, 16, [1, 2, 47, 48, 49]), (32, 9, [1, 2, 31, 32, 33]), (33, 3, [0, 1, 4, 5]), (34, 38, [1, 7, 8, 9, 10, 11, 22, 105, 106, 107, 120, 121, 122]), (34, 33, [1, 7, 8, 9, 10, 11, 105, 106, 107]), (34, 27, [1, 7, 8, 9, 10, 11, 14, 18, 75, 76, 77, 90, 91, 92]), (34, 22, [1, 7, 8, 9, 10, 11, 14, 75, 76, 77]), (34, 17, [1, 7, 8, 9, 10, 11, 14, 64, 65, 66]), (34, 13, [1, 7, 8, 9, 10, 11]), (34, 9, [1, 7, 8, 9, 10, 11, 41, 42, 43]), (35, 17, [1, 2, 3, 4, 5, 7, 8, 9, 10, 12, 13]), (35, 14, [1, 2, 3, 4, 5, 7, 8, 9, 10, 12]), (35, 9, [1, 2, 3, 4, 5, 7, 8, 9, 10, 11]), (35, 7, [1, 2, 3, 4, 5, 7, 8, 9]), (36, 11, [5, 6, 7, 8, 16]), (36, 8, [5, 6, 16]), (37, 11, [1, 5, 6, 7, 8]), (37, 8, [1, 5, 6, 7]), (38, 3, [0, 1, 4, 5]), (40, 11, [3, 5, 7, 13, 14, 15, 19, 20, 21, 34, 35, 36]), (40, 7, [3, 5, 13, 14, 15, 19, 20, 21]), (40, 4, [3, 13, 14, 15]), (41, 4, [3, 6, 7]), (43, 9, [7, 8]), (44, 7, [0, 1, 2, 3, 8, 9, 10, 11]), (47, 3, [0, 3]), (50, 4, [0, 2, 6, 7, 10, 11, 12]), (51, 3, [2, 5, 6]), (52, 4, [1, 2, 4, 5, 6]), (53, 7, [1, 3, 4, 5]), (53, 4, [1, 3, 4]), (54, 3, [1, 2, 3, 6, 7]), (55, 10, [1, 10, 40, 41, 42]), (55, 4, [1, 2, 3, 7, 17, 18, 19]), (56, 7, [1, 7, 8, 9]), (56, 5, [1, 7, 8, 9]), (57, 3, [1, 2, 5, 8, 9, 10]), (59, 9, [7, 8]), (60, 3, [0, 1, 4, 5]), (61, 3, [0, 1, 2, 6, 7]), (62, 11, [0, 1, 4, 39, 40, 41]), (62, 5, [0, 1, 4, 15, 16, 17]), (63, 7, [1, 3, 4, 5]), (63, 4, [1, 3, 4]), (64, 4, [0, 3, 4]), (65, 19, [1, 2, 3, 4, 5, 10, 11, 13, 14, 16, 17]), (65, 14, [1, 2, 3, 4, 5, 10, 11, 13, 14, 15]), (65, 10, [1, 2, 3, 4, 5, 10, 11, 13]), (65, 6, [1, 2, 3, 4, 5, 11, 12]), (66, 3, [0, 1, 4, 5]), (71, 3, [0, 1, 4, 7, 8, 9]), (74, 4, [3, 6, 7, 8]), (76, 8, [1, 5, 7]), (76, 4, [0, 1, 5, 6]), (80, 6, [0, 3, 4]), (81, 3, [0, 1, 4, 7, 8]), (83, 3, [1, 2, 3, 6, 7]), (84, 3, [0, 1, 4, 7, 8]), (85, 3, [0, 1, 4, 7, 8]), (86, 3, [0, 1, 4, 7, 8]), (89, 4, [0, 1, 2, 8, 9, 10]), (93, 3, [0, 1, 4, 7, 8])]
 [(3, 6, [(0, [], 2), (1, [], 1), (2, [], 1), (5, [], 2)]), (4, 10, [(0, [], 2)]), (6, 27, [(3, [], 1)]), (6, 23, [(4, [], 1)]), (6, 19, [(3, [], 1)]), (7, 25, [(1, [], 1), (2, [], 2), (3, [], 1)]), (7, 21, [(2, [], 1), (3, [], 2), (4, [], 1)]), (7, 17, [(2, [], 1), (3, [], 2), (4, [], 1)]), (7, 12, [(1, [], 1), (2, [], 2), (3, [], 1)]), (8, 24, [(0, [], 2), (2, [], 1), (3, [], 1), (4, [], 1)]), (8, 20, [(0, [], 2), (3, [], 1), (4, [], 1), (5, [], 1)]), (8, 15, [(0, [], 2), (3, [], 1), (4, [], 1), (5, [], 1)]), (9, 16, [(1, [], 2), (2, [], 2)]), (15, 17, [(1, [], 1), (2, [], 1)]), (15, 10, [(1, [], 1)]), (17, 13, [(0, [], 2), (1, [], 1), (2, [], 1), (6, [], 2)]), (18, 32, [(0, [], 2), (2, [], 1), (3, [], 1)]), (18, 29, [(0, [], 2), (2, [], 1), (3, [], 1)]), (18, 23, [(0, [], 2), (2, [], 1), (3, [], 1)]), (18, 18, [(0, [], 2), (1, [], 1), (2, [], 1), (5, [], 1), (6, [], 1)]), (18, 11, [(0, [], 1), (1, [], 2), (3, [], 1)]), (19, 4, [(0, [], 2), (1, [], 2)]), (20, 5, [(0, [], 1), (1, [], 1)]), (23, 5, [(0, [], 2), (1, [], 2)]), (25, 18, [(0, [], 1), (2, [], 2), (3, [], 1), (5, [], 2)]), (25, 16, [(0, [], 1), (2, [], 2), (3, [], 1), (5, [], 2)]), (25, 12, [(0, [], 1), (2, [], 2), (3, [], 1), (5, [], 2)]), (25, 8, [(0, [], 1), (2, [], 2), (3, [], 1)]), (27, 17, [(0, [], 1), (3, [], 1)]), (27, 14, [(0, [], 1), (3, [], 1)]), (27, 9, [(0, [], 1), (3, [], 1)]), (28, 10, [(3, [], 1)]), (29, 8, [(1, [], 1)]), (30, 20, [(3, [], 2)]), (31, 9, [(1, [], 1)]), (31, 5, [(1, [], 1)]), (32, 16, [(2, [], 3)]), (32, 9, [(2, [], 1)]), (33, 3, [(0, [], 1)]), (34, 38, [(2, [], 1), (3, [], 1), (7, [], 1), (10, [], 1)]), (34, 33, [(2, [], 1), (3, [], 1), (6, [], 1)]), (34, 27, [(2, [], 1), (3, [], 1), (8, [], 1), (11, [], 1)]), (34, 22, [(2, [], 1), (3, [], 1), (7, [], 1)]), (34, 17, [(2, [], 1), (3, [], 1), (7, [], 1)]), (34, 13, [(2, [], 1), (3, [], 1)]), (34, 9, [(2, [], 1), (3, [], 1), (6, [], 1), (4, [0], 1)]), (35, 17, [(1, [], 1), (2, [], 1), (3, [], 1), (5, [], 1), (6, [], 1), (7, [], 1)]), (35, 14, [(1, [], 1), (2, [], 1), (3, [], 1), (5, [], 1), (6, [], 1), (7, [], 1)]), (35, 9, [(1, [], 1), (2, [], 1), (3, [], 1), (5, [], 1), (6, [], 1), (7, [], 1)]), (35, 7, [(1, [], 1), (2, [], 1), (3, [], 1), (5, [], 1), (6, [], 1), (7, [], 1)]), (36, 11, [(1, [], 2)]), (36, 8, [(1, [], 2)]), (37, 11, [(1, [], 1), (2, [], 2)]), (37, 8, [(1, [], 1), (2, [], 2)]), (38, 3, [(0, [], 1), (1, [], 1)]), (40, 11, [(1, [], 2), (3, [], 1), (6, [], 2), (9, [], 2)]), (40, 7, [(1, [], 2), (2, [], 1), (5, [], 2)]), (40, 4, [(1, [], 1)]), (43, 9, [(0, [], 1)]), (44, 7, [(1, [], 1), (2, [], 1)]), (50, 4, [(4, [], 1)]), (52, 4, [(0, [], 2)]), (55, 10, [(0, [], 1), (1, [], 2), (2, [], 2)]), (55, 4, [(0, [], 1), (4, [], 2)]), (56, 7, [(0, [], 1), (1, [], 2), (2, [], 2)]), (56, 5, [(0, [], 1), (1, [], 2), (2, [], 2)]), (57, 3, [(3, [], 2)]), (59, 9, [(0, [], 2)]), (60, 3, [(0, [], 1)]), (61, 3, [(0, [], 2), (1, [], 2)]), (62, 11, [(1, [], 1), (3, [], 1)]), (62, 5, [(1, [], 1), (3, [], 1)]), (63, 7, [(1, [], 1)]), (63, 4, [(1, [], 1)]), (64, 4, [(0, [], 1), (1, [], 1)]), (65, 19, [(0, [], 1), (1, [], 1), (9, [], 1)]), (65, 14, [(0, [], 1), (1, [], 1)]), (65, 10, [(0, [], 1), (1, [], 1)]), (65, 6, [(0, [], 1), (1, [], 1)]), (66, 3, [(0, [], 1)]), (71, 3, [(0, [], 2), (3, [], 2)]), (74, 4, [(0, [], 1), (1, [], 1)]), (76, 8, [(0, [], 1), (1, [], 1)]), (76, 4, [(0, [], 1), (1, [], 1), (2, [], 1)]), (80, 6, [(0, [], 1)]), (81, 3, [(0, [], 2)]), (84, 3, [(0, [], 1)]), (85, 3, [(0, [], 1)]), (86, 3, [(0, [], 3)]), (89, 4, [(0, [], 2)]), (93, 3, [(0, [], 1)])]
 []
 [(17, [(0, [], 1), (1, [], 1)]), (18, [(0, [], 1), (1, [], 1)]), (19, [(0, [], 2)]), (21, [(0, [], 2)]), (22, [(0, [], 2)]), (25, [(0, [], 2), (1, [], 1)]), (29, [(0, [], 1)]), (34, [(0, [], 1), (1, [], 1), (2, [], 1)]), (35, [(0, [], 1), (1, [], 1), (2, [], 1)]), (36, [(0, [], 2)]), (37, [(0, [], 2)]), (39, [(0, [0], 1), (0, [1], 3), (0, [2], 1), (0, [1, 0, 0], 1), (0, [1, 0, 1], 1), (0, [1, 0, 2], 1), (0, [1, 1, 0], 1), (0, [1, 1, 1], 1), (0, [1, 1, 2], 1), (0, [1, 2, 0], 1), (0, [1, 2, 1], 1), (0, [1, 2, 2], 1), (0, [1, 3, 0], 1), (0, [1, 3, 1], 1), (0, [1, 3, 2], 1)]), (43, [(0, [], 1)]), (45, [(0, [], 1)]), (46, [(0, [], 1)]), (52, [(0, [0], 1), (0, [1], 3), (0, [2], 1)]), (55, [(0, [], 2)]), (56, [(0, [], 2)]), (59, [(0, [], 2)]), (63, [(0, [], 1)]), (64, [(0, [], 1)]), (74, [(0, [], 1)]), (76, [(0, [], 1)])]
 [15, 17, 18, 21, 22, 24, 25, 28, 29, 31, 34, 35, 36, 37, 39, 53, 63, 64, 65, 66, 83]
 [(3, 7, ([45, 1000000, 1000034, 1000012, 1000035, 1000034, 1000035, 1000036, 1000036, 1000037, 1000000, 1000039, 1000012, 1000040, 1000039, 1000040, 1000041, 1000041, 1000042], false, [], [some 33, some 34, some 35, some 36, some 37, some 39, some 40, some 41, some 42])), (4, 11, ([53, 1000007, 1000046, 1000002, 1000048, 1000008, 1000050, 1000049, 1000050, 1000051, 1000007, 1000055], false, [7], [some 46, some 48, some 50, some 51, some 55])), (6, 4, ([], false, [], [])), (8, 16, ([], false, [], [])), (8, 25, ([], false, [], [])), (8, 26, ([], false, [], [])), (8, 29, ([1000002, 1000168, 1000169, 1000170, 1000172, 1000165], false, [], [some 167, some 168, some 170, some 165])), (9, 4, ([], false, [], [])), (9, 17, ([], false, [], [])), (12, 3, ([], false, [], [])), (13, 3, ([], false, [], [])), (14, 3, ([], false, [], [])), (18, 24, ([], false, [], [])), (19, 5, ([23, 1000000, 1000012, 1000004, 1000013, 1000012, 1000013, 1000014, 1000014, 1000015, 1000000, 1000017, 1000004, 1000018, 1000017, 1000018, 1000019, 1000019, 1000020], false, [], [some 11, some 12, some 13, some 14, some 15, some 17, some 18, some 19, some 20])), (20, 6, ([], false, [], [])), (23, 6, ([], false, [], [])), (27, 18, ([], false, [], [])), (30, 21, ([], false, [], [])), (30, 23, ([], false, [], [])), (31, 10, ([], false, [], [])), (34, 4, ([33, 37, 38, 7, 700033, 700037, 700038, 700007], true, [7], [])), (34, 13, ([14], false, [14], [])), (35, 4, ([23, 1000001, 1000020, 1000001, 1000024], false, [], [some 20, some 24])), (35, 5, ([30, 31], false, [], [])), (35, 11, ([1000001, 1000055, 1000011, 1000057, 1000056, 1000057, 1000058, 1000058, 1000059, 1000001, 1000063, 1000011, 1000065, 1000064, 1000065, 1000066, 1000066, 1000067, 1000001, 1000071, 1000011, 1000073, 1000072, 1000073, 1000074, 1000074, 1000075, 888888, 888887], false, [], [some 54, some 55, some 57, some 58, some 59, some 62, some 63, some 65, some 66, some 67, some 70, some 71, some 73, some 74, some 75])), (37, 12, ([], false, [], [])), (37, 13, ([51, 1000005, 1000042, 1000007, 1000043, 1000042, 1000043, 1000044, 1000005, 1000046, 1000008, 1000047, 1000046, 1000047, 1000048], false, [], [some 41, some 42, some 43, some 44, some 46, some 47, some 48])), (40, 8, ([1000003, 1000026, 1000026, 1000027, 1000007, 1000029], false, [], [some 26, some 27, some 28, some 29])), (40, 12, ([1000003, 1000040, 1000007, 1000041, 1000040, 1000043, 1000043, 1000044, 1000009, 1000046], false, [], [some 40, some 41, some 43, some 44, some 45, some 46])), (40, 13, ([1000003, 1000049, 1000009, 1000050, 1000049, 1000052, 1000052, 1000053, 1000007, 1000055], false, [], [some 49, some 50, some 52, some 53, some 54, some 55])), (43, 9, ([], false, [], [])), (49, 1, ([], false, [], [])), (51, 3, ([], false, [], [])), (52, 5, ([26, 1000005, 1000019, 1000002, 1000021, 1000006, 1000023, 1000022, 1000023, 1000024, 1000005, 1000028], false, [5], [some 19, some 21, some 23, some 24, some 28])), (55, 11, ([], false, [10], [])), (56, 8, ([], false, [7], [])), (59, 9, ([], false, [], [])), (65, 15, ([], false, [], [])), (65, 21, ([89, 1000014, 1000083, 1000083, 1000084, 1000001, 1000084, 1000086, 1000013, 1000084, 1000088, 1000003, 1000084, 1000091, 1000004, 1000084, 1000093, 888888, 1000005], false, [], [some 83, some 84, some 86, some 87, some 88, some 91, some 93])), (71, 6, ([], false, [], [])), (77, 0, ([], false, [0], []))] [17, 21, 24, 29, 34, 40] [(43, 7), (43, 9), (59, 7), (59, 9)]
noncomputable abbrev E : Sig := ev Tryd.prog G AN
theorem ok3 : fchk Tryd.prog AN 3 = true := by kernel_rfl
theorem ok4 : fchk Tryd.prog AN 4 = true := by kernel_rfl
theorem ok6 : fchk Tryd.prog AN 6 = true := by kernel_rfl
theorem ok7 : fchk Tryd.prog AN 7 = true := by kernel_rfl
theorem ok8 : fchk Tryd.prog AN 8 = true := by kernel_rfl
theorem ok9 : fchk Tryd.prog AN 9 = true := by kernel_rfl
theorem ok11 : fchk Tryd.prog AN 11 = true := by kernel_rfl
theorem ok12 : fchk Tryd.prog AN 12 = true := by kernel_rfl
theorem ok13 : fchk Tryd.prog AN 13 = true := by kernel_rfl
theorem ok14 : fchk Tryd.prog AN 14 = true := by kernel_rfl
theorem ok15 : fchk Tryd.prog AN 15 = true := by kernel_rfl
theorem ok17 : fchk Tryd.prog AN 17 = true := by kernel_rfl
theorem ok18 : fchk Tryd.prog AN 18 = true := by kernel_rfl
theorem ok19 : fchk Tryd.prog AN 19 = true := by kernel_rfl
theorem ok20 : fchk Tryd.prog AN 20 = true := by kernel_rfl
theorem ok21 : fchk Tryd.prog AN 21 = true := by kernel_rfl
theorem ok22 : fchk Tryd.prog AN 22 = true := by kernel_rfl
theorem ok23 : fchk Tryd.prog AN 23 = true := by kernel_rfl
theorem ok25 : fchk Tryd.prog AN 25 = true := by kernel_rfl
theorem ok26 : fchk Tryd.prog AN 26 = true := by kernel_rfl
theorem ok27 : fchk Tryd.prog AN 27 = true := by kernel_rfl
theorem ok28 : fchk Tryd.prog AN 28 = true := by kernel_rfl
theorem ok29 : fchk Tryd.prog AN 29 = true := by kernel_rfl
theorem ok30 : fchk Tryd.prog AN 30 = true := by kernel_rfl
theorem ok31 : fchk Tryd.prog AN 31 = true := by kernel_rfl
theorem ok32 : fchk Tryd.prog AN 32 = true := by kernel_rfl
theorem ok33 : fchk Tryd.prog AN 33 = true := by kernel_rfl
theorem ok34 : fchk Tryd.prog AN 34 = true := by kernel_rfl
theorem ok35 : fchk Tryd.prog AN 35 = true := by kernel_rfl
theorem ok36 : fchk Tryd.prog AN 36 = true := by kernel_rfl
theorem ok37 : fchk Tryd.prog AN 37 = true := by kernel_rfl
theorem ok38 : fchk Tryd.prog AN 38 = true := by kernel_rfl
theorem ok39 : fchk Tryd.prog AN 39 = true := by kernel_rfl
theorem ok40 : fchk Tryd.prog AN 40 = true := by kernel_rfl
theorem ok41 : fchk Tryd.prog AN 41 = true := by kernel_rfl
theorem ok42 : fchk Tryd.prog AN 42 = true := by kernel_rfl
theorem ok43 : fchk Tryd.prog AN 43 = true := by kernel_rfl
theorem ok44 : fchk Tryd.prog AN 44 = true := by kernel_rfl
theorem ok45 : fchk Tryd.prog AN 45 = true := by kernel_rfl
theorem ok46 : fchk Tryd.prog AN 46 = true := by kernel_rfl
theorem ok47 : fchk Tryd.prog AN 47 = true := by kernel_rfl
theorem ok48 : fchk Tryd.prog AN 48 = true := by kernel_rfl
theorem ok49 : fchk Tryd.prog AN 49 = true := by kernel_rfl
theorem ok50 : fchk Tryd.prog AN 50 = true := by kernel_rfl
theorem ok51 : fchk Tryd.prog AN 51 = true := by kernel_rfl
theorem ok52 : fchk Tryd.prog AN 52 = true := by kernel_rfl
theorem ok53 : fchk Tryd.prog AN 53 = true := by kernel_rfl
theorem ok54 : fchk Tryd.prog AN 54 = true := by kernel_rfl
theorem ok55 : fchk Tryd.prog AN 55 = true := by kernel_rfl
theorem ok56 : fchk Tryd.prog AN 56 = true := by kernel_rfl
theorem ok57 : fchk Tryd.prog AN 57 = true := by kernel_rfl
theorem ok58 : fchk Tryd.prog AN 58 = true := by kernel_rfl
theorem ok59 : fchk Tryd.prog AN 59 = true := by kernel_rfl
theorem ok60 : fchk Tryd.prog AN 60 = true := by kernel_rfl
theorem ok61 : fchk Tryd.prog AN 61 = true := by kernel_rfl
theorem ok62 : fchk Tryd.prog AN 62 = true := by kernel_rfl
theorem ok63 : fchk Tryd.prog AN 63 = true := by kernel_rfl
theorem ok64 : fchk Tryd.prog AN 64 = true := by kernel_rfl
theorem ok65 : fchk Tryd.prog AN 65 = true := by kernel_rfl
theorem ok66 : fchk Tryd.prog AN 66 = true := by kernel_rfl
theorem ok67 : fchk Tryd.prog AN 67 = true := by kernel_rfl
theorem ok68 : fchk Tryd.prog AN 68 = true := by kernel_rfl
theorem ok69 : fchk Tryd.prog AN 69 = true := by kernel_rfl
theorem ok70 : fchk Tryd.prog AN 70 = true := by kernel_rfl
theorem ok71 : fchk Tryd.prog AN 71 = true := by kernel_rfl
theorem ok72 : fchk Tryd.prog AN 72 = true := by kernel_rfl
theorem ok73 : fchk Tryd.prog AN 73 = true := by kernel_rfl
theorem ok74 : fchk Tryd.prog AN 74 = true := by kernel_rfl
theorem ok75 : fchk Tryd.prog AN 75 = true := by kernel_rfl
theorem ok76 : fchk Tryd.prog AN 76 = true := by kernel_rfl
theorem ok77 : fchk Tryd.prog AN 77 = true := by kernel_rfl
theorem ok78 : fchk Tryd.prog AN 78 = true := by kernel_rfl
theorem ok79 : fchk Tryd.prog AN 79 = true := by kernel_rfl
theorem ok80 : fchk Tryd.prog AN 80 = true := by kernel_rfl
theorem ok81 : fchk Tryd.prog AN 81 = true := by kernel_rfl
theorem ok82 : fchk Tryd.prog AN 82 = true := by kernel_rfl
theorem ok83 : fchk Tryd.prog AN 83 = true := by kernel_rfl
theorem ok84 : fchk Tryd.prog AN 84 = true := by kernel_rfl
theorem ok85 : fchk Tryd.prog AN 85 = true := by kernel_rfl
theorem ok86 : fchk Tryd.prog AN 86 = true := by kernel_rfl
theorem ok87 : fchk Tryd.prog AN 87 = true := by kernel_rfl
theorem ok88 : fchk Tryd.prog AN 88 = true := by kernel_rfl
theorem ok89 : fchk Tryd.prog AN 89 = true := by kernel_rfl
theorem ok90 : fchk Tryd.prog AN 90 = true := by kernel_rfl
theorem ok91 : fchk Tryd.prog AN 91 = true := by kernel_rfl
theorem ok92 : fchk Tryd.prog AN 92 = true := by kernel_rfl
theorem ok93 : fchk Tryd.prog AN 93 = true := by kernel_rfl
theorem evok : EvOk Tryd.prog G AN where
 chk f h := by
  have h : [3, 4, 6, 7, 8, 9, 11, 12, 13, 14, 15, 17, 18, 19, 20, 21, 22, 23, 25, 26, 27, 28, 29, 30, 31, 32, 33, 34, 35, 36, 37, 38, 39, 40, 41, 42, 43, 44, 45, 46, 47, 48, 49, 50, 51, 52, 53, 54, 55, 56, 57, 58, 59, 60, 61, 62, 63, 64, 65, 66, 67, 68, 69, 70, 71, 72, 73, 74, 75, 76, 77, 78, 79, 80, 81, 82, 83, 84, 85, 86, 87, 88, 89, 90, 91, 92, 93].contains f = true := h
  have h := List.contains_iff_mem.1 h
  simp only [List.mem_cons, List.mem_nil_iff, or_false] at h
  rcases h with rfl | rfl | rfl | rfl | rfl | rfl | rfl | rfl | rfl | rfl | rfl | rfl | rfl | rfl | rfl | rfl | rfl | rfl | rfl | rfl | rfl | rfl | rfl | rfl | rfl | rfl | rfl | rfl | rfl | rfl | rfl | rfl | rfl | rfl | rfl | rfl | rfl | rfl | rfl | rfl | rfl | rfl | rfl | rfl | rfl | rfl | rfl | rfl | rfl | rfl | rfl | rfl | rfl | rfl | rfl | rfl | rfl | rfl | rfl | rfl | rfl | rfl | rfl | rfl | rfl | rfl | rfl | rfl | rfl | rfl | rfl | rfl | rfl | rfl | rfl | rfl | rfl | rfl | rfl | rfl | rfl | rfl | rfl | rfl | rfl | rfl | rfl
  ·exact ok3
  ·exact ok4
  ·exact ok6
  ·exact ok7
  ·exact ok8
  ·exact ok9
  ·exact ok11
  ·exact ok12
  ·exact ok13
  ·exact ok14
  ·exact ok15
  ·exact ok17
  ·exact ok18
  ·exact ok19
  ·exact ok20
  ·exact ok21
  ·exact ok22
  ·exact ok23
  ·exact ok25
  ·exact ok26
  ·exact ok27
  ·exact ok28
  ·exact ok29
  ·exact ok30
  ·exact ok31
  ·exact ok32
  ·exact ok33
  ·exact ok34
  ·exact ok35
  ·exact ok36
  ·exact ok37
  ·exact ok38
  ·exact ok39
  ·exact ok40
  ·exact ok41
  ·exact ok42
  ·exact ok43
  ·exact ok44
  ·exact ok45
  ·exact ok46
  ·exact ok47
  ·exact ok48
  ·exact ok49
  ·exact ok50
  ·exact ok51
  ·exact ok52
  ·exact ok53
  ·exact ok54
  ·exact ok55
  ·exact ok56
  ·exact ok57
  ·exact ok58
  ·exact ok59
  ·exact ok60
  ·exact ok61
  ·exact ok62
  ·exact ok63
  ·exact ok64
  ·exact ok65
  ·exact ok66
  ·exact ok67
  ·exact ok68
  ·exact ok69
  ·exact ok70
  ·exact ok71
  ·exact ok72
  ·exact ok73
  ·exact ok74
  ·exact ok75
  ·exact ok76
  ·exact ok77
  ·exact ok78
  ·exact ok79
  ·exact ok80
  ·exact ok81
  ·exact ok82
  ·exact ok83
  ·exact ok84
  ·exact ok85
  ·exact ok86
  ·exact ok87
  ·exact ok88
  ·exact ok89
  ·exact ok90
  ·exact ok91
  ·exact ok92
  ·exact ok93
 pureG g := by
  by_cases h : g = 0
  ·subst h; exact .inl (by kernel_rfl)
  ·exact .inr (if_neg h)
 mixed := by kernel_rfl
 giv _ _ _ _ _ _ h := by cases h
theorem acp : ∀ f k, AN.cp f k = has2 f k [(43, 7), (43, 9), (59, 7), (59, 9)] := fun _ _ => rfl
set_option maxRecDepth 100000
theorem anf0 : (AN.bor 9 = false) /\ (AN.pur 9 = false) /\ (AN.ro 9 = false) /\ (AN.frz 9 = false) /\ (AN.fra 9 = false) /\ (AN.res 9 = []) /\ (AN.bor 11 = false) /\ (AN.pur 11 = false) /\ (AN.ro 11 = false) /\ (AN.frz 11 = false) /\ (AN.fra 11 = false) /\ (AN.res 11 = []) /\ (AN.bor 12 = true) /\ (AN.pur 12 = false) /\ (AN.ro 12 = false) /\ (AN.frz 12 = false) /\ (AN.fra 12 = false) /\ (AN.res 12 = []) /\ (AN.bor 14 = false) /\ (AN.pur 14 = false) /\ (AN.ro 14 = false) /\ (AN.frz 14 = false) /\ (AN.fra 14 = false) /\ (AN.res 14 = []) /\ (AN.bor 15 = false) /\ (AN.pur 15 = true) /\ (AN.ro 15 = false) /\ (AN.frz 15 = true) /\ (AN.fra 15 = false) /\ (AN.res 15 = []) /\ (AN.bor 17 = false) /\ (AN.pur 17 = false) /\ (AN.ro 17 = false) /\ (AN.frz 17 = true) /\ (AN.fra 17 = true) /\ (AN.res 17 = [(0, [], 1), (1, [], 1)]) /\ (AN.bor 19 = false) /\ (AN.pur 19 = false) /\ (AN.ro 19 = false) /\ (AN.frz 19 = false) /\ (AN.fra 19 = false) /\ (AN.res 19 = [(0, [], 2)]) /\ (AN.bor 20 = true) /\ (AN.pur 20 = false) /\ (AN.ro 20 = false) /\ (AN.frz 20 = false) /\ (AN.fra 20 = false) /\ (AN.res 20 = []) /\ (AN.bor 26 = true) /\ (AN.pur 26 = false) /\ (AN.ro 26 = false) /\ (AN.frz 26 = false) /\ (AN.fra 26 = false) /\ (AN.res 26 = []) /\ (AN.bor 30 = true) /\ (AN.pur 30 = false) /\ (AN.ro 30 = false) /\ (AN.frz 30 = false) /\ (AN.fra 30 = false) /\ (AN.res 30 = []) /\ (AN.bor 32 = true) /\ (AN.pur 32 = false) /\ (AN.ro 32 = false) /\ (AN.frz 32 = false) /\ (AN.fra 32 = false) /\ (AN.res 32 = []) /\ (AN.bor 34 = false) /\ (AN.pur 34 = false) /\ (AN.ro 34 = false) /\ (AN.frz 34 = true) /\ (AN.fra 34 = true) /\ (AN.res 34 = [(0, [], 1), (1, [], 1), (2, [], 1)]) /\ (AN.bor 35 = false) /\ (AN.pur 35 = false) /\ (AN.ro 35 = false) /\ (AN.frz 35 = true) /\ (AN.fra 35 = false) /\ (AN.res 35 = [(0, [], 1), (1, [], 1), (2, [], 1)]) /\ (AN.bor 36 = false) /\ (AN.pur 36 = true) /\ (AN.ro 36 = false) /\ (AN.frz 36 = true) /\ (AN.fra 36 = false) /\ (AN.res 36 = [(0, [], 2)]) /\ (AN.bor 37 = false) /\ (AN.pur 37 = true) /\ (AN.ro 37 = false) /\ (AN.frz 37 = true) /\ (AN.fra 37 = false) /\ (AN.res 37 = [(0, [], 2)]) /\ (AN.bor 39 = false) /\ (AN.pur 39 = false) /\ (AN.ro 39 = false) /\ (AN.frz 39 = true) /\ (AN.fra 39 = false) /\ (AN.res 39 = [(0, [0], 1), (0, [1], 3), (0, [2], 1), (0, [1, 0, 0], 1), (0, [1, 0, 1], 1), (0, [1, 0, 2], 1), (0, [1, 1, 0], 1), (0, [1, 1, 1], 1), (0, [1, 1, 2], 1), (0, [1, 2, 0], 1), (0, [1, 2, 1], 1), (0, [1, 2, 2], 1), (0, [1, 3, 0], 1), (0, [1, 3, 1], 1), (0, [1, 3, 2], 1)]) /\ (AN.bor 40 = false) /\ (AN.pur 40 = false) /\ (AN.ro 40 = false) /\ (AN.frz 40 = false) /\ (AN.fra 40 = true) /\ (AN.res 40 = []) /\ (AN.bor 41 = true) /\ (AN.pur 41 = false) /\ (AN.ro 41 = false) /\ (AN.frz 41 = false) /\ (AN.fra 41 = false) /\ (AN.res 41 = []) /\ (AN.bor 42 = true) /\ (AN.pur 42 = false) /\ (AN.ro 42 = false) /\ (AN.frz 42 = false) /\ (AN.fra 42 = false) /\ (AN.res 42 = []) /\ (AN.bor 43 = false) /\ (AN.pur 43 = false) /\ (AN.ro 43 = false) /\ (AN.frz 43 = false) /\ (AN.fra 43 = false) /\ (AN.res 43 = [(0, [], 1)]) /\ (AN.bor 44 = false) /\ (AN.pur 44 = false) /\ (AN.ro 44 = false) /\ (AN.frz 44 = false) /\ (AN.fra 44 = false) /\ (AN.res 44 = []) /\ (AN.bor 45 = false) /\ (AN.pur 45 = false) /\ (AN.ro 45 = false) /\ (AN.frz 45 = false) /\ (AN.fra 45 = false) /\ (AN.res 45 = [(0, [], 1)]) /\ (AN.bor 46 = false) /\ (AN.pur 46 = false) /\ (AN.ro 46 = false) /\ (AN.frz 46 = false) /\ (AN.fra 46 = false) /\ (AN.res 46 = [(0, [], 1)]) /\ (AN.bor 47 = true) /\ (AN.pur 47 = false) /\ (AN.ro 47 = false) /\ (AN.frz 47 = false) /\ (AN.fra 47 = false) /\ (AN.res 47 = []) /\ (AN.bor 48 = true) /\ (AN.pur 48 = false) /\ (AN.ro 48 = false) /\ (AN.frz 48 = false) /\ (AN.fra 48 = false) /\ (AN.res 48 = []) /\ (AN.bor 49 = false) /\ (AN.pur 49 = false) /\ (AN.ro 49 = false) /\ (AN.frz 49 = false) /\ (AN.fra 49 = false) /\ (AN.res 49 = []) /\ (AN.bor 50 = true) /\ (AN.pur 50 = false) /\ (AN.ro 50 = false) /\ (AN.frz 50 = false) /\ (AN.fra 50 = false) /\ (AN.res 50 = []) /\ (AN.bor 51 = false) /\ (AN.pur 51 = false) /\ (AN.ro 51 = false) /\ (AN.frz 51 = false) /\ (AN.fra 51 = false) /\ (AN.res 51 = []) /\ (AN.bor 53 = false) /\ (AN.pur 53 = true) /\ (AN.ro 53 = false) /\ (AN.frz 53 = true) /\ (AN.fra 53 = false) /\ (AN.res 53 = []) /\ (AN.bor 54 = true) /\ (AN.pur 54 = false) /\ (AN.ro 54 = false) /\ (AN.frz 54 = false) /\ (AN.fra 54 = false) /\ (AN.res 54 = []) /\ (AN.bor 55 = false) /\ (AN.pur 55 = false) /\ (AN.ro 55 = false) /\ (AN.frz 55 = false) /\ (AN.fra 55 = false) /\ (AN.res 55 = [(0, [], 2)]) /\ (AN.bor 57 = true) /\ (AN.pur 57 = false) /\ (AN.ro 57 = false) /\ (AN.frz 57 = false) /\ (AN.fra 57 = false) /\ (AN.res 57 = []) /\ (AN.bor 58 = true) /\ (AN.pur 58 = false) /\ (AN.ro 58 = false) /\ (AN.frz 58 = false) /\ (AN.fra 58 = false) /\ (AN.res 58 = []) /\ (AN.bor 59 = false) /\ (AN.pur 59 = false) /\ (AN.ro 59 = false) /\ (AN.frz 59 = false) /\ (AN.fra 59 = false) /\ (AN.res 59 = [(0, [], 2)]) /\ (AN.bor 62 = true) /\ (AN.pur 62 = false) /\ (AN.ro 62 = false) /\ (AN.frz 62 = false) /\ (AN.fra 62 = false) /\ (AN.res 62 = []) /\ (AN.bor 63 = false) /\ (AN.pur 63 = true) /\ (AN.ro 63 = false) /\ (AN.frz 63 = true) /\ (AN.fra 63 = false) /\ (AN.res 63 = [(0, [], 1)]) /\ (AN.bor 64 = false) /\ (AN.pur 64 = false) /\ (AN.ro 64 = false) /\ (AN.frz 64 = true) /\ (AN.fra 64 = false) /\ (AN.res 64 = [(0, [], 1)]) /\ (AN.bor 66 = false) /\ (AN.pur 66 = true) /\ (AN.ro 66 = false) /\ (AN.frz 66 = true) /\ (AN.fra 66 = false) /\ (AN.res 66 = []) /\ (AN.bor 67 = true) /\ (AN.pur 67 = false) /\ (AN.ro 67 = false) /\ (AN.frz 67 = false) /\ (AN.fra 67 = false) /\ (AN.res 67 = []) /\ (AN.bor 68 = false) /\ (AN.pur 68 = false) /\ (AN.ro 68 = false) /\ (AN.frz 68 = false) /\ (AN.fra 68 = false) /\ (AN.res 68 = []) /\ (AN.bor 69 = true) /\ (AN.pur 69 = false) /\ (AN.ro 69 = false) /\ (AN.frz 69 = false) /\ (AN.fra 69 = false) /\ (AN.res 69 = []) /\ (AN.bor 70 = false) /\ (AN.pur 70 = false) /\ (AN.ro 70 = false) /\ (AN.frz 70 = false) /\ (AN.fra 70 = false) /\ (AN.res 70 = []) /\ (AN.bor 71 = true) /\ (AN.pur 71 = false) /\ (AN.ro 71 = false) /\ (AN.frz 71 = false) /\ (AN.fra 71 = false) /\ (AN.res 71 = []) /\ (AN.bor 72 = true) /\ (AN.pur 72 = false) /\ (AN.ro 72 = false) /\ (AN.frz 72 = false) /\ (AN.fra 72 = false) /\ (AN.res 72 = []) /\ (AN.bor 73 = false) /\ (AN.pur 73 = false) /\ (AN.ro 73 = false) /\ (AN.frz 73 = false) /\ (AN.fra 73 = false) /\ (AN.res 73 = []) /\ (AN.bor 74 = false) /\ (AN.pur 74 = false) /\ (AN.ro 74 = false) /\ (AN.frz 74 = false) /\ (AN.fra 74 = false) /\ (AN.res 74 = [(0, [], 1)]) /\ (AN.bor 75 = true) /\ (AN.pur 75 = false) /\ (AN.ro 75 = false) /\ (AN.frz 75 = false) /\ (AN.fra 75 = false) /\ (AN.res 75 = []) /\ (AN.bor 76 = false) /\ (AN.pur 76 = false) /\ (AN.ro 76 = false) /\ (AN.frz 76 = false) /\ (AN.fra 76 = false) /\ (AN.res 76 = [(0, [], 1)]) /\ (AN.bor 77 = false) /\ (AN.pur 77 = false) /\ (AN.ro 77 = false) /\ (AN.frz 77 = false) /\ (AN.fra 77 = false) /\ (AN.res 77 = []) /\ (AN.bor 78 = false) /\ (AN.pur 78 = true) /\ (AN.ro 78 = false) /\ (AN.frz 78 = false) /\ (AN.fra 78 = false) /\ (AN.res 78 = []) /\ (AN.bor 79 = false) /\ (AN.pur 79 = false) /\ (AN.ro 79 = false) /\ (AN.frz 79 = false) /\ (AN.fra 79 = false) /\ (AN.res 79 = []) /\ (AN.bor 80 = true) /\ (AN.pur 80 = false) /\ (AN.ro 80 = false) /\ (AN.frz 80 = false) /\ (AN.fra 80 = false) /\ (AN.res 80 = []) /\ (AN.bor 81 = true) /\ (AN.pur 81 = false) /\ (AN.ro 81 = false) /\ (AN.frz 81 = false) /\ (AN.fra 81 = false) /\ (AN.res 81 = []) /\ (AN.bor 82 = false) /\ (AN.pur 82 = true) /\ (AN.ro 82 = false) /\ (AN.frz 82 = false) /\ (AN.fra 82 = false) /\ (AN.res 82 = []) /\ (AN.bor 83 = false) /\ (AN.pur 83 = true) /\ (AN.ro 83 = false) /\ (AN.frz 83 = true) /\ (AN.fra 83 = false) /\ (AN.res 83 = []) /\ (AN.bor 84 = true) /\ (AN.pur 84 = false) /\ (AN.ro 84 = false) /\ (AN.frz 84 = false) /\ (AN.fra 84 = false) /\ (AN.res 84 = []) /\ (AN.bor 85 = true) /\ (AN.pur 85 = false) /\ (AN.ro 85 = false) /\ (AN.frz 85 = false) /\ (AN.fra 85 = false) /\ (AN.res 85 = []) /\ (AN.bor 86 = true) /\ (AN.pur 86 = false) /\ (AN.ro 86 = false) /\ (AN.frz 86 = false) /\ (AN.fra 86 = false) /\ (AN.res 86 = []) /\ (AN.bor 87 = true) /\ (AN.pur 87 = false) /\ (AN.ro 87 = false) /\ (AN.frz 87 = false) /\ (AN.fra 87 = false) /\ (AN.res 87 = []) /\ (AN.bor 88 = false) /\ (AN.pur 88 = false) /\ (AN.ro 88 = false) /\ (AN.frz 88 = false) /\ (AN.fra 88 = false) /\ (AN.res 88 = []) /\ (AN.bor 89 = false) /\ (AN.pur 89 = false) /\ (AN.ro 89 = false) /\ (AN.frz 89 = false) /\ (AN.fra 89 = false) /\ (AN.res 89 = []) /\ (AN.bor 90 = false) /\ (AN.pur 90 = false) /\ (AN.ro 90 = false) /\ (AN.frz 90 = false) /\ (AN.fra 90 = false) /\ (AN.res 90 = []) /\ (AN.bor 91 = false) /\ (AN.pur 91 = false) /\ (AN.ro 91 = false) /\ (AN.frz 91 = false) /\ (AN.fra 91 = false) /\ (AN.res 91 = []) /\ (AN.bor 92 = false) /\ (AN.pur 92 = false) /\ (AN.ro 92 = false) /\ (AN.frz 92 = false) /\ (AN.fra 92 = false) /\ (AN.res 92 = []) /\ (AN.bor 93 = true) /\ (AN.pur 93 = false) /\ (AN.ro 93 = false) /\ (AN.frz 93 = false) /\ (AN.fra 93 = false) /\ (AN.res 93 = []) /\ (AN.dr 9 4 = some ([], false, [], [])) /\ (AN.dr 9 17 = some ([], false, [], [])) /\ (AN.dr 12 3 = some ([], false, [], [])) /\ (AN.dr 14 3 = some ([], false, [], [])) /\ (AN.dr 19 5 = some ([23, 1000000, 1000012, 1000004, 1000013, 1000012, 1000013, 1000014, 1000014, 1000015, 1000000, 1000017, 1000004, 1000018, 1000017, 1000018, 1000019, 1000019, 1000020], false, [], [some 11, some 12, some 13, some 14, some 15, some 17, some 18, some 19, some 20])) /\ (AN.dr 20 6 = some ([], false, [], [])) /\ (AN.dr 30 21 = some ([], false, [], [])) /\ (AN.dr 30 23 = some ([], false, [], [])) /\ (AN.dr 34 4 = some ([33, 37, 38, 7, 700033, 700037, 700038, 700007], true, [7], [])) /\ (AN.dr 34 13 = some ([14], false, [14], [])) /\ (AN.dr 35 4 = some ([23, 1000001, 1000020, 1000001, 1000024], false, [], [some 20, some 24])) /\ (AN.dr 35 5 = some ([30, 31], false, [], [])) /\ (AN.dr 35 11 = some ([1000001, 1000055, 1000011, 1000057, 1000056, 1000057, 1000058, 1000058, 1000059, 1000001, 1000063, 1000011, 1000065, 1000064, 1000065, 1000066, 1000066, 1000067, 1000001, 1000071, 1000011, 1000073, 1000072, 1000073, 1000074, 1000074, 1000075, 888888, 888887], false, [], [some 54, some 55, some 57, some 58, some 59, some 62, some 63, some 65, some 66, some 67, some 70, some 71, some 73, some 74, some 75])) /\ (AN.dr 37 12 = some ([], false, [], [])) /\ (AN.dr 37 13 = some ([51, 1000005, 1000042, 1000007, 1000043, 1000042, 1000043, 1000044, 1000005, 1000046, 1000008, 1000047, 1000046, 1000047, 1000048], false, [], [some 41, some 42, some 43, some 44, some 46, some 47, some 48])) /\ (AN.dr 40 8 = some ([1000003, 1000026, 1000026, 1000027, 1000007, 1000029], false, [], [some 26, some 27, some 28, some 29])) /\ (AN.dr 40 12 = some ([1000003, 1000040, 1000007, 1000041, 1000040, 1000043, 1000043, 1000044, 1000009, 1000046], false, [], [some 40, some 41, some 43, some 44, some 45, some 46])) /\ (AN.dr 40 13 = some ([1000003, 1000049, 1000009, 1000050, 1000049, 1000052, 1000052, 1000053, 1000007, 1000055], false, [], [some 49, some 50, some 52, some 53, some 54, some 55])) /\ (AN.dr 43 9 = some ([], false, [], [])) /\ (AN.dr 49 1 = some ([], false, [], [])) /\ (AN.dr 51 3 = some ([], false, [], [])) /\ (AN.dr 55 11 = some ([], false, [10], [])) /\ (AN.dr 59 9 = some ([], false, [], [])) /\ (AN.dr 71 6 = some ([], false, [], [])) /\ (AN.dr 77 0 = some ([], false, [0], [])) /\ (AN.keep 9 16 = some [2, 12, 13, 14]) /\ (AN.fix 9 16 = [(1, [], 2), (2, [], 2)]) /\ (AN.frl 9 16 = false) /\ (AN.keep 14 11 = some [1, 3, 4, 5, 7]) /\ (AN.fix 14 11 = []) /\ (AN.frl 14 11 = false) /\ (AN.keep 14 6 = some [1, 3, 4, 5, 6]) /\ (AN.fix 14 6 = []) /\ (AN.frl 14 6 = false) /\ (AN.keep 15 17 = some [5, 6, 8, 9]) /\ (AN.fix 15 17 = [(1, [], 1), (2, [], 1)]) /\ (AN.frl 15 17 = false) /\ (AN.keep 15 10 = some [5, 6, 22]) /\ (AN.fix 15 10 = [(1, [], 1)]) /\ (AN.frl 15 10 = false) /\ (AN.keep 17 13 = some [2, 6, 7, 8, 12, 13, 51, 52, 53]) /\ (AN.fix 17 13 = [(0, [], 2), (1, [], 1), (2, [], 1), (6, [], 2)]) /\ (AN.frl 17 13 = false) /\ (AN.keep 19 4 = some [0, 3, 4]) /\ (AN.fix 19 4 = [(0, [], 2), (1, [], 2)]) /\ (AN.frl 19 4 = false) /\ (AN.keep 20 5 = some [0, 1, 4, 5]) /\ (AN.fix 20 5 = [(0, [], 1), (1, [], 1)]) /\ (AN.frl 20 5 = false) /\ (AN.keep 30 27 = some [1, 2, 9]) /\ (AN.fix 30 27 = []) /\ (AN.frl 30 27 = false) /\ (AN.keep 30 20 = some [1, 2, 6, 7, 8]) /\ (AN.fix 30 20 = [(3, [], 2)]) /\ (AN.frl 30 20 = false) /\ (AN.keep 30 16 = some [1, 2, 6]) /\ (AN.fix 30 16 = []) /\ (AN.frl 30 16 = false) /\ (AN.keep 30 10 = some [1, 2, 4]) /\ (AN.fix 30 10 = []) /\ (AN.frl 30 10 = false) /\ (AN.keep 30 5 = some [1, 2, 3]) /\ (AN.fix 30 5 = []) /\ (AN.frl 30 5 = false) /\ (AN.keep 32 16 = some [1, 2, 47, 48, 49]) /\ (AN.fix 32 16 = [(2, [], 3)]) /\ (AN.frl 32 16 = false) /\ (AN.keep 32 9 = some [1, 2, 31, 32, 33]) /\ (AN.fix 32 9 = [(2, [], 1)]) /\ (AN.frl 32 9 = false) /\ (AN.keep 34 38 = some [1, 7, 8, 9, 10, 11, 22, 105, 106, 107, 120, 121, 122]) /\ (AN.fix 34 38 = [(2, [], 1), (3, [], 1), (7, [], 1), (10, [], 1)]) /\ (AN.frl 34 38 = false) /\ (AN.keep 34 33 = some [1, 7, 8, 9, 10, 11, 105, 106, 107]) /\ (AN.fix 34 33 = [(2, [], 1), (3, [], 1), (6, [], 1)]) /\ (AN.frl 34 33 = false) /\ (AN.keep 34 27 = some [1, 7, 8, 9, 10, 11, 14, 18, 75, 76, 77, 90, 91, 92]) /\ (AN.fix 34 27 = [(2, [], 1), (3, [], 1), (8, [], 1), (11, [], 1)]) /\ (AN.frl 34 27 = false) /\ (AN.keep 34 22 = some [1, 7, 8, 9, 10, 11, 14, 75, 76, 77]) /\ (AN.fix 34 22 = [(2, [], 1), (3, [], 1), (7, [], 1)]) /\ (AN.frl 34 22 = false) /\ (AN.keep 34 17 = some [1, 7, 8, 9, 10, 11, 14, 64, 65, 66]) /\ (AN.fix 34 17 = [(2, [], 1), (3, [], 1), (7, [], 1)]) /\ (AN.frl 34 17 = false) /\ (AN.keep 34 13 = some [1, 7, 8, 9, 10, 11]) /\ (AN.fix 34 13 = [(2, [], 1), (3, [], 1)]) /\ (AN.frl 34 13 = false) /\ (AN.keep 34 9 = some [1, 7, 8, 9, 10, 11, 41, 42, 43]) /\ (AN.fix 34 9 = [(2, [], 1), (3, [], 1), (6, [], 1), (4, [0], 1)]) /\ (AN.frl 34 9 = false) /\ (AN.keep 35 17 = some [1, 2, 3, 4, 5, 7, 8, 9, 10, 12, 13]) /\ (AN.fix 35 17 = [(1, [], 1), (2, [], 1), (3, [], 1), (5, [], 1), (6, [], 1), (7, [], 1)]) /\ (AN.frl 35 17 = false) /\ (AN.keep 35 14 = some [1, 2, 3, 4, 5, 7, 8, 9, 10, 12]) /\ (AN.fix 35 14 = [(1, [], 1), (2, [], 1), (3, [], 1), (5, [], 1), (6, [], 1), (7, [], 1)]) /\ (AN.frl 35 14 = false) /\ (AN.keep 35 9 = some [1, 2, 3, 4, 5, 7, 8, 9, 10, 11]) /\ (AN.fix 35 9 = [(1, [], 1), (2, [], 1), (3, [], 1), (5, [], 1), (6, [], 1), (7, [], 1)]) /\ (AN.frl 35 9 = false) /\ (AN.keep 35 7 = some [1, 2, 3, 4, 5, 7, 8, 9]) /\ (AN.fix 35 7 = [(1, [], 1), (2, [], 1), (3, [], 1), (5, [], 1), (6, [], 1), (7, [], 1)]) /\ (AN.frl 35 7 = false) /\ (AN.keep 36 11 = some [5, 6, 7, 8, 16]) /\ (AN.fix 36 11 = [(1, [], 2)]) /\ (AN.frl 36 11 = false) /\ (AN.keep 36 8 = some [5, 6, 16]) /\ (AN.fix 36 8 = [(1, [], 2)]) /\ (AN.frl 36 8 = false) /\ (AN.keep 37 11 = some [1, 5, 6, 7, 8]) /\ (AN.fix 37 11 = [(1, [], 1), (2, [], 2)]) /\ (AN.frl 37 11 = false) /\ (AN.keep 37 8 = some [1, 5, 6, 7]) /\ (AN.fix 37 8 = [(1, [], 1), (2, [], 2)]) /\ (AN.frl 37 8 = false) /\ (AN.keep 40 11 = some [3, 5, 7, 13, 14, 15, 19, 20, 21, 34, 35, 36]) /\ (AN.fix 40 11 = [(1, [], 2), (3, [], 1), (6, [], 2), (9, [], 2)]) /\ (AN.frl 40 11 = false) /\ (AN.keep 40 7 = some [3, 5, 13, 14, 15, 19, 20, 21]) /\ (AN.fix 40 7 = [(1, [], 2), (2, [], 1), (5, [], 2)]) /\ (AN.frl 40 7 = false) /\ (AN.keep 40 4 = some [3, 13, 14, 15]) /\ (AN.fix 40 4 = [(1, [], 1)]) /\ (AN.frl 40 4 = false) /\ (AN.keep 41 4 = some [3, 6, 7]) /\ (AN.fix 41 4 = []) /\ (AN.frl 41 4 = false) /\ (AN.keep 43 9 = some [7, 8]) /\ (AN.fix 43 9 = [(0, [], 1)]) /\ (AN.frl 43 9 = false) /\ (AN.keep 44 7 = some [0, 1, 2, 3, 8, 9, 10, 11]) /\ (AN.fix 44 7 = [(1, [], 1), (2, [], 1)]) /\ (AN.frl 44 7 = false) /\ (AN.keep 47 3 = some [0, 3]) /\ (AN.fix 47 3 = []) /\ (AN.frl 47 3 = false) /\ (AN.keep 50 4 = some [0, 2, 6, 7, 10, 11, 12]) /\ (AN.fix 50 4 = [(4, [], 1)]) /\ (AN.frl 50 4 = false) /\ (AN.keep 51 3 = some [2, 5, 6]) /\ (AN.fix 51 3 = []) /\ (AN.frl 51 3 = false) /\ (AN.keep 53 7 = some [1, 3, 4, 5]) /\ (AN.fix 53 7 = []) /\ (AN.frl 53 7 = false) /\ (AN.keep 53 4 = some [1, 3, 4]) /\ (AN.fix 53 4 = []) /\ (AN.frl 53 4 = false) /\ (AN.keep 54 3 = some [1, 2, 3, 6, 7]) /\ (AN.fix 54 3 = []) /\ (AN.frl 54 3 = false) /\ (AN.keep 55 10 = some [1, 10, 40, 41, 42]) /\ (AN.fix 55 10 = [(0, [], 1), (1, [], 2), (2, [], 2)]) /\ (AN.frl 55 10 = false) /\ (AN.keep 55 4 = some [1, 2, 3, 7, 17, 18, 19]) /\ (AN.fix 55 4 = [(0, [], 1), (4, [], 2)]) /\ (AN.frl 55 4 = false) /\ (AN.keep 57 3 = some [1, 2, 5, 8, 9, 10]) /\ (AN.fix 57 3 = [(3, [], 2)]) /\ (AN.frl 57 3 = false) /\ (AN.keep 59 9 = some [7, 8]) /\ (AN.fix 59 9 = [(0, [], 2)]) /\ (AN.frl 59 9 = false) /\ (AN.keep 62 11 = some [0, 1, 4, 39, 40, 41]) /\ (AN.fix 62 11 = [(1, [], 1), (3, [], 1)]) /\ (AN.frl 62 11 = false) /\ (AN.keep 62 5 = some [0, 1, 4, 15, 16, 17]) /\ (AN.fix 62 5 = [(1, [], 1), (3, [], 1)]) /\ (AN.frl 62 5 = false) /\ (AN.keep 63 7 = some [1, 3, 4, 5]) /\ (AN.fix 63 7 = [(1, [], 1)]) /\ (AN.frl 63 7 = false) /\ (AN.keep 63 4 = some [1, 3, 4]) /\ (AN.fix 63 4 = [(1, [], 1)]) /\ (AN.frl 63 4 = false) /\ (AN.keep 64 4 = some [0, 3, 4]) /\ (AN.fix 64 4 = [(0, [], 1), (1, [], 1)]) /\ (AN.frl 64 4 = false) /\ (AN.keep 66 3 = some [0, 1, 4, 5]) /\ (AN.fix 66 3 = [(0, [], 1)]) /\ (AN.frl 66 3 = false) /\ (AN.keep 71 3 = some [0, 1, 4, 7, 8, 9]) /\ (AN.fix 71 3 = [(0, [], 2), (3, [], 2)]) /\ (AN.frl 71 3 = false) /\ (AN.keep 74 4 = some [3, 6, 7, 8]) /\ (AN.fix 74 4 = [(0, [], 1), (1, [], 1)]) /\ (AN.frl 74 4 = false) /\ (AN.keep 76 8 = some [1, 5, 7]) /\ (AN.fix 76 8 = [(0, [], 1), (1, [], 1)]) /\ (AN.frl 76 8 = false) /\ (AN.keep 76 4 = some [0, 1, 5, 6]) /\ (AN.fix 76 4 = [(0, [], 1), (1, [], 1), (2, [], 1)]) /\ (AN.frl 76 4 = false) /\ (AN.keep 80 6 = some [0, 3, 4]) /\ (AN.fix 80 6 = [(0, [], 1)]) /\ (AN.frl 80 6 = false) /\ (AN.keep 81 3 = some [0, 1, 4, 7, 8]) /\ (AN.fix 81 3 = [(0, [], 2)]) /\ (AN.frl 81 3 = false) /\ (AN.keep 83 3 = some [1, 2, 3, 6, 7]) /\ (AN.fix 83 3 = []) /\ (AN.frl 83 3 = false) /\ (AN.keep 84 3 = some [0, 1, 4, 7, 8]) /\ (AN.fix 84 3 = [(0, [], 1)]) /\ (AN.frl 84 3 = false) /\ (AN.keep 85 3 = some [0, 1, 4, 7, 8]) /\ (AN.fix 85 3 = [(0, [], 1)]) /\ (AN.frl 85 3 = false) /\ (AN.keep 86 3 = some [0, 1, 4, 7, 8]) /\ (AN.fix 86 3 = [(0, [], 3)]) /\ (AN.frl 86 3 = false) /\ (AN.keep 89 4 = some [0, 1, 2, 8, 9, 10]) /\ (AN.fix 89 4 = [(0, [], 2)]) /\ (AN.frl 89 4 = false) /\ (AN.keep 93 3 = some [0, 1, 4, 7, 8]) /\ (AN.fix 93 3 = [(0, [], 1)]) /\ (AN.frl 93 3 = false) := by and_intros <;> kernel_rfl
theorem anf : type_of% @anf0 /\ type_of% @acp := ⟨@anf0, @acp⟩
variable (a v : List AV) (l : HL)
theorem l14_11 : type_of% (ev_lp AN G 14 11 141 [1, 3, 4, 5, 7] (by kernel_rfl) Tryd.func14 rfl rfl rfl (by kernel_rfl) v l) :=
 ev_lp AN G 14 11 141 [1, 3, 4, 5, 7] (by kernel_rfl) Tryd.func14 rfl rfl rfl (by kernel_rfl) v l
theorem l14_6 : type_of% (ev_lp AN G 14 6 141 [1, 3, 4, 5, 6] (by kernel_rfl) Tryd.func14 rfl rfl rfl (by kernel_rfl) v l) :=
 ev_lp AN G 14 6 141 [1, 3, 4, 5, 6] (by kernel_rfl) Tryd.func14 rfl rfl rfl (by kernel_rfl) v l
theorem l15_17 : type_of% (ev_lp AN G 15 17 49 [5, 6, 8, 9] (by kernel_rfl) Tryd.func15 rfl rfl rfl (by kernel_rfl) v l) :=
 ev_lp AN G 15 17 49 [5, 6, 8, 9] (by kernel_rfl) Tryd.func15 rfl rfl rfl (by kernel_rfl) v l
theorem l15_10 : type_of% (ev_lp AN G 15 10 49 [5, 6, 22] (by kernel_rfl) Tryd.func15 rfl rfl rfl (by kernel_rfl) v l) :=
 ev_lp AN G 15 10 49 [5, 6, 22] (by kernel_rfl) Tryd.func15 rfl rfl rfl (by kernel_rfl) v l
theorem l17_13 : type_of% (ev_lp AN G 17 13 97 [2, 6, 7, 8, 12, 13, 51, 52, 53] (by kernel_rfl) Tryd.func17 rfl rfl rfl (by kernel_rfl) v l) :=
 ev_lp AN G 17 13 97 [2, 6, 7, 8, 12, 13, 51, 52, 53] (by kernel_rfl) Tryd.func17 rfl rfl rfl (by kernel_rfl) v l
theorem l20_5 : type_of% (ev_lp AN G 20 5 26 [0, 1, 4, 5] (by kernel_rfl) Tryd.func20 rfl rfl rfl (by kernel_rfl) v l) :=
 ev_lp AN G 20 5 26 [0, 1, 4, 5] (by kernel_rfl) Tryd.func20 rfl rfl rfl (by kernel_rfl) v l
theorem l30_27 : type_of% (ev_lp AN G 30 27 177 [1, 2, 9] (by kernel_rfl) Tryd.func30 rfl rfl rfl (by kernel_rfl) v l) :=
 ev_lp AN G 30 27 177 [1, 2, 9] (by kernel_rfl) Tryd.func30 rfl rfl rfl (by kernel_rfl) v l
theorem l30_20 : type_of% (ev_lp AN G 30 20 177 [1, 2, 6, 7, 8] (by kernel_rfl) Tryd.func30 rfl rfl rfl (by kernel_rfl) v l) :=
 ev_lp AN G 30 20 177 [1, 2, 6, 7, 8] (by kernel_rfl) Tryd.func30 rfl rfl rfl (by kernel_rfl) v l
theorem l30_16 : type_of% (ev_lp AN G 30 16 177 [1, 2, 6] (by kernel_rfl) Tryd.func30 rfl rfl rfl (by kernel_rfl) v l) :=
 ev_lp AN G 30 16 177 [1, 2, 6] (by kernel_rfl) Tryd.func30 rfl rfl rfl (by kernel_rfl) v l
theorem l30_10 : type_of% (ev_lp AN G 30 10 177 [1, 2, 4] (by kernel_rfl) Tryd.func30 rfl rfl rfl (by kernel_rfl) v l) :=
 ev_lp AN G 30 10 177 [1, 2, 4] (by kernel_rfl) Tryd.func30 rfl rfl rfl (by kernel_rfl) v l
theorem l30_5 : type_of% (ev_lp AN G 30 5 177 [1, 2, 3] (by kernel_rfl) Tryd.func30 rfl rfl rfl (by kernel_rfl) v l) :=
 ev_lp AN G 30 5 177 [1, 2, 3] (by kernel_rfl) Tryd.func30 rfl rfl rfl (by kernel_rfl) v l
theorem l32_16 : type_of% (ev_lp AN G 32 16 83 [1, 2, 47, 48, 49] (by kernel_rfl) Tryd.func32 rfl rfl rfl (by kernel_rfl) v l) :=
 ev_lp AN G 32 16 83 [1, 2, 47, 48, 49] (by kernel_rfl) Tryd.func32 rfl rfl rfl (by kernel_rfl) v l
theorem l32_9 : type_of% (ev_lp AN G 32 9 83 [1, 2, 31, 32, 33] (by kernel_rfl) Tryd.func32 rfl rfl rfl (by kernel_rfl) v l) :=
 ev_lp AN G 32 9 83 [1, 2, 31, 32, 33] (by kernel_rfl) Tryd.func32 rfl rfl rfl (by kernel_rfl) v l
theorem l34_38 : type_of% (ev_lp AN G 34 38 140 [1, 7, 8, 9, 10, 11, 22, 105, 106, 107, 120, 121, 122] (by kernel_rfl) Tryd.func34 rfl rfl rfl (by kernel_rfl) v l) :=
 ev_lp AN G 34 38 140 [1, 7, 8, 9, 10, 11, 22, 105, 106, 107, 120, 121, 122] (by kernel_rfl) Tryd.func34 rfl rfl rfl (by kernel_rfl) v l
theorem l34_33 : type_of% (ev_lp AN G 34 33 140 [1, 7, 8, 9, 10, 11, 105, 106, 107] (by kernel_rfl) Tryd.func34 rfl rfl rfl (by kernel_rfl) v l) :=
 ev_lp AN G 34 33 140 [1, 7, 8, 9, 10, 11, 105, 106, 107] (by kernel_rfl) Tryd.func34 rfl rfl rfl (by kernel_rfl) v l
theorem l34_27 : type_of% (ev_lp AN G 34 27 140 [1, 7, 8, 9, 10, 11, 14, 18, 75, 76, 77, 90, 91, 92] (by kernel_rfl) Tryd.func34 rfl rfl rfl (by kernel_rfl) v l) :=
 ev_lp AN G 34 27 140 [1, 7, 8, 9, 10, 11, 14, 18, 75, 76, 77, 90, 91, 92] (by kernel_rfl) Tryd.func34 rfl rfl rfl (by kernel_rfl) v l
theorem l34_22 : type_of% (ev_lp AN G 34 22 140 [1, 7, 8, 9, 10, 11, 14, 75, 76, 77] (by kernel_rfl) Tryd.func34 rfl rfl rfl (by kernel_rfl) v l) :=
 ev_lp AN G 34 22 140 [1, 7, 8, 9, 10, 11, 14, 75, 76, 77] (by kernel_rfl) Tryd.func34 rfl rfl rfl (by kernel_rfl) v l
theorem l34_17 : type_of% (ev_lp AN G 34 17 140 [1, 7, 8, 9, 10, 11, 14, 64, 65, 66] (by kernel_rfl) Tryd.func34 rfl rfl rfl (by kernel_rfl) v l) :=
 ev_lp AN G 34 17 140 [1, 7, 8, 9, 10, 11, 14, 64, 65, 66] (by kernel_rfl) Tryd.func34 rfl rfl rfl (by kernel_rfl) v l
theorem l34_13 : type_of% (ev_lp AN G 34 13 140 [1, 7, 8, 9, 10, 11] (by kernel_rfl) Tryd.func34 rfl rfl rfl (by kernel_rfl) v l) :=
 ev_lp AN G 34 13 140 [1, 7, 8, 9, 10, 11] (by kernel_rfl) Tryd.func34 rfl rfl rfl (by kernel_rfl) v l
theorem l34_9 : type_of% (ev_lp AN G 34 9 140 [1, 7, 8, 9, 10, 11, 41, 42, 43] (by kernel_rfl) Tryd.func34 rfl rfl rfl (by kernel_rfl) v l) :=
 ev_lp AN G 34 9 140 [1, 7, 8, 9, 10, 11, 41, 42, 43] (by kernel_rfl) Tryd.func34 rfl rfl rfl (by kernel_rfl) v l
theorem l35_17 : type_of% (ev_lp AN G 35 17 137 [1, 2, 3, 4, 5, 7, 8, 9, 10, 12, 13] (by kernel_rfl) Tryd.func35 rfl rfl rfl (by kernel_rfl) v l) :=
 ev_lp AN G 35 17 137 [1, 2, 3, 4, 5, 7, 8, 9, 10, 12, 13] (by kernel_rfl) Tryd.func35 rfl rfl rfl (by kernel_rfl) v l
theorem l35_14 : type_of% (ev_lp AN G 35 14 137 [1, 2, 3, 4, 5, 7, 8, 9, 10, 12] (by kernel_rfl) Tryd.func35 rfl rfl rfl (by kernel_rfl) v l) :=
 ev_lp AN G 35 14 137 [1, 2, 3, 4, 5, 7, 8, 9, 10, 12] (by kernel_rfl) Tryd.func35 rfl rfl rfl (by kernel_rfl) v l
theorem l35_9 : type_of% (ev_lp AN G 35 9 137 [1, 2, 3, 4, 5, 7, 8, 9, 10, 11] (by kernel_rfl) Tryd.func35 rfl rfl rfl (by kernel_rfl) v l) :=
 ev_lp AN G 35 9 137 [1, 2, 3, 4, 5, 7, 8, 9, 10, 11] (by kernel_rfl) Tryd.func35 rfl rfl rfl (by kernel_rfl) v l
theorem l35_7 : type_of% (ev_lp AN G 35 7 137 [1, 2, 3, 4, 5, 7, 8, 9] (by kernel_rfl) Tryd.func35 rfl rfl rfl (by kernel_rfl) v l) :=
 ev_lp AN G 35 7 137 [1, 2, 3, 4, 5, 7, 8, 9] (by kernel_rfl) Tryd.func35 rfl rfl rfl (by kernel_rfl) v l
theorem l36_11 : type_of% (ev_lp AN G 36 11 40 [5, 6, 7, 8, 16] (by kernel_rfl) Tryd.func36 rfl rfl rfl (by kernel_rfl) v l) :=
 ev_lp AN G 36 11 40 [5, 6, 7, 8, 16] (by kernel_rfl) Tryd.func36 rfl rfl rfl (by kernel_rfl) v l
theorem l36_8 : type_of% (ev_lp AN G 36 8 40 [5, 6, 16] (by kernel_rfl) Tryd.func36 rfl rfl rfl (by kernel_rfl) v l) :=
 ev_lp AN G 36 8 40 [5, 6, 16] (by kernel_rfl) Tryd.func36 rfl rfl rfl (by kernel_rfl) v l
theorem l37_11 : type_of% (ev_lp AN G 37 11 54 [1, 5, 6, 7, 8] (by kernel_rfl) Tryd.func37 rfl rfl rfl (by kernel_rfl) v l) :=
 ev_lp AN G 37 11 54 [1, 5, 6, 7, 8] (by kernel_rfl) Tryd.func37 rfl rfl rfl (by kernel_rfl) v l
theorem l37_8 : type_of% (ev_lp AN G 37 8 54 [1, 5, 6, 7] (by kernel_rfl) Tryd.func37 rfl rfl rfl (by kernel_rfl) v l) :=
 ev_lp AN G 37 8 54 [1, 5, 6, 7] (by kernel_rfl) Tryd.func37 rfl rfl rfl (by kernel_rfl) v l
theorem l40_11 : type_of% (ev_lp AN G 40 11 62 [3, 5, 7, 13, 14, 15, 19, 20, 21, 34, 35, 36] (by kernel_rfl) Tryd.func40 rfl rfl rfl (by kernel_rfl) v l) :=
 ev_lp AN G 40 11 62 [3, 5, 7, 13, 14, 15, 19, 20, 21, 34, 35, 36] (by kernel_rfl) Tryd.func40 rfl rfl rfl (by kernel_rfl) v l
theorem l40_7 : type_of% (ev_lp AN G 40 7 62 [3, 5, 13, 14, 15, 19, 20, 21] (by kernel_rfl) Tryd.func40 rfl rfl rfl (by kernel_rfl) v l) :=
 ev_lp AN G 40 7 62 [3, 5, 13, 14, 15, 19, 20, 21] (by kernel_rfl) Tryd.func40 rfl rfl rfl (by kernel_rfl) v l
theorem l40_4 : type_of% (ev_lp AN G 40 4 62 [3, 13, 14, 15] (by kernel_rfl) Tryd.func40 rfl rfl rfl (by kernel_rfl) v l) :=
 ev_lp AN G 40 4 62 [3, 13, 14, 15] (by kernel_rfl) Tryd.func40 rfl rfl rfl (by kernel_rfl) v l
theorem l41_4 : type_of% (ev_lp AN G 41 4 18 [3, 6, 7] (by kernel_rfl) Tryd.func41 rfl rfl rfl (by kernel_rfl) v l) :=
 ev_lp AN G 41 4 18 [3, 6, 7] (by kernel_rfl) Tryd.func41 rfl rfl rfl (by kernel_rfl) v l
theorem l43_9 : type_of% (ev_lp AN G 43 9 48 [7, 8] (by kernel_rfl) Tryd.func43 rfl rfl rfl (by kernel_rfl) v l) :=
 ev_lp AN G 43 9 48 [7, 8] (by kernel_rfl) Tryd.func43 rfl rfl rfl (by kernel_rfl) v l
theorem l44_7 : type_of% (ev_lp AN G 44 7 53 [0, 1, 2, 3, 8, 9, 10, 11] (by kernel_rfl) Tryd.func44 rfl rfl rfl (by kernel_rfl) v l) :=
 ev_lp AN G 44 7 53 [0, 1, 2, 3, 8, 9, 10, 11] (by kernel_rfl) Tryd.func44 rfl rfl rfl (by kernel_rfl) v l
theorem l47_3 : type_of% (ev_lp AN G 47 3 18 [0, 3] (by kernel_rfl) Tryd.func47 rfl rfl rfl (by kernel_rfl) v l) :=
 ev_lp AN G 47 3 18 [0, 3] (by kernel_rfl) Tryd.func47 rfl rfl rfl (by kernel_rfl) v l
theorem l50_4 : type_of% (ev_lp AN G 50 4 32 [0, 2, 6, 7, 10, 11, 12] (by kernel_rfl) Tryd.func50 rfl rfl rfl (by kernel_rfl) v l) :=
 ev_lp AN G 50 4 32 [0, 2, 6, 7, 10, 11, 12] (by kernel_rfl) Tryd.func50 rfl rfl rfl (by kernel_rfl) v l
theorem l51_3 : type_of% (ev_lp AN G 51 3 21 [2, 5, 6] (by kernel_rfl) Tryd.func51 rfl rfl rfl (by kernel_rfl) v l) :=
 ev_lp AN G 51 3 21 [2, 5, 6] (by kernel_rfl) Tryd.func51 rfl rfl rfl (by kernel_rfl) v l
theorem l53_7 : type_of% (ev_lp AN G 53 7 36 [1, 3, 4, 5] (by kernel_rfl) Tryd.func53 rfl rfl rfl (by kernel_rfl) v l) :=
 ev_lp AN G 53 7 36 [1, 3, 4, 5] (by kernel_rfl) Tryd.func53 rfl rfl rfl (by kernel_rfl) v l
theorem l53_4 : type_of% (ev_lp AN G 53 4 36 [1, 3, 4] (by kernel_rfl) Tryd.func53 rfl rfl rfl (by kernel_rfl) v l) :=
 ev_lp AN G 53 4 36 [1, 3, 4] (by kernel_rfl) Tryd.func53 rfl rfl rfl (by kernel_rfl) v l
theorem l54_3 : type_of% (ev_lp AN G 54 3 32 [1, 2, 3, 6, 7] (by kernel_rfl) Tryd.func54 rfl rfl rfl (by kernel_rfl) v l) :=
 ev_lp AN G 54 3 32 [1, 2, 3, 6, 7] (by kernel_rfl) Tryd.func54 rfl rfl rfl (by kernel_rfl) v l
theorem l55_10 : type_of% (ev_lp AN G 55 10 56 [1, 10, 40, 41, 42] (by kernel_rfl) Tryd.func55 rfl rfl rfl (by kernel_rfl) v l) :=
 ev_lp AN G 55 10 56 [1, 10, 40, 41, 42] (by kernel_rfl) Tryd.func55 rfl rfl rfl (by kernel_rfl) v l
theorem l55_4 : type_of% (ev_lp AN G 55 4 56 [1, 2, 3, 7, 17, 18, 19] (by kernel_rfl) Tryd.func55 rfl rfl rfl (by kernel_rfl) v l) :=
 ev_lp AN G 55 4 56 [1, 2, 3, 7, 17, 18, 19] (by kernel_rfl) Tryd.func55 rfl rfl rfl (by kernel_rfl) v l
theorem l57_3 : type_of% (ev_lp AN G 57 3 37 [1, 2, 5, 8, 9, 10] (by kernel_rfl) Tryd.func57 rfl rfl rfl (by kernel_rfl) v l) :=
 ev_lp AN G 57 3 37 [1, 2, 5, 8, 9, 10] (by kernel_rfl) Tryd.func57 rfl rfl rfl (by kernel_rfl) v l
theorem l59_9 : type_of% (ev_lp AN G 59 9 48 [7, 8] (by kernel_rfl) Tryd.func59 rfl rfl rfl (by kernel_rfl) v l) :=
 ev_lp AN G 59 9 48 [7, 8] (by kernel_rfl) Tryd.func59 rfl rfl rfl (by kernel_rfl) v l
theorem l62_11 : type_of% (ev_lp AN G 62 11 57 [0, 1, 4, 39, 40, 41] (by kernel_rfl) Tryd.func62 rfl rfl rfl (by kernel_rfl) v l) :=
 ev_lp AN G 62 11 57 [0, 1, 4, 39, 40, 41] (by kernel_rfl) Tryd.func62 rfl rfl rfl (by kernel_rfl) v l
theorem l62_5 : type_of% (ev_lp AN G 62 5 57 [0, 1, 4, 15, 16, 17] (by kernel_rfl) Tryd.func62 rfl rfl rfl (by kernel_rfl) v l) :=
 ev_lp AN G 62 5 57 [0, 1, 4, 15, 16, 17] (by kernel_rfl) Tryd.func62 rfl rfl rfl (by kernel_rfl) v l
theorem l63_7 : type_of% (ev_lp AN G 63 7 38 [1, 3, 4, 5] (by kernel_rfl) Tryd.func63 rfl rfl rfl (by kernel_rfl) v l) :=
 ev_lp AN G 63 7 38 [1, 3, 4, 5] (by kernel_rfl) Tryd.func63 rfl rfl rfl (by kernel_rfl) v l
theorem l63_4 : type_of% (ev_lp AN G 63 4 38 [1, 3, 4] (by kernel_rfl) Tryd.func63 rfl rfl rfl (by kernel_rfl) v l) :=
 ev_lp AN G 63 4 38 [1, 3, 4] (by kernel_rfl) Tryd.func63 rfl rfl rfl (by kernel_rfl) v l
theorem l64_4 : type_of% (ev_lp AN G 64 4 20 [0, 3, 4] (by kernel_rfl) Tryd.func64 rfl rfl rfl (by kernel_rfl) v l) :=
 ev_lp AN G 64 4 20 [0, 3, 4] (by kernel_rfl) Tryd.func64 rfl rfl rfl (by kernel_rfl) v l
theorem l66_3 : type_of% (ev_lp AN G 66 3 25 [0, 1, 4, 5] (by kernel_rfl) Tryd.func66 rfl rfl rfl (by kernel_rfl) v l) :=
 ev_lp AN G 66 3 25 [0, 1, 4, 5] (by kernel_rfl) Tryd.func66 rfl rfl rfl (by kernel_rfl) v l
theorem l71_3 : type_of% (ev_lp AN G 71 3 49 [0, 1, 4, 7, 8, 9] (by kernel_rfl) Tryd.func71 rfl rfl rfl (by kernel_rfl) v l) :=
 ev_lp AN G 71 3 49 [0, 1, 4, 7, 8, 9] (by kernel_rfl) Tryd.func71 rfl rfl rfl (by kernel_rfl) v l
theorem l74_4 : type_of% (ev_lp AN G 74 4 20 [3, 6, 7, 8] (by kernel_rfl) Tryd.func74 rfl rfl rfl (by kernel_rfl) v l) :=
 ev_lp AN G 74 4 20 [3, 6, 7, 8] (by kernel_rfl) Tryd.func74 rfl rfl rfl (by kernel_rfl) v l
theorem l76_8 : type_of% (ev_lp AN G 76 8 34 [1, 5, 7] (by kernel_rfl) Tryd.func76 rfl rfl rfl (by kernel_rfl) v l) :=
 ev_lp AN G 76 8 34 [1, 5, 7] (by kernel_rfl) Tryd.func76 rfl rfl rfl (by kernel_rfl) v l
theorem l76_4 : type_of% (ev_lp AN G 76 4 34 [0, 1, 5, 6] (by kernel_rfl) Tryd.func76 rfl rfl rfl (by kernel_rfl) v l) :=
 ev_lp AN G 76 4 34 [0, 1, 5, 6] (by kernel_rfl) Tryd.func76 rfl rfl rfl (by kernel_rfl) v l
theorem l80_6 : type_of% (ev_lp AN G 80 6 25 [0, 3, 4] (by kernel_rfl) Tryd.func80 rfl rfl rfl (by kernel_rfl) v l) :=
 ev_lp AN G 80 6 25 [0, 3, 4] (by kernel_rfl) Tryd.func80 rfl rfl rfl (by kernel_rfl) v l
theorem l81_3 : type_of% (ev_lp AN G 81 3 19 [0, 1, 4, 7, 8] (by kernel_rfl) Tryd.func81 rfl rfl rfl (by kernel_rfl) v l) :=
 ev_lp AN G 81 3 19 [0, 1, 4, 7, 8] (by kernel_rfl) Tryd.func81 rfl rfl rfl (by kernel_rfl) v l
theorem l83_3 : type_of% (ev_lp AN G 83 3 38 [1, 2, 3, 6, 7] (by kernel_rfl) Tryd.func83 rfl rfl rfl (by kernel_rfl) v l) :=
 ev_lp AN G 83 3 38 [1, 2, 3, 6, 7] (by kernel_rfl) Tryd.func83 rfl rfl rfl (by kernel_rfl) v l
theorem l84_3 : type_of% (ev_lp AN G 84 3 19 [0, 1, 4, 7, 8] (by kernel_rfl) Tryd.func84 rfl rfl rfl (by kernel_rfl) v l) :=
 ev_lp AN G 84 3 19 [0, 1, 4, 7, 8] (by kernel_rfl) Tryd.func84 rfl rfl rfl (by kernel_rfl) v l
theorem l85_3 : type_of% (ev_lp AN G 85 3 19 [0, 1, 4, 7, 8] (by kernel_rfl) Tryd.func85 rfl rfl rfl (by kernel_rfl) v l) :=
 ev_lp AN G 85 3 19 [0, 1, 4, 7, 8] (by kernel_rfl) Tryd.func85 rfl rfl rfl (by kernel_rfl) v l
theorem l86_3 : type_of% (ev_lp AN G 86 3 19 [0, 1, 4, 7, 8] (by kernel_rfl) Tryd.func86 rfl rfl rfl (by kernel_rfl) v l) :=
 ev_lp AN G 86 3 19 [0, 1, 4, 7, 8] (by kernel_rfl) Tryd.func86 rfl rfl rfl (by kernel_rfl) v l
theorem l89_4 : type_of% (ev_lp AN G 89 4 49 [0, 1, 2, 8, 9, 10] (by kernel_rfl) Tryd.func89 rfl rfl rfl (by kernel_rfl) v l) :=
 ev_lp AN G 89 4 49 [0, 1, 2, 8, 9, 10] (by kernel_rfl) Tryd.func89 rfl rfl rfl (by kernel_rfl) v l
theorem l93_3 : type_of% (ev_lp AN G 93 3 19 [0, 1, 4, 7, 8] (by kernel_rfl) Tryd.func93 rfl rfl rfl (by kernel_rfl) v l) :=
 ev_lp AN G 93 3 19 [0, 1, 4, 7, 8] (by kernel_rfl) Tryd.func93 rfl rfl rfl (by kernel_rfl) v l
theorem e3 : type_of% (ev_fn AN G 3 63 [.tmp 10] (by kernel_rfl) Tryd.func3 rfl rfl rfl a l) :=
 ev_fn AN G 3 63 [.tmp 10] (by kernel_rfl) Tryd.func3 rfl rfl rfl a l
theorem e4 : type_of% (ev_fn AN G 4 110 [.tmp 4] (by kernel_rfl) Tryd.func4 rfl rfl rfl a l) :=
 ev_fn AN G 4 110 [.tmp 4] (by kernel_rfl) Tryd.func4 rfl rfl rfl a l
theorem e6 : type_of% (ev_fn AN G 6 137 [.tmp 4] (by kernel_rfl) Tryd.func6 rfl rfl rfl a l) :=
 ev_fn AN G 6 137 [.tmp 4] (by kernel_rfl) Tryd.func6 rfl rfl rfl a l
theorem e12 : type_of% (ev_fn AN G 12 95 [.tmp 10] (by kernel_rfl) Tryd.func12 rfl rfl rfl a l) :=
 ev_fn AN G 12 95 [.tmp 10] (by kernel_rfl) Tryd.func12 rfl rfl rfl a l
theorem e14 : type_of% (ev_fn AN G 14 141 [.tmp 2] (by kernel_rfl) Tryd.func14 rfl rfl rfl a l) :=
 ev_fn AN G 14 141 [.tmp 2] (by kernel_rfl) Tryd.func14 rfl rfl rfl a l
theorem e15 : type_of% (ev_fn AN G 15 49 [.tmp 2, .tmp 3] (by kernel_rfl) Tryd.func15 rfl rfl rfl a l) :=
 ev_fn AN G 15 49 [.tmp 2, .tmp 3] (by kernel_rfl) Tryd.func15 rfl rfl rfl a l
theorem e17 : type_of% (ev_fn AN G 17 97 [.tmp 6, .tmp 7, .tmp 8] (by kernel_rfl) Tryd.func17 rfl rfl rfl a l) :=
 ev_fn AN G 17 97 [.tmp 6, .tmp 7, .tmp 8] (by kernel_rfl) Tryd.func17 rfl rfl rfl a l
theorem e20 : type_of% (ev_fn AN G 20 26 [.tmp 4] (by kernel_rfl) Tryd.func20 rfl rfl rfl a l) :=
 ev_fn AN G 20 26 [.tmp 4] (by kernel_rfl) Tryd.func20 rfl rfl rfl a l
theorem e26 : type_of% (ev_fn AN G 26 15 [.tmp 4] (by kernel_rfl) Tryd.func26 rfl rfl rfl a l) :=
 ev_fn AN G 26 15 [.tmp 4] (by kernel_rfl) Tryd.func26 rfl rfl rfl a l
theorem e30 : type_of% (ev_fn AN G 30 177 [.tmp 2] (by kernel_rfl) Tryd.func30 rfl rfl rfl a l) :=
 ev_fn AN G 30 177 [.tmp 2] (by kernel_rfl) Tryd.func30 rfl rfl rfl a l
theorem e32 : type_of% (ev_fn AN G 32 83 [.tmp 2] (by kernel_rfl) Tryd.func32 rfl rfl rfl a l) :=
 ev_fn AN G 32 83 [.tmp 2] (by kernel_rfl) Tryd.func32 rfl rfl rfl a l
theorem e34 : type_of% (ev_fn AN G 34 140 [.tmp 2, .tmp 3, .tmp 4, .tmp 5] (by kernel_rfl) Tryd.func34 rfl rfl rfl a l) :=
 ev_fn AN G 34 140 [.tmp 2, .tmp 3, .tmp 4, .tmp 5] (by kernel_rfl) Tryd.func34 rfl rfl rfl a l
theorem e35 : type_of% (ev_fn AN G 35 137 [.tmp 2, .tmp 3, .tmp 4, .tmp 5] (by kernel_rfl) Tryd.func35 rfl rfl rfl a l) :=
 ev_fn AN G 35 137 [.tmp 2, .tmp 3, .tmp 4, .tmp 5] (by kernel_rfl) Tryd.func35 rfl rfl rfl a l
theorem e36 : type_of% (ev_fn AN G 36 40 [.tmp 2, .tmp 3] (by kernel_rfl) Tryd.func36 rfl rfl rfl a l) :=
 ev_fn AN G 36 40 [.tmp 2, .tmp 3] (by kernel_rfl) Tryd.func36 rfl rfl rfl a l
theorem e37 : type_of% (ev_fn AN G 37 54 [.tmp 2, .tmp 3] (by kernel_rfl) Tryd.func37 rfl rfl rfl a l) :=
 ev_fn AN G 37 54 [.tmp 2, .tmp 3] (by kernel_rfl) Tryd.func37 rfl rfl rfl a l
theorem e39 : type_of% (ev_fn AN G 39 11 [.cell 0 35] (by kernel_rfl) Tryd.func39 rfl rfl rfl a l) :=
 ev_fn AN G 39 11 [.cell 0 35] (by kernel_rfl) Tryd.func39 rfl rfl rfl a l
theorem e40 : type_of% (ev_fn AN G 40 62 [.tmp 2] (by kernel_rfl) Tryd.func40 rfl rfl rfl a l) :=
 ev_fn AN G 40 62 [.tmp 2] (by kernel_rfl) Tryd.func40 rfl rfl rfl a l
theorem e41 : type_of% (ev_fn AN G 41 18 [.tmp 2] (by kernel_rfl) Tryd.func41 rfl rfl rfl a l) :=
 ev_fn AN G 41 18 [.tmp 2] (by kernel_rfl) Tryd.func41 rfl rfl rfl a l
theorem e42 : type_of% (ev_fn AN G 42 16 [.tmp 4] (by kernel_rfl) Tryd.func42 rfl rfl rfl a l) :=
 ev_fn AN G 42 16 [.tmp 4] (by kernel_rfl) Tryd.func42 rfl rfl rfl a l
theorem e43 : type_of% (ev_fn AN G 43 48 [.tmp 4] (by kernel_rfl) Tryd.func43 rfl rfl rfl a l) :=
 ev_fn AN G 43 48 [.tmp 4] (by kernel_rfl) Tryd.func43 rfl rfl rfl a l
theorem e44 : type_of% (ev_fn AN G 44 53 [.tmp 8] (by kernel_rfl) Tryd.func44 rfl rfl rfl a l) :=
 ev_fn AN G 44 53 [.tmp 8] (by kernel_rfl) Tryd.func44 rfl rfl rfl a l
theorem e45 : type_of% (ev_fn AN G 45 8 [.tmp 2] (by kernel_rfl) Tryd.func45 rfl rfl rfl a l) :=
 ev_fn AN G 45 8 [.tmp 2] (by kernel_rfl) Tryd.func45 rfl rfl rfl a l
theorem e46 : type_of% (ev_fn AN G 46 8 [.tmp 2] (by kernel_rfl) Tryd.func46 rfl rfl rfl a l) :=
 ev_fn AN G 46 8 [.tmp 2] (by kernel_rfl) Tryd.func46 rfl rfl rfl a l
theorem e47 : type_of% (ev_fn AN G 47 18 [.tmp 2] (by kernel_rfl) Tryd.func47 rfl rfl rfl a l) :=
 ev_fn AN G 47 18 [.tmp 2] (by kernel_rfl) Tryd.func47 rfl rfl rfl a l
theorem e48 : type_of% (ev_fn AN G 48 9 [.tmp 4] (by kernel_rfl) Tryd.func48 rfl rfl rfl a l) :=
 ev_fn AN G 48 9 [.tmp 4] (by kernel_rfl) Tryd.func48 rfl rfl rfl a l
theorem e49 : type_of% (ev_fn AN G 49 12 [.tmp 4] (by kernel_rfl) Tryd.func49 rfl rfl rfl a l) :=
 ev_fn AN G 49 12 [.tmp 4] (by kernel_rfl) Tryd.func49 rfl rfl rfl a l
theorem e50 : type_of% (ev_fn AN G 50 32 [.cell 6 90] (by kernel_rfl) Tryd.func50 rfl rfl rfl a l) :=
 ev_fn AN G 50 32 [.cell 6 90] (by kernel_rfl) Tryd.func50 rfl rfl rfl a l
theorem e51 : type_of% (ev_fn AN G 51 21 [.tmp 2] (by kernel_rfl) Tryd.func51 rfl rfl rfl a l) :=
 ev_fn AN G 51 21 [.tmp 2] (by kernel_rfl) Tryd.func51 rfl rfl rfl a l
theorem e53 : type_of% (ev_fn AN G 53 36 [.tmp 2] (by kernel_rfl) Tryd.func53 rfl rfl rfl a l) :=
 ev_fn AN G 53 36 [.tmp 2] (by kernel_rfl) Tryd.func53 rfl rfl rfl a l
theorem e54 : type_of% (ev_fn AN G 54 32 [.tmp 6] (by kernel_rfl) Tryd.func54 rfl rfl rfl a l) :=
 ev_fn AN G 54 32 [.tmp 6] (by kernel_rfl) Tryd.func54 rfl rfl rfl a l
theorem e55 : type_of% (ev_fn AN G 55 56 [.tmp 6] (by kernel_rfl) Tryd.func55 rfl rfl rfl a l) :=
 ev_fn AN G 55 56 [.tmp 6] (by kernel_rfl) Tryd.func55 rfl rfl rfl a l
theorem e57 : type_of% (ev_fn AN G 57 37 [.tmp 5] (by kernel_rfl) Tryd.func57 rfl rfl rfl a l) :=
 ev_fn AN G 57 37 [.tmp 5] (by kernel_rfl) Tryd.func57 rfl rfl rfl a l
theorem e58 : type_of% (ev_fn AN G 58 9 [.tmp 4] (by kernel_rfl) Tryd.func58 rfl rfl rfl a l) :=
 ev_fn AN G 58 9 [.tmp 4] (by kernel_rfl) Tryd.func58 rfl rfl rfl a l
theorem e59 : type_of% (ev_fn AN G 59 48 [.tmp 4] (by kernel_rfl) Tryd.func59 rfl rfl rfl a l) :=
 ev_fn AN G 59 48 [.tmp 4] (by kernel_rfl) Tryd.func59 rfl rfl rfl a l
theorem e62 : type_of% (ev_fn AN G 62 57 [.tmp 4] (by kernel_rfl) Tryd.func62 rfl rfl rfl a l) :=
 ev_fn AN G 62 57 [.tmp 4] (by kernel_rfl) Tryd.func62 rfl rfl rfl a l
theorem e63 : type_of% (ev_fn AN G 63 38 [.tmp 2] (by kernel_rfl) Tryd.func63 rfl rfl rfl a l) :=
 ev_fn AN G 63 38 [.tmp 2] (by kernel_rfl) Tryd.func63 rfl rfl rfl a l
theorem e64 : type_of% (ev_fn AN G 64 20 [.tmp 2] (by kernel_rfl) Tryd.func64 rfl rfl rfl a l) :=
 ev_fn AN G 64 20 [.tmp 2] (by kernel_rfl) Tryd.func64 rfl rfl rfl a l
theorem e66 : type_of% (ev_fn AN G 66 25 [.tmp 4] (by kernel_rfl) Tryd.func66 rfl rfl rfl a l) :=
 ev_fn AN G 66 25 [.tmp 4] (by kernel_rfl) Tryd.func66 rfl rfl rfl a l
theorem e67 : type_of% (ev_fn AN G 67 9 [.tmp 4] (by kernel_rfl) Tryd.func67 rfl rfl rfl a l) :=
 ev_fn AN G 67 9 [.tmp 4] (by kernel_rfl) Tryd.func67 rfl rfl rfl a l
theorem e68 : type_of% (ev_fn AN G 68 6 [.tmp 2] (by kernel_rfl) Tryd.func68 rfl rfl rfl a l) :=
 ev_fn AN G 68 6 [.tmp 2] (by kernel_rfl) Tryd.func68 rfl rfl rfl a l
theorem e69 : type_of% (ev_fn AN G 69 9 [.tmp 4] (by kernel_rfl) Tryd.func69 rfl rfl rfl a l) :=
 ev_fn AN G 69 9 [.tmp 4] (by kernel_rfl) Tryd.func69 rfl rfl rfl a l
theorem e70 : type_of% (ev_fn AN G 70 19 [.tmp 2] (by kernel_rfl) Tryd.func70 rfl rfl rfl a l) :=
 ev_fn AN G 70 19 [.tmp 2] (by kernel_rfl) Tryd.func70 rfl rfl rfl a l
theorem e71 : type_of% (ev_fn AN G 71 49 [.tmp 4] (by kernel_rfl) Tryd.func71 rfl rfl rfl a l) :=
 ev_fn AN G 71 49 [.tmp 4] (by kernel_rfl) Tryd.func71 rfl rfl rfl a l
theorem e72 : type_of% (ev_fn AN G 72 9 [.tmp 4] (by kernel_rfl) Tryd.func72 rfl rfl rfl a l) :=
 ev_fn AN G 72 9 [.tmp 4] (by kernel_rfl) Tryd.func72 rfl rfl rfl a l
theorem e73 : type_of% (ev_fn AN G 73 20 [] (by kernel_rfl) Tryd.func73 rfl rfl rfl a l) :=
 ev_fn AN G 73 20 [] (by kernel_rfl) Tryd.func73 rfl rfl rfl a l
theorem e74 : type_of% (ev_fn AN G 74 20 [.tmp 2] (by kernel_rfl) Tryd.func74 rfl rfl rfl a l) :=
 ev_fn AN G 74 20 [.tmp 2] (by kernel_rfl) Tryd.func74 rfl rfl rfl a l
theorem e75 : type_of% (ev_fn AN G 75 30 [.tmp 6] (by kernel_rfl) Tryd.func75 rfl rfl rfl a l) :=
 ev_fn AN G 75 30 [.tmp 6] (by kernel_rfl) Tryd.func75 rfl rfl rfl a l
theorem e76 : type_of% (ev_fn AN G 76 34 [.tmp 4] (by kernel_rfl) Tryd.func76 rfl rfl rfl a l) :=
 ev_fn AN G 76 34 [.tmp 4] (by kernel_rfl) Tryd.func76 rfl rfl rfl a l
theorem e77 : type_of% (ev_fn AN G 77 16 [] (by kernel_rfl) Tryd.func77 rfl rfl rfl a l) :=
 ev_fn AN G 77 16 [] (by kernel_rfl) Tryd.func77 rfl rfl rfl a l
theorem e78 : type_of% (ev_fn AN G 78 35 [.tmp 2] (by kernel_rfl) Tryd.func78 rfl rfl rfl a l) :=
 ev_fn AN G 78 35 [.tmp 2] (by kernel_rfl) Tryd.func78 rfl rfl rfl a l
theorem e79 : type_of% (ev_fn AN G 79 30 [.tmp 4, .tmp 5] (by kernel_rfl) Tryd.func79 rfl rfl rfl a l) :=
 ev_fn AN G 79 30 [.tmp 4, .tmp 5] (by kernel_rfl) Tryd.func79 rfl rfl rfl a l
theorem e80 : type_of% (ev_fn AN G 80 25 [.tmp 2] (by kernel_rfl) Tryd.func80 rfl rfl rfl a l) :=
 ev_fn AN G 80 25 [.tmp 2] (by kernel_rfl) Tryd.func80 rfl rfl rfl a l
theorem e81 : type_of% (ev_fn AN G 81 19 [.tmp 4] (by kernel_rfl) Tryd.func81 rfl rfl rfl a l) :=
 ev_fn AN G 81 19 [.tmp 4] (by kernel_rfl) Tryd.func81 rfl rfl rfl a l
theorem e82 : type_of% (ev_fn AN G 82 14 [.tmp 2] (by kernel_rfl) Tryd.func82 rfl rfl rfl a l) :=
 ev_fn AN G 82 14 [.tmp 2] (by kernel_rfl) Tryd.func82 rfl rfl rfl a l
theorem e83 : type_of% (ev_fn AN G 83 38 [.tmp 6] (by kernel_rfl) Tryd.func83 rfl rfl rfl a l) :=
 ev_fn AN G 83 38 [.tmp 6] (by kernel_rfl) Tryd.func83 rfl rfl rfl a l
theorem e84 : type_of% (ev_fn AN G 84 19 [.tmp 4] (by kernel_rfl) Tryd.func84 rfl rfl rfl a l) :=
 ev_fn AN G 84 19 [.tmp 4] (by kernel_rfl) Tryd.func84 rfl rfl rfl a l
theorem e85 : type_of% (ev_fn AN G 85 19 [.tmp 4] (by kernel_rfl) Tryd.func85 rfl rfl rfl a l) :=
 ev_fn AN G 85 19 [.tmp 4] (by kernel_rfl) Tryd.func85 rfl rfl rfl a l
theorem e86 : type_of% (ev_fn AN G 86 19 [.tmp 4] (by kernel_rfl) Tryd.func86 rfl rfl rfl a l) :=
 ev_fn AN G 86 19 [.tmp 4] (by kernel_rfl) Tryd.func86 rfl rfl rfl a l
theorem e87 : type_of% (ev_fn AN G 87 9 [.tmp 4] (by kernel_rfl) Tryd.func87 rfl rfl rfl a l) :=
 ev_fn AN G 87 9 [.tmp 4] (by kernel_rfl) Tryd.func87 rfl rfl rfl a l
theorem e88 : type_of% (ev_fn AN G 88 11 [.tmp 3] (by kernel_rfl) Tryd.func88 rfl rfl rfl a l) :=
 ev_fn AN G 88 11 [.tmp 3] (by kernel_rfl) Tryd.func88 rfl rfl rfl a l
theorem e89 : type_of% (ev_fn AN G 89 49 [.tmp 6, .tmp 7] (by kernel_rfl) Tryd.func89 rfl rfl rfl a l) :=
 ev_fn AN G 89 49 [.tmp 6, .tmp 7] (by kernel_rfl) Tryd.func89 rfl rfl rfl a l
theorem e90 : type_of% (ev_fn AN G 90 9 [.tmp 4] (by kernel_rfl) Tryd.func90 rfl rfl rfl a l) :=
 ev_fn AN G 90 9 [.tmp 4] (by kernel_rfl) Tryd.func90 rfl rfl rfl a l
theorem e92 : type_of% (ev_fn AN G 92 51 [.tmp 4, .tmp 5] (by kernel_rfl) Tryd.func92 rfl rfl rfl a l) :=
 ev_fn AN G 92 51 [.tmp 4, .tmp 5] (by kernel_rfl) Tryd.func92 rfl rfl rfl a l
theorem e93 : type_of% (ev_fn AN G 93 19 [.tmp 4] (by kernel_rfl) Tryd.func93 rfl rfl rfl a l) :=
 ev_fn AN G 93 19 [.tmp 4] (by kernel_rfl) Tryd.func93 rfl rfl rfl a l
end Go.Proofs.YtikppcfabnnhfaaDoor

/- Sets of numbers. -/
namespace Go.Proofs.YtikppcfabnnhfaaDoor
open Go Go.Aw
set_option linter.unusedSimpArgs false
set_option linter.unusedVariables false
set_option maxRecDepth 100000
set_option maxHeartbeats 40000000
def bitW (x j : Int) : Bool := bitsI .and .u64 (x.fdiv (2 ^ min j.toNat IntKind.u64.bits)) 1 == 1
def orW (x j : Int) : Int := bitsI .or .u64 x (IntKind.u64.wrap (1 * 2 ^ min j.toNat IntKind.u64.bits))
def hasW (l : List Int) (c : Nat) (n : Int) : Bool := bitW (l.getD (c + (n / 64).toNat) 0) (n % 64)
def addW (l : List Int) (c : Nat) (n : Int) : List Int := l.set (c + (n / 64).toNat) (orW (l.getD (c + (n / 64).toNat) 0) (n % 64))
theorem getU {l : List Int} {i : Nat} (h : i < l.length) : (l.map (AV.int .u64)).getD i .junk = .int .u64 (l.getD i 0) := by
 simp [List.getD_eq_getElem?_getD, List.getElem?_eq_getElem h]
theorem add_ev {l : List Int} {c : Nat} {n : Int} (h0 : 0 ≤ n) (h1 : n < 512) (hc : c + 8 ≤ l.length) :
  E.F 77 [.ptr 100000 0 c, .int .i64 n] [(100000, ⟨true, l.length, [.agg (l.map (AV.int .u64))]⟩)] = some ((.tup [], [(100000, ⟨true, l.length, [.agg ((addW l c n).map (AV.int .u64))]⟩)]), True) := by
 have e1 : n.tdiv 64 = n / 64 := Int.tdiv_eq_ediv_of_nonneg h0
 have e2 : n.tmod 64 = n % 64 := Int.tmod_eq_emod_of_nonneg h0
 have e3 : IntKind.i64.wrap (n / 64) = n / 64 := wrap_id (by omega) (by omega)
 have e4 : ((0 ≤ n / 64 /\ n / 64 < 8) /\ c + (n / 64).toNat < l.length) = True := eq_true (by omega)
 have e5 := getU (l := l) (i := c + (n / 64).toNat) (by omega)
 have e6 : (0 ≤ n % 64) = True := eq_true (by omega)
 rw [e77]
 unfold addW
 simp (maxSteps := 100000000) only [ivc, anf, vop, nilR, eq_self, Nat.reduceEqDiff, Nat.reduceLT, Nat.reduceLeDiff, Nat.reduceAdd, Nat.reduceBEq, Int.reduceEq, reduceCtorEq, ne_eq, ↓reduceIte, tyb, ldb, e1, e2, e3, e5, e6, agg_set]
 exact some_true (by omega)
structure Et where
 s : Int
 m : Int
def enV (e : Et) : AV := .agg [.int .i64 e.s, .int .i64 e.m]
instance rf_en : RowF enV := ⟨fun _ => rfl, fun _ => rfl⟩
def clV (c : List Et) : AV := .ro 2 (c.map enV)
instance rf_cl : RowF clV := ⟨fun _ => rfl, fun _ => rfl⟩
structure Bd where
 ss : List Int
 ms : List Int
 cs : List Int
def bdV (b : Bd) : AV := .agg [.ro 1 (b.ss.map (AV.int .i64)), .ro 1 (b.ms.map (AV.int .i64)), .ro 1 (b.cs.map (AV.int .i64))]
instance rf_bd : RowF bdV := ⟨fun _ => rfl, fun _ => rfl⟩
structure Wd where
 classes : List (List Et)
 bodies : List Bd
 roots : List Int
def wdV (w : Wd) : AV := .agg [.ro 1 (w.classes.map clV), .ro 3 (w.bodies.map bdV), .ro 1 (w.roots.map (AV.int .i64))]
def inR (n x : Int) : Bool := !(decide (x < 0) || decide (n ≤ x))
theorem w88 {x n : Int} : E.F 88 [.int .i64 x, .rop (.int .i64 n) 0] [] = some ((.bool (decide (x < 0) || decide (n ≤ x)), []), True) := by
 rw [e88]
 by_cases h : x < 0
 ·simp (maxSteps := 100000000) only [ivc, anf, nilR, eq_self, Nat.reduceEqDiff, Nat.reduceLT, Nat.reduceLeDiff, Nat.reduceAdd, Nat.reduceBEq, reduceCtorEq, ↓reduceIte, tyb, h]
 ·simp (maxSteps := 100000000) only [ivc, anf, nilR, eq_self, Nat.reduceEqDiff, Nat.reduceLT, Nat.reduceLeDiff, Nat.reduceAdd, Nat.reduceBEq, reduceCtorEq, ↓reduceIte, tyb, h]
theorem idx93_loop {l : List Int} {n : Int} (hl : l.length ≤ 1000000) : ∀ (r m : List Int), l = m ++ r ->
  ∃ v e : Int, E.L 93 3 [.ro 1 (l.map (AV.int .i64)), .fn (Fn.func 88) [] [.rop (.int .i64 n) 0], .int .i64 0, .int .i64 l.length, .int .i64 m.length] [] = some ((if r.all (inR n) then .exit 0 else .ret, [.ro 1 (l.map (AV.int .i64)), .fn (Fn.func 88) [] [.rop (.int .i64 n) 0], .int .i64 v, .int .i64 l.length, .int .i64 e], []), True) /\ 0 ≤ v := by
 intro r
 induction r with
 | nil =>
  intro m h
  rw [List.append_nil] at h
  subst h
  refine ⟨0, l.length, ?_, by omega⟩
  rw [l93_3]
  simp (maxSteps := 100000000) only [ivc, anf, nilR, eq_self, Nat.reduceEqDiff, Nat.reduceLT, Nat.reduceBEq, reduceCtorEq, ↓reduceIte, tyb, Int.lt_irrefl]
 | cons x r ih =>
  intro m h
  have hn : m.length + (r.length + 1) = l.length := by rw [h]; simp
  have hi' : (m.length : Int) < l.length := by omega
  have hg := getD_map (f := AV.int .i64) (show l[m.length]? = some x by rw [h]; simp)
  have hw : IntKind.i64.wrap ((m.length : Int) + 1) = m.length + 1 := wrap_id (by omega) (by omega)
  have hc : (0 ≤ (m.length : Int)) = True := eq_true (by omega)
  by_cases hx : (decide (x < 0) || decide (n ≤ x)) = true
  ·refine ⟨m.length, m.length, ?_, by omega⟩
   have hb := w88 (x := x) (n := n)
   rw [hx] at hb
   rw [l93_3]
   simp (maxSteps := 100000000) only [ivc, anf, nilR, eq_self, Nat.reduceEqDiff, Nat.reduceLT, Nat.reduceAdd, Nat.reduceMul, Nat.reduceBEq, reduceCtorEq, ↓reduceIte, tyb, hi', hg, hc, hb, inR, hx]
  ·obtain ⟨v, e, ih', hv⟩ := ih (m ++ [x]) (by simp [h])
   refine ⟨v, e, ?_, hv⟩
   simp only [List.length_append, List.length_cons, List.length_nil, Nat.zero_add, Int.natCast_add, Int.cast_ofNat_Int] at ih'
   have hx' : (decide (x < 0) || decide (n ≤ x)) = false := by simpa using hx
   have hb := w88 (x := x) (n := n)
   rw [hx'] at hb
   rw [l93_3]
   simp (maxSteps := 100000000) only [ivc, anf, nilR, eq_self, Nat.reduceEqDiff, Nat.reduceLT, Nat.reduceAdd, Nat.reduceMul, Nat.reduceBEq, reduceCtorEq, ↓reduceIte, tyb, hi', hg, hw, hc, hb, ih', inR, hx']
theorem within_ev {l : List Int} {n : Int} (hl : l.length ≤ 1000000) : E.F 72 [.ro 1 (l.map (AV.int .i64)), .int .i64 n] [] = some ((.bool (l.all (inR n)), []), True) := by
 obtain ⟨v, e, h, hv⟩ := idx93_loop (n := n) hl l [] rfl
 simp only [List.length_nil, Int.natCast_zero] at h
 have hv' : (decide (0 ≤ v)) = true := by simpa using hv
 rw [e72]
 by_cases ha : l.all (inR n) = true
 ·rw [ha] at h ⊢
  simp only [if_true] at h
  simp (maxSteps := 100000000) only [ivc, anf, vop, vlen, vbuiltin, nilR, salloc, eq_self, Nat.reduceEqDiff, Nat.reduceLT, Nat.reduceLeDiff, Nat.reduceAdd, Nat.reduceBEq, Int.reduceLE, Int.reduceNeg, reduceCtorEq, ↓reduceIte, tyb, e87, e93, h]
 ·have ha' : l.all (inR n) = false := by simpa using ha
  rw [ha'] at h ⊢
  simp only [Bool.false_eq_true, if_false] at h
  simp (maxSteps := 100000000) only [ivc, anf, vop, vlen, vbuiltin, nilR, salloc, eq_self, Nat.reduceEqDiff, Nat.reduceLT, Nat.reduceLeDiff, Nat.reduceAdd, Nat.reduceBEq, Int.reduceNeg, reduceCtorEq, ↓reduceIte, tyb, e87, e93, h, hv']
end Go.Proofs.YtikppcfabnnhfaaDoor

