/- A part of the proof of ColourFindsCardSaid. -/
import Derived.Test.YtikppcfabnnhfaaDoorCAnP
import Derived.Test.YtikppcfabnnhfaaDoorCAw5
namespace Go.Proofs.YtikppcfabnnhfaaDoor
open Go Go.Aw
noncomputable def givL : FuncId → List AV → HL → Option ((AV × HL) × Prop) := fun f a l => if f = 24 then EP.F 24 a l else E.F f a l
noncomputable def ANL : Go.Aw.An := mkAn [12, 13, 15, 20, 23, 26, 27, 30, 32, 33, 38, 41, 42, 47, 48, 50, 54, 57, 58, 60, 61, 62, 67, 69, 71, 72, 75, 80, 81, 84, 85, 86, 87, 93] [28, 31, 36, 37, 53, 63, 64, 65, 66, 78, 82, 83] []
  [3, 4, 6, 7, 8, 9, 11]
  [(3, 6, [0, 1, 2, 3, 4, 11, 12]), (4, 10, [1, 2, 4, 5, 7, 8]), (6, 27, [5, 6, 7, 10, 13, 15, 16, 17]), (6, 23, [4, 5, 6, 7, 10, 13, 15]), (6, 19, [5, 6, 7, 10, 13, 14]), (7, 25, [1, 3, 5, 6, 7, 9, 10, 11, 12]), (7, 21, [1, 2, 3, 5, 6, 7, 9, 10]), (7, 17, [1, 2, 3, 5, 6, 7, 9]), (7, 12, [1, 3, 5, 6, 7, 8]), (8, 24, [1, 2, 5, 7, 8, 11, 12, 13]), (8, 20, [1, 2, 4, 5, 7, 8, 11]), (8, 15, [1, 2, 4, 5, 7, 8, 10]), (9, 16, [2, 12, 13, 14])]
  [(3, 6, [(0, [], 2), (1, [], 1), (2, [], 1), (5, [], 2)]), (4, 10, [(0, [], 2), (4, [0], 1)]), (6, 27, [(3, [], 1)]), (6, 23, [(4, [], 1)]), (6, 19, [(3, [], 1)]), (7, 25, [(1, [], 1), (2, [], 2), (3, [], 1)]), (7, 21, [(2, [], 1), (3, [], 2), (4, [], 1)]), (7, 17, [(2, [], 1), (3, [], 2), (4, [], 1)]), (7, 12, [(1, [], 1), (2, [], 2), (3, [], 1)]), (8, 24, [(0, [], 2), (2, [], 1), (3, [], 1), (4, [], 1)]), (8, 20, [(0, [], 2), (3, [], 1), (4, [], 1), (5, [], 1)]), (8, 15, [(0, [], 2), (3, [], 1), (4, [], 1), (5, [], 1)]), (9, 16, [(1, [], 2), (2, [], 2)])]
  []
  []
  [15, 17, 18, 21, 22, 24, 25, 28, 29, 31, 34, 35, 36, 37, 39, 53, 63, 64, 65, 66, 83]
  [(3, 7, ([45, 1000000, 1000034, 1000012, 1000035, 1000034, 1000035, 1000036, 1000036, 1000037, 1000000, 1000039, 1000012, 1000040, 1000039, 1000040, 1000041, 1000041, 1000042], false, [], [some 33, some 34, some 35, some 36, some 37, some 39, some 40, some 41, some 42])), (4, 11, ([53, 1000007, 1000046, 1000002, 1000048, 1000008, 1000050, 1000049, 1000050, 1000051, 1000007, 1000055], false, [7], [some 46, some 48, some 50, some 51, some 55])), (6, 4, ([], false, [], [])), (8, 16, ([], false, [], [])), (8, 25, ([], false, [], [])), (8, 26, ([], false, [], [])), (8, 29, ([1000002, 1000168, 1000169, 1000170, 1000172, 1000165], false, [], [some 167, some 168, some 170, some 165])), (9, 4, ([], false, [], [])), (9, 17, ([], false, [], []))] [17, 21, 24, 29, 34, 40] [] givL
noncomputable abbrev EL : Sig := ev Tryd.prog G ANL
theorem ok3L : fchk Tryd.prog ANL 3 = true := by kernel_rfl
theorem ok4L : fchk Tryd.prog ANL 4 = true := by kernel_rfl
theorem ok6L : fchk Tryd.prog ANL 6 = true := by kernel_rfl
theorem ok7L : fchk Tryd.prog ANL 7 = true := by kernel_rfl
theorem ok8L : fchk Tryd.prog ANL 8 = true := by kernel_rfl
theorem ok9L : fchk Tryd.prog ANL 9 = true := by kernel_rfl
theorem ok11L : fchk Tryd.prog ANL 11 = true := by kernel_rfl
theorem evokL : EvOk Tryd.prog G ANL where
  chk f h := by
    have h : [3, 4, 6, 7, 8, 9, 11].contains f = true := h
    have h := List.contains_iff_mem.1 h
    simp only [List.mem_cons, List.mem_nil_iff, or_false] at h
    rcases h with rfl | rfl | rfl | rfl | rfl | rfl | rfl
    · exact ok3L
    · exact ok4L
    · exact ok6L
    · exact ok7L
    · exact ok8L
    · exact ok9L
    · exact ok11L
  pureG g := by
    by_cases h : g = 0
    · subst h; exact .inl (by kernel_rfl)
    · exact .inr (if_neg h)
  mixed := by kernel_rfl
  giv f a l r l' φ h hφ := by
    by_cases e : f = 24
    · subst e; exact ev_sound evokP h hφ
    · have h' : givL f a l = some ((r, l'), φ) := h
      rw [givL, if_neg e] at h'
      exact ev_sound evok h' hφ
theorem ab3L : ANL.bor 3 = false := by kernel_rfl
theorem ap3L : ANL.pur 3 = false := by kernel_rfl
theorem ao3L : ANL.ro 3 = false := by kernel_rfl
theorem af3L : ANL.frz 3 = false := by kernel_rfl
theorem aa3L : ANL.fra 3 = false := by kernel_rfl
theorem ar3L : ANL.res 3 = [] := by kernel_rfl
theorem ab4L : ANL.bor 4 = false := by kernel_rfl
theorem ap4L : ANL.pur 4 = false := by kernel_rfl
theorem ao4L : ANL.ro 4 = false := by kernel_rfl
theorem af4L : ANL.frz 4 = false := by kernel_rfl
theorem aa4L : ANL.fra 4 = false := by kernel_rfl
theorem ar4L : ANL.res 4 = [] := by kernel_rfl
theorem ab6L : ANL.bor 6 = false := by kernel_rfl
theorem ap6L : ANL.pur 6 = false := by kernel_rfl
theorem ao6L : ANL.ro 6 = false := by kernel_rfl
theorem af6L : ANL.frz 6 = false := by kernel_rfl
theorem aa6L : ANL.fra 6 = false := by kernel_rfl
theorem ar6L : ANL.res 6 = [] := by kernel_rfl
theorem ab7L : ANL.bor 7 = false := by kernel_rfl
theorem ap7L : ANL.pur 7 = false := by kernel_rfl
theorem ao7L : ANL.ro 7 = false := by kernel_rfl
theorem af7L : ANL.frz 7 = false := by kernel_rfl
theorem aa7L : ANL.fra 7 = false := by kernel_rfl
theorem ar7L : ANL.res 7 = [] := by kernel_rfl
theorem ab8L : ANL.bor 8 = false := by kernel_rfl
theorem ap8L : ANL.pur 8 = false := by kernel_rfl
theorem ao8L : ANL.ro 8 = false := by kernel_rfl
theorem af8L : ANL.frz 8 = false := by kernel_rfl
theorem aa8L : ANL.fra 8 = false := by kernel_rfl
theorem ar8L : ANL.res 8 = [] := by kernel_rfl
theorem ab9L : ANL.bor 9 = false := by kernel_rfl
theorem ap9L : ANL.pur 9 = false := by kernel_rfl
theorem ao9L : ANL.ro 9 = false := by kernel_rfl
theorem af9L : ANL.frz 9 = false := by kernel_rfl
theorem aa9L : ANL.fra 9 = false := by kernel_rfl
theorem ar9L : ANL.res 9 = [] := by kernel_rfl
theorem ab11L : ANL.bor 11 = false := by kernel_rfl
theorem ap11L : ANL.pur 11 = false := by kernel_rfl
theorem ao11L : ANL.ro 11 = false := by kernel_rfl
theorem af11L : ANL.frz 11 = false := by kernel_rfl
theorem aa11L : ANL.fra 11 = false := by kernel_rfl
theorem ar11L : ANL.res 11 = [] := by kernel_rfl
theorem ab12L : ANL.bor 12 = true := by kernel_rfl
theorem ap12L : ANL.pur 12 = false := by kernel_rfl
theorem ao12L : ANL.ro 12 = false := by kernel_rfl
theorem af12L : ANL.frz 12 = false := by kernel_rfl
theorem aa12L : ANL.fra 12 = false := by kernel_rfl
theorem ar12L : ANL.res 12 = [] := by kernel_rfl
theorem ab13L : ANL.bor 13 = true := by kernel_rfl
theorem ap13L : ANL.pur 13 = false := by kernel_rfl
theorem ao13L : ANL.ro 13 = false := by kernel_rfl
theorem af13L : ANL.frz 13 = false := by kernel_rfl
theorem aa13L : ANL.fra 13 = false := by kernel_rfl
theorem ar13L : ANL.res 13 = [] := by kernel_rfl
theorem ab14L : ANL.bor 14 = false := by kernel_rfl
theorem ap14L : ANL.pur 14 = false := by kernel_rfl
theorem ao14L : ANL.ro 14 = false := by kernel_rfl
theorem af14L : ANL.frz 14 = false := by kernel_rfl
theorem aa14L : ANL.fra 14 = false := by kernel_rfl
theorem ar14L : ANL.res 14 = [] := by kernel_rfl
theorem ab15L : ANL.bor 15 = true := by kernel_rfl
theorem ap15L : ANL.pur 15 = false := by kernel_rfl
theorem ao15L : ANL.ro 15 = false := by kernel_rfl
theorem af15L : ANL.frz 15 = true := by kernel_rfl
theorem aa15L : ANL.fra 15 = false := by kernel_rfl
theorem ar15L : ANL.res 15 = [] := by kernel_rfl
theorem ab17L : ANL.bor 17 = false := by kernel_rfl
theorem ap17L : ANL.pur 17 = false := by kernel_rfl
theorem ao17L : ANL.ro 17 = false := by kernel_rfl
theorem af17L : ANL.frz 17 = true := by kernel_rfl
theorem aa17L : ANL.fra 17 = true := by kernel_rfl
theorem ar17L : ANL.res 17 = [] := by kernel_rfl
theorem ab18L : ANL.bor 18 = false := by kernel_rfl
theorem ap18L : ANL.pur 18 = false := by kernel_rfl
theorem ao18L : ANL.ro 18 = false := by kernel_rfl
theorem af18L : ANL.frz 18 = true := by kernel_rfl
theorem aa18L : ANL.fra 18 = false := by kernel_rfl
theorem ar18L : ANL.res 18 = [] := by kernel_rfl
theorem ab19L : ANL.bor 19 = false := by kernel_rfl
theorem ap19L : ANL.pur 19 = false := by kernel_rfl
theorem ao19L : ANL.ro 19 = false := by kernel_rfl
theorem af19L : ANL.frz 19 = false := by kernel_rfl
theorem aa19L : ANL.fra 19 = false := by kernel_rfl
theorem ar19L : ANL.res 19 = [] := by kernel_rfl
theorem ab20L : ANL.bor 20 = true := by kernel_rfl
theorem ap20L : ANL.pur 20 = false := by kernel_rfl
theorem ao20L : ANL.ro 20 = false := by kernel_rfl
theorem af20L : ANL.frz 20 = false := by kernel_rfl
theorem aa20L : ANL.fra 20 = false := by kernel_rfl
theorem ar20L : ANL.res 20 = [] := by kernel_rfl
theorem ab21L : ANL.bor 21 = false := by kernel_rfl
theorem ap21L : ANL.pur 21 = false := by kernel_rfl
theorem ao21L : ANL.ro 21 = false := by kernel_rfl
theorem af21L : ANL.frz 21 = true := by kernel_rfl
theorem aa21L : ANL.fra 21 = true := by kernel_rfl
theorem ar21L : ANL.res 21 = [] := by kernel_rfl
theorem ab22L : ANL.bor 22 = false := by kernel_rfl
theorem ap22L : ANL.pur 22 = false := by kernel_rfl
theorem ao22L : ANL.ro 22 = false := by kernel_rfl
theorem af22L : ANL.frz 22 = true := by kernel_rfl
theorem aa22L : ANL.fra 22 = false := by kernel_rfl
theorem ar22L : ANL.res 22 = [] := by kernel_rfl
theorem ab24L : ANL.bor 24 = false := by kernel_rfl
theorem ap24L : ANL.pur 24 = false := by kernel_rfl
theorem ao24L : ANL.ro 24 = false := by kernel_rfl
theorem af24L : ANL.frz 24 = true := by kernel_rfl
theorem aa24L : ANL.fra 24 = true := by kernel_rfl
theorem ar24L : ANL.res 24 = [] := by kernel_rfl
theorem ab25L : ANL.bor 25 = false := by kernel_rfl
theorem ap25L : ANL.pur 25 = false := by kernel_rfl
theorem ao25L : ANL.ro 25 = false := by kernel_rfl
theorem af25L : ANL.frz 25 = true := by kernel_rfl
theorem aa25L : ANL.fra 25 = false := by kernel_rfl
theorem ar25L : ANL.res 25 = [] := by kernel_rfl
theorem ab26L : ANL.bor 26 = true := by kernel_rfl
theorem ap26L : ANL.pur 26 = false := by kernel_rfl
theorem ao26L : ANL.ro 26 = false := by kernel_rfl
theorem af26L : ANL.frz 26 = false := by kernel_rfl
theorem aa26L : ANL.fra 26 = false := by kernel_rfl
theorem ar26L : ANL.res 26 = [] := by kernel_rfl
theorem ab27L : ANL.bor 27 = true := by kernel_rfl
theorem ap27L : ANL.pur 27 = false := by kernel_rfl
theorem ao27L : ANL.ro 27 = false := by kernel_rfl
theorem af27L : ANL.frz 27 = false := by kernel_rfl
theorem aa27L : ANL.fra 27 = false := by kernel_rfl
theorem ar27L : ANL.res 27 = [] := by kernel_rfl
theorem ab28L : ANL.bor 28 = false := by kernel_rfl
theorem ap28L : ANL.pur 28 = true := by kernel_rfl
theorem ao28L : ANL.ro 28 = false := by kernel_rfl
theorem af28L : ANL.frz 28 = true := by kernel_rfl
theorem aa28L : ANL.fra 28 = false := by kernel_rfl
theorem ar28L : ANL.res 28 = [] := by kernel_rfl
theorem ab29L : ANL.bor 29 = false := by kernel_rfl
theorem ap29L : ANL.pur 29 = false := by kernel_rfl
theorem ao29L : ANL.ro 29 = false := by kernel_rfl
theorem af29L : ANL.frz 29 = true := by kernel_rfl
theorem aa29L : ANL.fra 29 = true := by kernel_rfl
theorem ar29L : ANL.res 29 = [] := by kernel_rfl
theorem ab31L : ANL.bor 31 = false := by kernel_rfl
theorem ap31L : ANL.pur 31 = true := by kernel_rfl
theorem ao31L : ANL.ro 31 = false := by kernel_rfl
theorem af31L : ANL.frz 31 = true := by kernel_rfl
theorem aa31L : ANL.fra 31 = false := by kernel_rfl
theorem ar31L : ANL.res 31 = [] := by kernel_rfl
theorem ab32L : ANL.bor 32 = true := by kernel_rfl
theorem ap32L : ANL.pur 32 = false := by kernel_rfl
theorem ao32L : ANL.ro 32 = false := by kernel_rfl
theorem af32L : ANL.frz 32 = false := by kernel_rfl
theorem aa32L : ANL.fra 32 = false := by kernel_rfl
theorem ar32L : ANL.res 32 = [] := by kernel_rfl
theorem ab33L : ANL.bor 33 = true := by kernel_rfl
theorem ap33L : ANL.pur 33 = false := by kernel_rfl
theorem ao33L : ANL.ro 33 = false := by kernel_rfl
theorem af33L : ANL.frz 33 = false := by kernel_rfl
theorem aa33L : ANL.fra 33 = false := by kernel_rfl
theorem ar33L : ANL.res 33 = [] := by kernel_rfl
theorem ab34L : ANL.bor 34 = false := by kernel_rfl
theorem ap34L : ANL.pur 34 = false := by kernel_rfl
theorem ao34L : ANL.ro 34 = false := by kernel_rfl
theorem af34L : ANL.frz 34 = true := by kernel_rfl
theorem aa34L : ANL.fra 34 = true := by kernel_rfl
theorem ar34L : ANL.res 34 = [] := by kernel_rfl
theorem ab36L : ANL.bor 36 = false := by kernel_rfl
theorem ap36L : ANL.pur 36 = true := by kernel_rfl
theorem ao36L : ANL.ro 36 = false := by kernel_rfl
theorem af36L : ANL.frz 36 = true := by kernel_rfl
theorem aa36L : ANL.fra 36 = false := by kernel_rfl
theorem ar36L : ANL.res 36 = [] := by kernel_rfl
theorem ab37L : ANL.bor 37 = false := by kernel_rfl
theorem ap37L : ANL.pur 37 = true := by kernel_rfl
theorem ao37L : ANL.ro 37 = false := by kernel_rfl
theorem af37L : ANL.frz 37 = true := by kernel_rfl
theorem aa37L : ANL.fra 37 = false := by kernel_rfl
theorem ar37L : ANL.res 37 = [] := by kernel_rfl
theorem ab39L : ANL.bor 39 = false := by kernel_rfl
theorem ap39L : ANL.pur 39 = false := by kernel_rfl
theorem ao39L : ANL.ro 39 = false := by kernel_rfl
theorem af39L : ANL.frz 39 = true := by kernel_rfl
theorem aa39L : ANL.fra 39 = false := by kernel_rfl
theorem ar39L : ANL.res 39 = [] := by kernel_rfl
theorem ad3_7L : ANL.dr 3 7 = some ([45, 1000000, 1000034, 1000012, 1000035, 1000034, 1000035, 1000036, 1000036, 1000037, 1000000, 1000039, 1000012, 1000040, 1000039, 1000040, 1000041, 1000041, 1000042], false, [], [some 33, some 34, some 35, some 36, some 37, some 39, some 40, some 41, some 42]) := by kernel_rfl
theorem ad4_11L : ANL.dr 4 11 = some ([53, 1000007, 1000046, 1000002, 1000048, 1000008, 1000050, 1000049, 1000050, 1000051, 1000007, 1000055], false, [7], [some 46, some 48, some 50, some 51, some 55]) := by kernel_rfl
theorem ad6_4L : ANL.dr 6 4 = some ([], false, [], []) := by kernel_rfl
theorem ad8_16L : ANL.dr 8 16 = some ([], false, [], []) := by kernel_rfl
theorem ad8_25L : ANL.dr 8 25 = some ([], false, [], []) := by kernel_rfl
theorem ad8_26L : ANL.dr 8 26 = some ([], false, [], []) := by kernel_rfl
theorem ad8_29L : ANL.dr 8 29 = some ([1000002, 1000168, 1000169, 1000170, 1000172, 1000165], false, [], [some 167, some 168, some 170, some 165]) := by kernel_rfl
theorem ad9_4L : ANL.dr 9 4 = some ([], false, [], []) := by kernel_rfl
theorem ad9_17L : ANL.dr 9 17 = some ([], false, [], []) := by kernel_rfl
theorem ak3_6L : ANL.keep 3 6 = some [0, 1, 2, 3, 4, 11, 12] := by kernel_rfl
theorem ax3_6L : ANL.fix 3 6 = [(0, [], 2), (1, [], 1), (2, [], 1), (5, [], 2)] := by kernel_rfl
theorem al3_6L : ANL.frl 3 6 = false := by kernel_rfl
theorem ak4_10L : ANL.keep 4 10 = some [1, 2, 4, 5, 7, 8] := by kernel_rfl
theorem ax4_10L : ANL.fix 4 10 = [(0, [], 2), (4, [0], 1)] := by kernel_rfl
theorem al4_10L : ANL.frl 4 10 = false := by kernel_rfl
theorem ak6_27L : ANL.keep 6 27 = some [5, 6, 7, 10, 13, 15, 16, 17] := by kernel_rfl
theorem ax6_27L : ANL.fix 6 27 = [(3, [], 1)] := by kernel_rfl
theorem al6_27L : ANL.frl 6 27 = false := by kernel_rfl
theorem ak6_23L : ANL.keep 6 23 = some [4, 5, 6, 7, 10, 13, 15] := by kernel_rfl
theorem ax6_23L : ANL.fix 6 23 = [(4, [], 1)] := by kernel_rfl
theorem al6_23L : ANL.frl 6 23 = false := by kernel_rfl
theorem ak6_19L : ANL.keep 6 19 = some [5, 6, 7, 10, 13, 14] := by kernel_rfl
theorem ax6_19L : ANL.fix 6 19 = [(3, [], 1)] := by kernel_rfl
theorem al6_19L : ANL.frl 6 19 = false := by kernel_rfl
theorem ak7_25L : ANL.keep 7 25 = some [1, 3, 5, 6, 7, 9, 10, 11, 12] := by kernel_rfl
theorem ax7_25L : ANL.fix 7 25 = [(1, [], 1), (2, [], 2), (3, [], 1)] := by kernel_rfl
theorem al7_25L : ANL.frl 7 25 = false := by kernel_rfl
theorem ak7_21L : ANL.keep 7 21 = some [1, 2, 3, 5, 6, 7, 9, 10] := by kernel_rfl
theorem ax7_21L : ANL.fix 7 21 = [(2, [], 1), (3, [], 2), (4, [], 1)] := by kernel_rfl
theorem al7_21L : ANL.frl 7 21 = false := by kernel_rfl
theorem ak7_17L : ANL.keep 7 17 = some [1, 2, 3, 5, 6, 7, 9] := by kernel_rfl
theorem ax7_17L : ANL.fix 7 17 = [(2, [], 1), (3, [], 2), (4, [], 1)] := by kernel_rfl
theorem al7_17L : ANL.frl 7 17 = false := by kernel_rfl
theorem ak7_12L : ANL.keep 7 12 = some [1, 3, 5, 6, 7, 8] := by kernel_rfl
theorem ax7_12L : ANL.fix 7 12 = [(1, [], 1), (2, [], 2), (3, [], 1)] := by kernel_rfl
theorem al7_12L : ANL.frl 7 12 = false := by kernel_rfl
theorem ak8_24L : ANL.keep 8 24 = some [1, 2, 5, 7, 8, 11, 12, 13] := by kernel_rfl
theorem ax8_24L : ANL.fix 8 24 = [(0, [], 2), (2, [], 1), (3, [], 1), (4, [], 1)] := by kernel_rfl
theorem al8_24L : ANL.frl 8 24 = false := by kernel_rfl
theorem ak8_20L : ANL.keep 8 20 = some [1, 2, 4, 5, 7, 8, 11] := by kernel_rfl
theorem ax8_20L : ANL.fix 8 20 = [(0, [], 2), (3, [], 1), (4, [], 1), (5, [], 1)] := by kernel_rfl
theorem al8_20L : ANL.frl 8 20 = false := by kernel_rfl
theorem ak8_15L : ANL.keep 8 15 = some [1, 2, 4, 5, 7, 8, 10] := by kernel_rfl
theorem ax8_15L : ANL.fix 8 15 = [(0, [], 2), (3, [], 1), (4, [], 1), (5, [], 1)] := by kernel_rfl
theorem al8_15L : ANL.frl 8 15 = false := by kernel_rfl
theorem ak9_16L : ANL.keep 9 16 = some [2, 12, 13, 14] := by kernel_rfl
theorem ax9_16L : ANL.fix 9 16 = [(1, [], 2), (2, [], 2)] := by kernel_rfl
theorem al9_16L : ANL.frl 9 16 = false := by kernel_rfl
theorem acpL : ∀ f k, ANL.cp f k = has2 f k [] := fun _ _ => rfl
set_option maxRecDepth 100000
theorem anfL : type_of% @ab3L ∧ type_of% @ap3L ∧ type_of% @ao3L ∧ type_of% @af3L ∧ type_of% @aa3L ∧ type_of% @ar3L ∧ type_of% @ab4L ∧ type_of% @ap4L ∧ type_of% @ao4L ∧ type_of% @af4L ∧ type_of% @aa4L ∧ type_of% @ar4L ∧ type_of% @ab6L ∧ type_of% @ap6L ∧ type_of% @ao6L ∧ type_of% @af6L ∧ type_of% @aa6L ∧ type_of% @ar6L ∧ type_of% @ab7L ∧ type_of% @ap7L ∧ type_of% @ao7L ∧ type_of% @af7L ∧ type_of% @aa7L ∧ type_of% @ar7L ∧ type_of% @ab8L ∧ type_of% @ap8L ∧ type_of% @ao8L ∧ type_of% @af8L ∧ type_of% @aa8L ∧ type_of% @ar8L ∧ type_of% @ab9L ∧ type_of% @ap9L ∧ type_of% @ao9L ∧ type_of% @af9L ∧ type_of% @aa9L ∧ type_of% @ar9L ∧ type_of% @ab11L ∧ type_of% @ap11L ∧ type_of% @ao11L ∧ type_of% @af11L ∧ type_of% @aa11L ∧ type_of% @ar11L ∧ type_of% @ab12L ∧ type_of% @ap12L ∧ type_of% @ao12L ∧ type_of% @af12L ∧ type_of% @aa12L ∧ type_of% @ar12L ∧ type_of% @ab13L ∧ type_of% @ap13L ∧ type_of% @ao13L ∧ type_of% @af13L ∧ type_of% @aa13L ∧ type_of% @ar13L ∧ type_of% @ab14L ∧ type_of% @ap14L ∧ type_of% @ao14L ∧ type_of% @af14L ∧ type_of% @aa14L ∧ type_of% @ar14L ∧ type_of% @ab15L ∧ type_of% @ap15L ∧ type_of% @ao15L ∧ type_of% @af15L ∧ type_of% @aa15L ∧ type_of% @ar15L ∧ type_of% @ab17L ∧ type_of% @ap17L ∧ type_of% @ao17L ∧ type_of% @af17L ∧ type_of% @aa17L ∧ type_of% @ar17L ∧ type_of% @ab18L ∧ type_of% @ap18L ∧ type_of% @ao18L ∧ type_of% @af18L ∧ type_of% @aa18L ∧ type_of% @ar18L ∧ type_of% @ab19L ∧ type_of% @ap19L ∧ type_of% @ao19L ∧ type_of% @af19L ∧ type_of% @aa19L ∧ type_of% @ar19L ∧ type_of% @ab20L ∧ type_of% @ap20L ∧ type_of% @ao20L ∧ type_of% @af20L ∧ type_of% @aa20L ∧ type_of% @ar20L ∧ type_of% @ab21L ∧ type_of% @ap21L ∧ type_of% @ao21L ∧ type_of% @af21L ∧ type_of% @aa21L ∧ type_of% @ar21L ∧ type_of% @ab22L ∧ type_of% @ap22L ∧ type_of% @ao22L ∧ type_of% @af22L ∧ type_of% @aa22L ∧ type_of% @ar22L ∧ type_of% @ab24L ∧ type_of% @ap24L ∧ type_of% @ao24L ∧ type_of% @af24L ∧ type_of% @aa24L ∧ type_of% @ar24L ∧ type_of% @ab25L ∧ type_of% @ap25L ∧ type_of% @ao25L ∧ type_of% @af25L ∧ type_of% @aa25L ∧ type_of% @ar25L ∧ type_of% @ab26L ∧ type_of% @ap26L ∧ type_of% @ao26L ∧ type_of% @af26L ∧ type_of% @aa26L ∧ type_of% @ar26L ∧ type_of% @ab27L ∧ type_of% @ap27L ∧ type_of% @ao27L ∧ type_of% @af27L ∧ type_of% @aa27L ∧ type_of% @ar27L ∧ type_of% @ab28L ∧ type_of% @ap28L ∧ type_of% @ao28L ∧ type_of% @af28L ∧ type_of% @aa28L ∧ type_of% @ar28L ∧ type_of% @ab29L ∧ type_of% @ap29L ∧ type_of% @ao29L ∧ type_of% @af29L ∧ type_of% @aa29L ∧ type_of% @ar29L ∧ type_of% @ab31L ∧ type_of% @ap31L ∧ type_of% @ao31L ∧ type_of% @af31L ∧ type_of% @aa31L ∧ type_of% @ar31L ∧ type_of% @ab32L ∧ type_of% @ap32L ∧ type_of% @ao32L ∧ type_of% @af32L ∧ type_of% @aa32L ∧ type_of% @ar32L ∧ type_of% @ab33L ∧ type_of% @ap33L ∧ type_of% @ao33L ∧ type_of% @af33L ∧ type_of% @aa33L ∧ type_of% @ar33L ∧ type_of% @ab34L ∧ type_of% @ap34L ∧ type_of% @ao34L ∧ type_of% @af34L ∧ type_of% @aa34L ∧ type_of% @ar34L ∧ type_of% @ab36L ∧ type_of% @ap36L ∧ type_of% @ao36L ∧ type_of% @af36L ∧ type_of% @aa36L ∧ type_of% @ar36L ∧ type_of% @ab37L ∧ type_of% @ap37L ∧ type_of% @ao37L ∧ type_of% @af37L ∧ type_of% @aa37L ∧ type_of% @ar37L ∧ type_of% @ab39L ∧ type_of% @ap39L ∧ type_of% @ao39L ∧ type_of% @af39L ∧ type_of% @aa39L ∧ type_of% @ar39L ∧ type_of% @ad3_7L ∧ type_of% @ad4_11L ∧ type_of% @ad6_4L ∧ type_of% @ad8_16L ∧ type_of% @ad8_25L ∧ type_of% @ad8_26L ∧ type_of% @ad8_29L ∧ type_of% @ad9_4L ∧ type_of% @ad9_17L ∧ type_of% @ak3_6L ∧ type_of% @ax3_6L ∧ type_of% @al3_6L ∧ type_of% @ak4_10L ∧ type_of% @ax4_10L ∧ type_of% @al4_10L ∧ type_of% @ak6_27L ∧ type_of% @ax6_27L ∧ type_of% @al6_27L ∧ type_of% @ak6_23L ∧ type_of% @ax6_23L ∧ type_of% @al6_23L ∧ type_of% @ak6_19L ∧ type_of% @ax6_19L ∧ type_of% @al6_19L ∧ type_of% @ak7_25L ∧ type_of% @ax7_25L ∧ type_of% @al7_25L ∧ type_of% @ak7_21L ∧ type_of% @ax7_21L ∧ type_of% @al7_21L ∧ type_of% @ak7_17L ∧ type_of% @ax7_17L ∧ type_of% @al7_17L ∧ type_of% @ak7_12L ∧ type_of% @ax7_12L ∧ type_of% @al7_12L ∧ type_of% @ak8_24L ∧ type_of% @ax8_24L ∧ type_of% @al8_24L ∧ type_of% @ak8_20L ∧ type_of% @ax8_20L ∧ type_of% @al8_20L ∧ type_of% @ak8_15L ∧ type_of% @ax8_15L ∧ type_of% @al8_15L ∧ type_of% @ak9_16L ∧ type_of% @ax9_16L ∧ type_of% @al9_16L ∧ type_of% @acpL :=
  ⟨@ab3L, @ap3L, @ao3L, @af3L, @aa3L, @ar3L, @ab4L, @ap4L, @ao4L, @af4L, @aa4L, @ar4L, @ab6L, @ap6L, @ao6L, @af6L, @aa6L, @ar6L, @ab7L, @ap7L, @ao7L, @af7L, @aa7L, @ar7L, @ab8L, @ap8L, @ao8L, @af8L, @aa8L, @ar8L, @ab9L, @ap9L, @ao9L, @af9L, @aa9L, @ar9L, @ab11L, @ap11L, @ao11L, @af11L, @aa11L, @ar11L, @ab12L, @ap12L, @ao12L, @af12L, @aa12L, @ar12L, @ab13L, @ap13L, @ao13L, @af13L, @aa13L, @ar13L, @ab14L, @ap14L, @ao14L, @af14L, @aa14L, @ar14L, @ab15L, @ap15L, @ao15L, @af15L, @aa15L, @ar15L, @ab17L, @ap17L, @ao17L, @af17L, @aa17L, @ar17L, @ab18L, @ap18L, @ao18L, @af18L, @aa18L, @ar18L, @ab19L, @ap19L, @ao19L, @af19L, @aa19L, @ar19L, @ab20L, @ap20L, @ao20L, @af20L, @aa20L, @ar20L, @ab21L, @ap21L, @ao21L, @af21L, @aa21L, @ar21L, @ab22L, @ap22L, @ao22L, @af22L, @aa22L, @ar22L, @ab24L, @ap24L, @ao24L, @af24L, @aa24L, @ar24L, @ab25L, @ap25L, @ao25L, @af25L, @aa25L, @ar25L, @ab26L, @ap26L, @ao26L, @af26L, @aa26L, @ar26L, @ab27L, @ap27L, @ao27L, @af27L, @aa27L, @ar27L, @ab28L, @ap28L, @ao28L, @af28L, @aa28L, @ar28L, @ab29L, @ap29L, @ao29L, @af29L, @aa29L, @ar29L, @ab31L, @ap31L, @ao31L, @af31L, @aa31L, @ar31L, @ab32L, @ap32L, @ao32L, @af32L, @aa32L, @ar32L, @ab33L, @ap33L, @ao33L, @af33L, @aa33L, @ar33L, @ab34L, @ap34L, @ao34L, @af34L, @aa34L, @ar34L, @ab36L, @ap36L, @ao36L, @af36L, @aa36L, @ar36L, @ab37L, @ap37L, @ao37L, @af37L, @aa37L, @ar37L, @ab39L, @ap39L, @ao39L, @af39L, @aa39L, @ar39L, @ad3_7L, @ad4_11L, @ad6_4L, @ad8_16L, @ad8_25L, @ad8_26L, @ad8_29L, @ad9_4L, @ad9_17L, @ak3_6L, @ax3_6L, @al3_6L, @ak4_10L, @ax4_10L, @al4_10L, @ak6_27L, @ax6_27L, @al6_27L, @ak6_23L, @ax6_23L, @al6_23L, @ak6_19L, @ax6_19L, @al6_19L, @ak7_25L, @ax7_25L, @al7_25L, @ak7_21L, @ax7_21L, @al7_21L, @ak7_17L, @ax7_17L, @al7_17L, @ak7_12L, @ax7_12L, @al7_12L, @ak8_24L, @ax8_24L, @al8_24L, @ak8_20L, @ax8_20L, @al8_20L, @ak8_15L, @ax8_15L, @al8_15L, @ak9_16L, @ax9_16L, @al9_16L, @acpL⟩
theorem l7_25L (v : List AV) (l : HL) : type_of% (ev_loop (P := Tryd.prog) (G := G) (A := ANL) (f := 7) (key := 25) (n := 121) (keep := [1, 3, 5, 6, 7, 9, 10, 11, 12]) (by kernel_rfl) Tryd.func7 rfl rfl rfl (by kernel_rfl) v l) :=
  ev_loop (P := Tryd.prog) (G := G) (A := ANL) (f := 7) (key := 25) (n := 121) (keep := [1, 3, 5, 6, 7, 9, 10, 11, 12]) (by kernel_rfl) Tryd.func7 rfl rfl rfl (by kernel_rfl) v l
theorem l7_21L (v : List AV) (l : HL) : type_of% (ev_loop (P := Tryd.prog) (G := G) (A := ANL) (f := 7) (key := 21) (n := 121) (keep := [1, 2, 3, 5, 6, 7, 9, 10]) (by kernel_rfl) Tryd.func7 rfl rfl rfl (by kernel_rfl) v l) :=
  ev_loop (P := Tryd.prog) (G := G) (A := ANL) (f := 7) (key := 21) (n := 121) (keep := [1, 2, 3, 5, 6, 7, 9, 10]) (by kernel_rfl) Tryd.func7 rfl rfl rfl (by kernel_rfl) v l
theorem l7_17L (v : List AV) (l : HL) : type_of% (ev_loop (P := Tryd.prog) (G := G) (A := ANL) (f := 7) (key := 17) (n := 121) (keep := [1, 2, 3, 5, 6, 7, 9]) (by kernel_rfl) Tryd.func7 rfl rfl rfl (by kernel_rfl) v l) :=
  ev_loop (P := Tryd.prog) (G := G) (A := ANL) (f := 7) (key := 17) (n := 121) (keep := [1, 2, 3, 5, 6, 7, 9]) (by kernel_rfl) Tryd.func7 rfl rfl rfl (by kernel_rfl) v l
theorem l7_12L (v : List AV) (l : HL) : type_of% (ev_loop (P := Tryd.prog) (G := G) (A := ANL) (f := 7) (key := 12) (n := 121) (keep := [1, 3, 5, 6, 7, 8]) (by kernel_rfl) Tryd.func7 rfl rfl rfl (by kernel_rfl) v l) :=
  ev_loop (P := Tryd.prog) (G := G) (A := ANL) (f := 7) (key := 12) (n := 121) (keep := [1, 3, 5, 6, 7, 8]) (by kernel_rfl) Tryd.func7 rfl rfl rfl (by kernel_rfl) v l
theorem e7L (a : List AV) (l : HL) : type_of% (ev_fun (P := Tryd.prog) (G := G) (A := ANL) (f := 7) (n := 121) (rs := [.tmp 2]) (by kernel_rfl) Tryd.func7 rfl rfl rfl a l) :=
  ev_fun (P := Tryd.prog) (G := G) (A := ANL) (f := 7) (n := 121) (rs := [.tmp 2]) (by kernel_rfl) Tryd.func7 rfl rfl rfl a l
theorem e11L (a : List AV) (l : HL) : type_of% (ev_fun (P := Tryd.prog) (G := G) (A := ANL) (f := 11) (n := 97) (rs := [.tmp 0]) (by kernel_rfl) Tryd.func11 rfl rfl rfl a l) :=
  ev_fun (P := Tryd.prog) (G := G) (A := ANL) (f := 11) (n := 97) (rs := [.tmp 0]) (by kernel_rfl) Tryd.func11 rfl rfl rfl a l
theorem gv12L (a : List AV) (l : HL) : EL.F 12 a l = E.F 12 a l := ev_giv (by kernel_rfl) a l
theorem gv14L (a : List AV) (l : HL) : EL.F 14 a l = E.F 14 a l := ev_giv (by kernel_rfl) a l
theorem gv15L (a : List AV) (l : HL) : EL.F 15 a l = E.F 15 a l := ev_giv (by kernel_rfl) a l
theorem gv17L (a : List AV) (l : HL) : EL.F 17 a l = E.F 17 a l := ev_giv (by kernel_rfl) a l
theorem gv20L (a : List AV) (l : HL) : EL.F 20 a l = E.F 20 a l := ev_giv (by kernel_rfl) a l
theorem gv29L (a : List AV) (l : HL) : EL.F 29 a l = E.F 29 a l := ev_giv (by kernel_rfl) a l
theorem gv36L (a : List AV) (l : HL) : EL.F 36 a l = E.F 36 a l := ev_giv (by kernel_rfl) a l
theorem gv39L (a : List AV) (l : HL) : EL.F 39 a l = E.F 39 a l := ev_giv (by kernel_rfl) a l
end Go.Proofs.YtikppcfabnnhfaaDoor
