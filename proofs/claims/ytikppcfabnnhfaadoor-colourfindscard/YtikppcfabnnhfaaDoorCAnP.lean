/- A part of the proof of ColourFindsCardSaid. -/
import Derived.Test.YtikppcfabnnhfaaDoorCAn
import Derived.Test.YtikppcfabnnhfaaDoorCAw5
namespace Go.Proofs.YtikppcfabnnhfaaDoor
open Go Go.Aw
noncomputable def givP : FuncId → List AV → HL → Option ((AV × HL) × Prop) := fun f a l => E.F f a l
noncomputable def ANP : Go.Aw.An := mkAn [12, 13, 20, 23, 26, 27, 30, 32, 33, 38, 41, 42, 47, 48, 50, 54, 57, 58, 60, 61, 62, 67, 69, 71, 72, 75, 80, 81, 84, 85, 86, 87, 93] [15, 28, 31, 36, 37, 53, 63, 64, 65, 66, 78, 82, 83] [59]
  [24, 59]
  [(24, 20, [1, 2, 8, 9, 10, 13, 26, 27, 72, 73, 74]), (24, 13, [1, 2, 8, 9, 10, 12, 13, 26, 27]), (24, 9, [1, 2, 8, 9, 10, 26, 27]), (59, 9, [7, 8])]
  [(24, 20, [(0, [], 1), (3, [], 1), (8, [], 2), (2, [0], 2)]), (24, 13, [(0, [], 1), (3, [], 1), (5, [], 2), (2, [0], 2)]), (24, 9, [(0, [], 1), (3, [], 1), (2, [0], 2)]), (59, 9, [(0, [], 2)])]
  []
  [(24, [(0, [], 2), (1, [], 1)]), (59, [(0, [], 2)])]
  [24, 59]
  [(24, 17, ([65, 1000014, 1000066], false, [8], [some 66])), (59, 9, ([], false, [], []))] [] [(59, 7), (59, 9)] givP
noncomputable abbrev EP : Sig := ev Tryd.prog G ANP
theorem ok24P : fchk Tryd.prog ANP 24 = true := by kernel_rfl
theorem ok59P : fchk Tryd.prog ANP 59 = true := by kernel_rfl
theorem evokP : EvOk Tryd.prog G ANP where
  chk f h := by
    have h : [24, 59].contains f = true := h
    have h := List.contains_iff_mem.1 h
    simp only [List.mem_cons, List.mem_nil_iff, or_false] at h
    rcases h with rfl | rfl
    · exact ok24P
    · exact ok59P
  pureG g := by
    by_cases h : g = 0
    · subst h; exact .inl (by kernel_rfl)
    · exact .inr (if_neg h)
  mixed := by kernel_rfl
  giv f a l r l' φ h hφ := ev_sound evok h hφ
theorem ab24P : ANP.bor 24 = false := by kernel_rfl
theorem ap24P : ANP.pur 24 = false := by kernel_rfl
theorem ao24P : ANP.ro 24 = false := by kernel_rfl
theorem af24P : ANP.frz 24 = true := by kernel_rfl
theorem aa24P : ANP.fra 24 = false := by kernel_rfl
theorem ar24P : ANP.res 24 = [(0, [], 2), (1, [], 1)] := by kernel_rfl
theorem ab26P : ANP.bor 26 = true := by kernel_rfl
theorem ap26P : ANP.pur 26 = false := by kernel_rfl
theorem ao26P : ANP.ro 26 = false := by kernel_rfl
theorem af26P : ANP.frz 26 = false := by kernel_rfl
theorem aa26P : ANP.fra 26 = false := by kernel_rfl
theorem ar26P : ANP.res 26 = [] := by kernel_rfl
theorem ab55P : ANP.bor 55 = false := by kernel_rfl
theorem ap55P : ANP.pur 55 = false := by kernel_rfl
theorem ao55P : ANP.ro 55 = false := by kernel_rfl
theorem af55P : ANP.frz 55 = false := by kernel_rfl
theorem aa55P : ANP.fra 55 = false := by kernel_rfl
theorem ar55P : ANP.res 55 = [] := by kernel_rfl
theorem ab57P : ANP.bor 57 = true := by kernel_rfl
theorem ap57P : ANP.pur 57 = false := by kernel_rfl
theorem ao57P : ANP.ro 57 = false := by kernel_rfl
theorem af57P : ANP.frz 57 = false := by kernel_rfl
theorem aa57P : ANP.fra 57 = false := by kernel_rfl
theorem ar57P : ANP.res 57 = [] := by kernel_rfl
theorem ab58P : ANP.bor 58 = true := by kernel_rfl
theorem ap58P : ANP.pur 58 = false := by kernel_rfl
theorem ao58P : ANP.ro 58 = false := by kernel_rfl
theorem af58P : ANP.frz 58 = false := by kernel_rfl
theorem aa58P : ANP.fra 58 = false := by kernel_rfl
theorem ar58P : ANP.res 58 = [] := by kernel_rfl
theorem ab59P : ANP.bor 59 = false := by kernel_rfl
theorem ap59P : ANP.pur 59 = false := by kernel_rfl
theorem ao59P : ANP.ro 59 = true := by kernel_rfl
theorem af59P : ANP.frz 59 = true := by kernel_rfl
theorem aa59P : ANP.fra 59 = false := by kernel_rfl
theorem ar59P : ANP.res 59 = [(0, [], 2)] := by kernel_rfl
theorem ab79P : ANP.bor 79 = false := by kernel_rfl
theorem ap79P : ANP.pur 79 = false := by kernel_rfl
theorem ao79P : ANP.ro 79 = false := by kernel_rfl
theorem af79P : ANP.frz 79 = false := by kernel_rfl
theorem aa79P : ANP.fra 79 = false := by kernel_rfl
theorem ar79P : ANP.res 79 = [] := by kernel_rfl
theorem ad24_17P : ANP.dr 24 17 = some ([65, 1000014, 1000066], false, [8], [some 66]) := by kernel_rfl
theorem ad59_9P : ANP.dr 59 9 = some ([], false, [], []) := by kernel_rfl
theorem ak24_20P : ANP.keep 24 20 = some [1, 2, 8, 9, 10, 13, 26, 27, 72, 73, 74] := by kernel_rfl
theorem ax24_20P : ANP.fix 24 20 = [(0, [], 1), (3, [], 1), (8, [], 2), (2, [0], 2)] := by kernel_rfl
theorem al24_20P : ANP.frl 24 20 = false := by kernel_rfl
theorem ak24_13P : ANP.keep 24 13 = some [1, 2, 8, 9, 10, 12, 13, 26, 27] := by kernel_rfl
theorem ax24_13P : ANP.fix 24 13 = [(0, [], 1), (3, [], 1), (5, [], 2), (2, [0], 2)] := by kernel_rfl
theorem al24_13P : ANP.frl 24 13 = false := by kernel_rfl
theorem ak24_9P : ANP.keep 24 9 = some [1, 2, 8, 9, 10, 26, 27] := by kernel_rfl
theorem ax24_9P : ANP.fix 24 9 = [(0, [], 1), (3, [], 1), (2, [0], 2)] := by kernel_rfl
theorem al24_9P : ANP.frl 24 9 = false := by kernel_rfl
theorem ak59_9P : ANP.keep 59 9 = some [7, 8] := by kernel_rfl
theorem ax59_9P : ANP.fix 59 9 = [(0, [], 2)] := by kernel_rfl
theorem al59_9P : ANP.frl 59 9 = false := by kernel_rfl
theorem acpP : ∀ f k, ANP.cp f k = has2 f k [(59, 7), (59, 9)] := fun _ _ => rfl
set_option maxRecDepth 100000
theorem anfP : type_of% @ab24P ∧ type_of% @ap24P ∧ type_of% @ao24P ∧ type_of% @af24P ∧ type_of% @aa24P ∧ type_of% @ar24P ∧ type_of% @ab26P ∧ type_of% @ap26P ∧ type_of% @ao26P ∧ type_of% @af26P ∧ type_of% @aa26P ∧ type_of% @ar26P ∧ type_of% @ab55P ∧ type_of% @ap55P ∧ type_of% @ao55P ∧ type_of% @af55P ∧ type_of% @aa55P ∧ type_of% @ar55P ∧ type_of% @ab57P ∧ type_of% @ap57P ∧ type_of% @ao57P ∧ type_of% @af57P ∧ type_of% @aa57P ∧ type_of% @ar57P ∧ type_of% @ab58P ∧ type_of% @ap58P ∧ type_of% @ao58P ∧ type_of% @af58P ∧ type_of% @aa58P ∧ type_of% @ar58P ∧ type_of% @ab59P ∧ type_of% @ap59P ∧ type_of% @ao59P ∧ type_of% @af59P ∧ type_of% @aa59P ∧ type_of% @ar59P ∧ type_of% @ab79P ∧ type_of% @ap79P ∧ type_of% @ao79P ∧ type_of% @af79P ∧ type_of% @aa79P ∧ type_of% @ar79P ∧ type_of% @ad24_17P ∧ type_of% @ad59_9P ∧ type_of% @ak24_20P ∧ type_of% @ax24_20P ∧ type_of% @al24_20P ∧ type_of% @ak24_13P ∧ type_of% @ax24_13P ∧ type_of% @al24_13P ∧ type_of% @ak24_9P ∧ type_of% @ax24_9P ∧ type_of% @al24_9P ∧ type_of% @ak59_9P ∧ type_of% @ax59_9P ∧ type_of% @al59_9P ∧ type_of% @acpP :=
  ⟨@ab24P, @ap24P, @ao24P, @af24P, @aa24P, @ar24P, @ab26P, @ap26P, @ao26P, @af26P, @aa26P, @ar26P, @ab55P, @ap55P, @ao55P, @af55P, @aa55P, @ar55P, @ab57P, @ap57P, @ao57P, @af57P, @aa57P, @ar57P, @ab58P, @ap58P, @ao58P, @af58P, @aa58P, @ar58P, @ab59P, @ap59P, @ao59P, @af59P, @aa59P, @ar59P, @ab79P, @ap79P, @ao79P, @af79P, @aa79P, @ar79P, @ad24_17P, @ad59_9P, @ak24_20P, @ax24_20P, @al24_20P, @ak24_13P, @ax24_13P, @al24_13P, @ak24_9P, @ax24_9P, @al24_9P, @ak59_9P, @ax59_9P, @al59_9P, @acpP⟩
theorem l24_20P (v : List AV) (l : HL) : type_of% (ev_loop (P := Tryd.prog) (G := G) (A := ANP) (f := 24) (key := 20) (n := 92) (keep := [1, 2, 8, 9, 10, 13, 26, 27, 72, 73, 74]) (by kernel_rfl) Tryd.func24 rfl rfl rfl (by kernel_rfl) v l) :=
  ev_loop (P := Tryd.prog) (G := G) (A := ANP) (f := 24) (key := 20) (n := 92) (keep := [1, 2, 8, 9, 10, 13, 26, 27, 72, 73, 74]) (by kernel_rfl) Tryd.func24 rfl rfl rfl (by kernel_rfl) v l
theorem l24_13P (v : List AV) (l : HL) : type_of% (ev_loop (P := Tryd.prog) (G := G) (A := ANP) (f := 24) (key := 13) (n := 92) (keep := [1, 2, 8, 9, 10, 12, 13, 26, 27]) (by kernel_rfl) Tryd.func24 rfl rfl rfl (by kernel_rfl) v l) :=
  ev_loop (P := Tryd.prog) (G := G) (A := ANP) (f := 24) (key := 13) (n := 92) (keep := [1, 2, 8, 9, 10, 12, 13, 26, 27]) (by kernel_rfl) Tryd.func24 rfl rfl rfl (by kernel_rfl) v l
theorem l24_9P (v : List AV) (l : HL) : type_of% (ev_loop (P := Tryd.prog) (G := G) (A := ANP) (f := 24) (key := 9) (n := 92) (keep := [1, 2, 8, 9, 10, 26, 27]) (by kernel_rfl) Tryd.func24 rfl rfl rfl (by kernel_rfl) v l) :=
  ev_loop (P := Tryd.prog) (G := G) (A := ANP) (f := 24) (key := 9) (n := 92) (keep := [1, 2, 8, 9, 10, 26, 27]) (by kernel_rfl) Tryd.func24 rfl rfl rfl (by kernel_rfl) v l
theorem l59_9P (v : List AV) (l : HL) : type_of% (ev_loop (P := Tryd.prog) (G := G) (A := ANP) (f := 59) (key := 9) (n := 48) (keep := [7, 8]) (by kernel_rfl) Tryd.func59 rfl rfl rfl (by kernel_rfl) v l) :=
  ev_loop (P := Tryd.prog) (G := G) (A := ANP) (f := 59) (key := 9) (n := 48) (keep := [7, 8]) (by kernel_rfl) Tryd.func59 rfl rfl rfl (by kernel_rfl) v l
theorem e24P (a : List AV) (l : HL) : type_of% (ev_fun (P := Tryd.prog) (G := G) (A := ANP) (f := 24) (n := 92) (rs := [.tmp 4, .tmp 5, .tmp 6]) (by kernel_rfl) Tryd.func24 rfl rfl rfl a l) :=
  ev_fun (P := Tryd.prog) (G := G) (A := ANP) (f := 24) (n := 92) (rs := [.tmp 4, .tmp 5, .tmp 6]) (by kernel_rfl) Tryd.func24 rfl rfl rfl a l
theorem e59P (a : List AV) (l : HL) : type_of% (ev_fun (P := Tryd.prog) (G := G) (A := ANP) (f := 59) (n := 48) (rs := [.tmp 4]) (by kernel_rfl) Tryd.func59 rfl rfl rfl a l) :=
  ev_fun (P := Tryd.prog) (G := G) (A := ANP) (f := 59) (n := 48) (rs := [.tmp 4]) (by kernel_rfl) Tryd.func59 rfl rfl rfl a l
theorem gv26P (a : List AV) (l : HL) : EP.F 26 a l = E.F 26 a l := ev_giv (by kernel_rfl) a l
theorem gv55P (a : List AV) (l : HL) : EP.F 55 a l = E.F 55 a l := ev_giv (by kernel_rfl) a l
theorem gv57P (a : List AV) (l : HL) : EP.F 57 a l = E.F 57 a l := ev_giv (by kernel_rfl) a l
theorem gv58P (a : List AV) (l : HL) : EP.F 58 a l = E.F 58 a l := ev_giv (by kernel_rfl) a l
theorem gv79P (a : List AV) (l : HL) : EP.F 79 a l = E.F 79 a l := ev_giv (by kernel_rfl) a l
end Go.Proofs.YtikppcfabnnhfaaDoor
