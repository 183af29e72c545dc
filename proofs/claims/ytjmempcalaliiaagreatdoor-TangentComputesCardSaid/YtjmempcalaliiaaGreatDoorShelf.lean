/-
  DERIVED: THE SHELF's CONTRACTS AT THIS DUMP, IN PLAIN WORDS (tools/lay-plain.mjs out of 'TryzShelf.lean', which tools/lay-shelf.mjs wrote): THE SAME DECLARATIONS UNDER THE SAME NAMES: 'import', 'namespace', 'open', 'def', 'theorem' AND NOTHING ELSE: no command of the shelf's: FOR A HAND-IN. Each laying: the table of numbers ('.._ren') and one theorem, a field a fact of the dump's own or the kernel's comparison; each contract: ONE APPLICATION.
-/
import Derived.Test.YtjmempcalaliiaaGreatDoorJ7
import Derived.Shelf.SlSortCmp.WholeK
import Derived.Shelf.SlSortCmp.NoneTotal
import Derived.Ground.SlsfProg
import Derived.Test.YtjmempcalaliiaaGreatDoorProg
import Derived.Test.YtjmempcalaliiaaGreatDoorLay
set_option linter.unusedVariables false
set_option linter.unusedSimpArgs false
namespace Go.Proofs
open Go.Shelf
def Tryz.sort105_ren : Go.Shelf.Ren := ⟨fun | 6 => 105 | 15 => 130 | 14 => 129 | 28 => 149 | 29 => 150 | 20 => 141 | 21 => 142 | 22 => 143 | 23 => 144 | 24 => 145 | 25 => 146 | 26 => 147 | 27 => 148 | 46 => 171 | 47 => 172 | 48 => 173 | 49 => 174 | 50 => 175 | 57 => 185 | n => n, fun | 22 => 119 | 24 => 141 | 25 => 148 | 3 => 3 | 39 => 89 | 0 => 0 | 53 => 189 | 55 => 57 | 4 => 4 | 46 => 182 | 45 => 181 | 50 => 186 | 5 => 5 | 9 => 9 | 66 => 204 | 70 => 208 | 76 => 216 | 77 => 217 | n => n, fun | n => n⟩
theorem Tryz.sort105 : Go.Proofs.SlLaysF0.n6 Tryz.prog Tryz.sort105_ren := {
  mixed := by kernel_rfl
  f6 := ⟨Tryz.f105.name, by decide, Tryz.func105.trans (congrArg some (by kernel_rfl))⟩
  f14 := ⟨Tryz.f129.name, by decide, Tryz.func129.trans (congrArg some (by kernel_rfl))⟩
  f15 := Tryz.func130.trans (congrArg some (by kernel_rfl))
  f20 := ⟨Tryz.f141.name, by decide, Tryz.func141.trans (congrArg some (by kernel_rfl))⟩
  f21 := ⟨Tryz.f142.name, by decide, Tryz.func142.trans (congrArg some (by kernel_rfl))⟩
  f22 := ⟨Tryz.f143.name, by decide, Tryz.func143.trans (congrArg some (by kernel_rfl))⟩
  f23 := ⟨Tryz.f144.name, by decide, Tryz.func144.trans (congrArg some (by kernel_rfl))⟩
  f24 := ⟨Tryz.f145.name, by decide, Tryz.func145.trans (congrArg some (by kernel_rfl))⟩
  f25 := ⟨Tryz.f146.name, by decide, Tryz.func146.trans (congrArg some (by kernel_rfl))⟩
  f26 := ⟨Tryz.f147.name, by decide, Tryz.func147.trans (congrArg some (by kernel_rfl))⟩
  f27 := ⟨Tryz.f148.name, by decide, Tryz.func148.trans (congrArg some (by kernel_rfl))⟩
  f28 := Tryz.func149.trans (congrArg some (by kernel_rfl))
  f29 := Tryz.func150.trans (congrArg some (by kernel_rfl))
  f46 := ⟨Tryz.f171.name, by decide, Tryz.func171.trans (congrArg some (by kernel_rfl))⟩
  f47 := Tryz.func172.trans (congrArg some (by kernel_rfl))
  f48 := Tryz.func173.trans (congrArg some (by kernel_rfl))
  f49 := ⟨Tryz.f174.name, by decide, Tryz.func174.trans (congrArg some (by kernel_rfl))⟩
  f50 := ⟨Tryz.f175.name, by decide, Tryz.func175.trans (congrArg some (by kernel_rfl))⟩
  f57 := ⟨Tryz.f185.name, by decide, Tryz.func185.trans (congrArg some (by kernel_rfl))⟩
  t0 := Tryz.underlying0
  a0 := Tryz.isAgg0
  z0 := Tryz.sizeOf0
  v0 := Tryz.zeroValue0
  t3 := Tryz.underlying3
  a3 := Tryz.isAgg3
  z3 := Tryz.sizeOf3
  v3 := Tryz.zeroValue3
  t4 := Tryz.underlying4
  a4 := Tryz.isAgg4
  z4 := Tryz.sizeOf4
  v4 := Tryz.zeroValue4
  t5 := Tryz.underlying5
  a5 := Tryz.isAgg5
  z5 := Tryz.sizeOf5
  v5 := Tryz.zeroValue5
  t9 := Tryz.underlying9
  a9 := Tryz.isAgg9
  z9 := Tryz.sizeOf9
  v9 := Tryz.zeroValue9
  t22 := Tryz.underlying119
  a22 := Tryz.isAgg119
  z22 := Tryz.sizeOf119
  v22 := Tryz.zeroValue119
  t25 := Tryz.underlying148
  a25 := Tryz.isAgg148
  z25 := Tryz.sizeOf148
  v25 := Tryz.zeroValue148
  t39 := Tryz.underlying89
  a39 := Tryz.isAgg89
  z39 := Tryz.sizeOf89
  v39 := Tryz.zeroValue89
  t45 := Tryz.underlying181
  a45 := Tryz.isAgg181
  z45 := Tryz.sizeOf181
  v45 := Tryz.zeroValue181
  t46 := Tryz.underlying182
  a46 := Tryz.isAgg182
  z46 := Tryz.sizeOf182
  v46 := Tryz.zeroValue182
  t50 := Tryz.underlying186
  a50 := Tryz.isAgg186
  z50 := Tryz.sizeOf186
  v50 := Tryz.zeroValue186
  t53 := Tryz.underlying189
  a53 := Tryz.isAgg189
  z53 := Tryz.sizeOf189
  v53 := Tryz.zeroValue189
  t55 := Tryz.underlying57
  a55 := Tryz.isAgg57
  z55 := Tryz.sizeOf57
  v55 := Tryz.zeroValue57
  t66 := Tryz.underlying204
  a66 := Tryz.isAgg204
  z66 := Tryz.sizeOf204
  v66 := Tryz.zeroValue204
  t70 := Tryz.underlying208
  a70 := Tryz.isAgg208
  z70 := Tryz.sizeOf208
  v70 := Tryz.zeroValue208
  t76 := Tryz.underlying216
  a76 := Tryz.isAgg216
  z76 := Tryz.sizeOf216
  v76 := Tryz.zeroValue216
  t77 := Tryz.underlying217
  a77 := Tryz.isAgg217
  z77 := Tryz.sizeOf217
  v77 := Tryz.zeroValue217 }
def Tryz.sort109_ren : Go.Shelf.Ren := ⟨fun | 6 => 109 | 15 => 130 | 14 => 132 | 28 => 149 | 29 => 150 | 20 => 151 | 21 => 152 | 22 => 153 | 23 => 154 | 24 => 155 | 25 => 156 | 26 => 157 | 27 => 158 | 46 => 176 | 47 => 172 | 48 => 173 | 49 => 177 | 50 => 178 | 57 => 186 | n => n, fun | 22 => 76 | 24 => 83 | 25 => 150 | 3 => 3 | 39 => 89 | 0 => 0 | 53 => 189 | 55 => 57 | 4 => 4 | 46 => 182 | 45 => 181 | 50 => 186 | 5 => 5 | 9 => 9 | 66 => 204 | 70 => 208 | 76 => 216 | 77 => 217 | n => n, fun | n => n⟩
theorem Tryz.sort109 : Go.Proofs.SlLaysF0.n6 Tryz.prog Tryz.sort109_ren := {
  mixed := by kernel_rfl
  f6 := ⟨Tryz.f109.name, by decide, Tryz.func109.trans (congrArg some (by kernel_rfl))⟩
  f14 := ⟨Tryz.f132.name, by decide, Tryz.func132.trans (congrArg some (by kernel_rfl))⟩
  f15 := Tryz.func130.trans (congrArg some (by kernel_rfl))
  f20 := ⟨Tryz.f151.name, by decide, Tryz.func151.trans (congrArg some (by kernel_rfl))⟩
  f21 := ⟨Tryz.f152.name, by decide, Tryz.func152.trans (congrArg some (by kernel_rfl))⟩
  f22 := ⟨Tryz.f153.name, by decide, Tryz.func153.trans (congrArg some (by kernel_rfl))⟩
  f23 := ⟨Tryz.f154.name, by decide, Tryz.func154.trans (congrArg some (by kernel_rfl))⟩
  f24 := ⟨Tryz.f155.name, by decide, Tryz.func155.trans (congrArg some (by kernel_rfl))⟩
  f25 := ⟨Tryz.f156.name, by decide, Tryz.func156.trans (congrArg some (by kernel_rfl))⟩
  f26 := ⟨Tryz.f157.name, by decide, Tryz.func157.trans (congrArg some (by kernel_rfl))⟩
  f27 := ⟨Tryz.f158.name, by decide, Tryz.func158.trans (congrArg some (by kernel_rfl))⟩
  f28 := Tryz.func149.trans (congrArg some (by kernel_rfl))
  f29 := Tryz.func150.trans (congrArg some (by kernel_rfl))
  f46 := ⟨Tryz.f176.name, by decide, Tryz.func176.trans (congrArg some (by kernel_rfl))⟩
  f47 := Tryz.func172.trans (congrArg some (by kernel_rfl))
  f48 := Tryz.func173.trans (congrArg some (by kernel_rfl))
  f49 := ⟨Tryz.f177.name, by decide, Tryz.func177.trans (congrArg some (by kernel_rfl))⟩
  f50 := ⟨Tryz.f178.name, by decide, Tryz.func178.trans (congrArg some (by kernel_rfl))⟩
  f57 := ⟨Tryz.f186.name, by decide, Tryz.func186.trans (congrArg some (by kernel_rfl))⟩
  t0 := Tryz.underlying0
  a0 := Tryz.isAgg0
  z0 := Tryz.sizeOf0
  v0 := Tryz.zeroValue0
  t3 := Tryz.underlying3
  a3 := Tryz.isAgg3
  z3 := Tryz.sizeOf3
  v3 := Tryz.zeroValue3
  t4 := Tryz.underlying4
  a4 := Tryz.isAgg4
  z4 := Tryz.sizeOf4
  v4 := Tryz.zeroValue4
  t5 := Tryz.underlying5
  a5 := Tryz.isAgg5
  z5 := Tryz.sizeOf5
  v5 := Tryz.zeroValue5
  t9 := Tryz.underlying9
  a9 := Tryz.isAgg9
  z9 := Tryz.sizeOf9
  v9 := Tryz.zeroValue9
  t22 := Tryz.underlying76
  a22 := Tryz.isAgg76
  z22 := Tryz.sizeOf76
  v22 := Tryz.zeroValue76
  t25 := Tryz.underlying150
  a25 := Tryz.isAgg150
  z25 := Tryz.sizeOf150
  v25 := Tryz.zeroValue150
  t39 := Tryz.underlying89
  a39 := Tryz.isAgg89
  z39 := Tryz.sizeOf89
  v39 := Tryz.zeroValue89
  t45 := Tryz.underlying181
  a45 := Tryz.isAgg181
  z45 := Tryz.sizeOf181
  v45 := Tryz.zeroValue181
  t46 := Tryz.underlying182
  a46 := Tryz.isAgg182
  z46 := Tryz.sizeOf182
  v46 := Tryz.zeroValue182
  t50 := Tryz.underlying186
  a50 := Tryz.isAgg186
  z50 := Tryz.sizeOf186
  v50 := Tryz.zeroValue186
  t53 := Tryz.underlying189
  a53 := Tryz.isAgg189
  z53 := Tryz.sizeOf189
  v53 := Tryz.zeroValue189
  t55 := Tryz.underlying57
  a55 := Tryz.isAgg57
  z55 := Tryz.sizeOf57
  v55 := Tryz.zeroValue57
  t66 := Tryz.underlying204
  a66 := Tryz.isAgg204
  z66 := Tryz.sizeOf204
  v66 := Tryz.zeroValue204
  t70 := Tryz.underlying208
  a70 := Tryz.isAgg208
  z70 := Tryz.sizeOf208
  v70 := Tryz.zeroValue208
  t76 := Tryz.underlying216
  a76 := Tryz.isAgg216
  z76 := Tryz.sizeOf216
  v76 := Tryz.zeroValue216
  t77 := Tryz.underlying217
  a77 := Tryz.isAgg217
  z77 := Tryz.sizeOf217
  v77 := Tryz.zeroValue217 }
end Go.Proofs
namespace Go.Proofs.YtjmempcalaliiaaGreatDoor
open Go Go.PM Go.Sort Go.RowKit
set_option maxRecDepth 100000
theorem mixed0 : Tryz.prog.follows .mixedOrders = true := by kernel_rfl
theorem cq_nan (d : Nat) (a : Int) : callN Tryz.prog noPrims laid 100 (d + 1) 131 [I a] [] = some ⟨B (a != a), [], none⟩ := by kernel_rfl
theorem cq_cmp (d : Nat) (p q : Int) : callN Tryz.prog noPrims laid 100 (d + 2) 108 [I p, I q] [] = some ⟨I (cmpZ p q), [], none⟩ := by
  have h : callN Tryz.prog noPrims laid 100 (d + 2) 108 [I p, I q] [] = (
    (callN Tryz.prog noPrims laid 100 (d + 1) 131 [I p] []).bind fun out =>
    rC out.r fun c =>
    asB c fun b =>
    (callN Tryz.prog noPrims laid 100 (d + 1) 131 [I q] []).bind fun out1 =>
    rC out1.r fun c1 =>
    asB c1 fun b1 =>
    bif b then
      bif b1 then
        some ⟨I 0, [], none⟩
      else
        some ⟨I (-1), [], none⟩
    else
      bif b1 then
        some ⟨I 1, [], none⟩
      else
        bif decide (p < q) then
          some ⟨I (-1), [], none⟩
        else
          bif decide (p > q) then
            some ⟨I 1, [], none⟩
          else
            some ⟨I 0, [], none⟩) := by kernel_rfl
  rw [h]
  simp only [cq_nan, obs, rC_c, asB_bool, bne_self_eq_false, cf]
  unfold cmpZ
  by_cases h1 : p < q
  · rw [decide_eq_true h1, if_pos h1]; rfl
  · rw [decide_eq_false h1, if_neg h1]
    by_cases h2 : q < p
    · rw [show decide (p > q) = true from decide_eq_true h2, if_pos h2]; rfl
    · rw [show decide (p > q) = false from decide_eq_false h2, if_neg h2]; rfl
theorem cq_106 (x y : List Int) : callN Tryz.prog noPrims laid 100 5 106 [.agg (celR 3 x), .agg (celR 3 y)] [] = some ⟨I (lexZ [0, 1, 2] x y), [], none⟩ := by
  have h : callN Tryz.prog noPrims laid 100 5 106 [.agg (celR 3 x), .agg (celR 3 y)] [] = (
    (callN Tryz.prog noPrims laid 100 4 108 [I (x.getD 0 0), I (y.getD 0 0)] []).bind fun out =>
    rC out.r fun c =>
    asI .i64 c fun i =>
    (callN Tryz.prog noPrims laid 100 4 108 [I (x.getD 1 0), I (y.getD 1 0)] []).bind fun out1 =>
    rC out1.r fun c1 =>
    asI .i64 c1 fun i1 =>
    (callN Tryz.prog noPrims laid 100 4 108 [I (x.getD 2 0), I (y.getD 2 0)] []).bind fun out2 =>
    rC out2.r fun c2 =>
    asI .i64 c2 fun i2 =>
    (callN Tryz.prog noPrims laid 100 4 107 [V.c (C.sl 3 ([C.v (.int .i64 i), C.v (.int .i64 i1), C.v (.int .i64 i2)]))] []).bind fun out3 =>
    rC out3.r fun c3 =>
    asI .i64 c3 fun i3 =>
    some ⟨I i3, [], none⟩) := by kernel_rfl
  rw [h]
  simp only [cq_cmp, obs, rC_c, asI_int]
  simp only [lexZ]
  have z0 : cmpZ (x.getD 0 0) (y.getD 0 0) = -1 ∨ cmpZ (x.getD 0 0) (y.getD 0 0) = 0 ∨ cmpZ (x.getD 0 0) (y.getD 0 0) = 1 := (cmpZ_cases (x.getD 0 0) (y.getD 0 0)).elim (fun h => .inl h.1) fun h => h.elim (fun h => .inr (.inl h.1)) fun h => .inr (.inr h.1)
  generalize cmpZ (x.getD 0 0) (y.getD 0 0) = c0 at z0 ⊢
  have z1 : cmpZ (x.getD 1 0) (y.getD 1 0) = -1 ∨ cmpZ (x.getD 1 0) (y.getD 1 0) = 0 ∨ cmpZ (x.getD 1 0) (y.getD 1 0) = 1 := (cmpZ_cases (x.getD 1 0) (y.getD 1 0)).elim (fun h => .inl h.1) fun h => h.elim (fun h => .inr (.inl h.1)) fun h => .inr (.inr h.1)
  generalize cmpZ (x.getD 1 0) (y.getD 1 0) = c1 at z1 ⊢
  have z2 : cmpZ (x.getD 2 0) (y.getD 2 0) = -1 ∨ cmpZ (x.getD 2 0) (y.getD 2 0) = 0 ∨ cmpZ (x.getD 2 0) (y.getD 2 0) = 1 := (cmpZ_cases (x.getD 2 0) (y.getD 2 0)).elim (fun h => .inl h.1) fun h => h.elim (fun h => .inr (.inl h.1)) fun h => .inr (.inr h.1)
  generalize cmpZ (x.getD 2 0) (y.getD 2 0) = c2 at z2 ⊢
  rcases z0 with rfl | rfl | rfl <;> rcases z1 with rfl | rfl | rfl <;> rcases z2 with rfl | rfl | rfl <;> (show _ = _; kernel_rfl)
theorem sortC_105_106 (g cap : Nat) (d : Array (List Int)) (w : World) (hH : HoldsK (encR 3) 3 w g 0 d) (hg : g < w.heap.size) (hd : d.size < 4611686018427387904) :
    Calls Tryz.prog 105 #[.slice (some ⟨g, 0, none⟩) d.size cap, .func (.func 106) #[] #[]] w fun e w' => e = .returned (.tuple #[]) ∧ ∃ q os, w' = Go.Proofs.sortWorldK (encR 3) 3 w g 0 q (pdq (Go.Proofs.ltOf (lexZ [0, 1, 2])) d 0 d.size (Lib.bitLen d.size) true true) os :=
  AnyQ.slices_SortFunc_eq (ρ := Tryz.sort105_ren) Tryz.sort105 3 (Tryz.isAgg141) (Tryz.sizeOf141) (encR 3) (fun x => by simp [encR]) (fun x v hv => by
      simp only [encR, List.mem_map] at hv
      obtain ⟨i, _, rfl⟩ := hv
      rfl) (lexZ [0, 1, 2]) (lexZ_swo [0, 1, 2]) 106 #[] g 0 cap d w (enters_of Tryz.func106 (by kernel_rfl) rfl) (cmpLays_of mixed0 cq_106 g 0 d.size w) hH hg hd
theorem sortN_105_106 (w : World) : Calls Tryz.prog 105 #[.slice none 0 0, .func (.func 106) #[] #[]] w fun e w' => e = .returned (.tuple #[]) ∧ w' = w :=
  AnyF.slices_SortFunc_none (ρ := Tryz.sort105_ren) { Tryz.sort105 with } none 0 (.func (.func 106) #[] #[]) w
theorem cq_110 (x y : List Int) : callN Tryz.prog noPrims laid 100 5 110 [.agg (celR 2 x), .agg (celR 2 y)] [] = some ⟨I (lexZ [0, 1] x y), [], none⟩ := by
  have h : callN Tryz.prog noPrims laid 100 5 110 [.agg (celR 2 x), .agg (celR 2 y)] [] = (
    (callN Tryz.prog noPrims laid 100 4 108 [I (x.getD 0 0), I (y.getD 0 0)] []).bind fun out =>
    rC out.r fun c =>
    asI .i64 c fun i =>
    (callN Tryz.prog noPrims laid 100 4 108 [I (x.getD 1 0), I (y.getD 1 0)] []).bind fun out1 =>
    rC out1.r fun c1 =>
    asI .i64 c1 fun i1 =>
    (callN Tryz.prog noPrims laid 100 4 107 [V.c (C.sl 2 ([C.v (.int .i64 i), C.v (.int .i64 i1)]))] []).bind fun out2 =>
    rC out2.r fun c2 =>
    asI .i64 c2 fun i2 =>
    some ⟨I i2, [], none⟩) := by kernel_rfl
  rw [h]
  simp only [cq_cmp, obs, rC_c, asI_int]
  simp only [lexZ]
  have z0 : cmpZ (x.getD 0 0) (y.getD 0 0) = -1 ∨ cmpZ (x.getD 0 0) (y.getD 0 0) = 0 ∨ cmpZ (x.getD 0 0) (y.getD 0 0) = 1 := (cmpZ_cases (x.getD 0 0) (y.getD 0 0)).elim (fun h => .inl h.1) fun h => h.elim (fun h => .inr (.inl h.1)) fun h => .inr (.inr h.1)
  generalize cmpZ (x.getD 0 0) (y.getD 0 0) = c0 at z0 ⊢
  have z1 : cmpZ (x.getD 1 0) (y.getD 1 0) = -1 ∨ cmpZ (x.getD 1 0) (y.getD 1 0) = 0 ∨ cmpZ (x.getD 1 0) (y.getD 1 0) = 1 := (cmpZ_cases (x.getD 1 0) (y.getD 1 0)).elim (fun h => .inl h.1) fun h => h.elim (fun h => .inr (.inl h.1)) fun h => .inr (.inr h.1)
  generalize cmpZ (x.getD 1 0) (y.getD 1 0) = c1 at z1 ⊢
  rcases z0 with rfl | rfl | rfl <;> rcases z1 with rfl | rfl | rfl <;> (show _ = _; kernel_rfl)
theorem sortC_109_110 (g cap : Nat) (d : Array (List Int)) (w : World) (hH : HoldsK (encR 2) 2 w g 0 d) (hg : g < w.heap.size) (hd : d.size < 4611686018427387904) :
    Calls Tryz.prog 109 #[.slice (some ⟨g, 0, none⟩) d.size cap, .func (.func 110) #[] #[]] w fun e w' => e = .returned (.tuple #[]) ∧ ∃ q os, w' = Go.Proofs.sortWorldK (encR 2) 2 w g 0 q (pdq (Go.Proofs.ltOf (lexZ [0, 1])) d 0 d.size (Lib.bitLen d.size) true true) os :=
  AnyQ.slices_SortFunc_eq (ρ := Tryz.sort109_ren) Tryz.sort109 2 (Tryz.isAgg83) (Tryz.sizeOf83) (encR 2) (fun x => by simp [encR]) (fun x v hv => by
      simp only [encR, List.mem_map] at hv
      obtain ⟨i, _, rfl⟩ := hv
      rfl) (lexZ [0, 1]) (lexZ_swo [0, 1]) 110 #[] g 0 cap d w (enters_of Tryz.func110 (by kernel_rfl) rfl) (cmpLays_of mixed0 cq_110 g 0 d.size w) hH hg hd
theorem sortN_109_110 (w : World) : Calls Tryz.prog 109 #[.slice none 0 0, .func (.func 110) #[] #[]] w fun e w' => e = .returned (.tuple #[]) ∧ w' = w :=
  AnyF.slices_SortFunc_none (ρ := Tryz.sort109_ren) { Tryz.sort109 with } none 0 (.func (.func 110) #[] #[]) w
end Go.Proofs.YtjmempcalaliiaaGreatDoor
