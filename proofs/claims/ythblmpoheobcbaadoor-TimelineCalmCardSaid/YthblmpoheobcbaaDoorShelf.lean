/-
  DERIVED: THE SHELF's CONTRACTS AT THIS DUMP, IN PLAIN WORDS (tools/lay-plain.mjs out of 'TrydShelf.lean', which tools/lay-shelf.mjs wrote): THE SAME DECLARATIONS UNDER THE SAME NAMES: 'import', 'namespace', 'open', 'def', 'theorem' AND NOTHING ELSE: no command of the shelf's: FOR A HAND-IN. Each laying: the table of numbers ('.._ren') and one theorem, a field a fact of the dump's own or the kernel's comparison; each contract: ONE APPLICATION.
-/
import Derived.Shelf.SlSortCmp.WholeK
import Derived.Shelf.SlSortCmp.NoneTotal
import Derived.Ground.SlsfProg
import Derived.Test.YthblmpoheobcbaaDoorProg
import Derived.Test.YthblmpoheobcbaaDoorLay
set_option linter.unusedVariables false
set_option linter.unusedSimpArgs false
namespace Go.Proofs
open Go.Shelf
def Tryd.sort37_ren : Go.Shelf.Ren := ⟨fun | 6 => 37 | 15 => 56 | 14 => 55 | 28 => 76 | 29 => 77 | 20 => 68 | 21 => 69 | 22 => 70 | 23 => 71 | 24 => 72 | 25 => 73 | 26 => 74 | 27 => 75 | 46 => 92 | 47 => 93 | 48 => 94 | 49 => 95 | 50 => 96 | 57 => 101 | n => n, fun | 22 => 43 | 24 => 51 | 25 => 84 | 3 => 3 | 39 => 110 | 0 => 0 | 53 => 130 | 55 => 132 | 4 => 4 | 46 => 124 | 45 => 123 | 50 => 58 | 5 => 5 | 9 => 9 | 66 => 144 | 70 => 148 | 76 => 156 | 77 => 157 | n => n, fun | n => n⟩
theorem Tryd.sort37 : Go.Proofs.SlLaysF0.n6 Tryd.prog Tryd.sort37_ren := {
  mixed := by kernel_rfl
  f6 := ⟨Tryd.f37.name, by decide, Tryd.func37.trans (congrArg some (by kernel_rfl))⟩
  f14 := ⟨Tryd.f55.name, by decide, Tryd.func55.trans (congrArg some (by kernel_rfl))⟩
  f15 := Tryd.func56.trans (congrArg some (by kernel_rfl))
  f20 := ⟨Tryd.f68.name, by decide, Tryd.func68.trans (congrArg some (by kernel_rfl))⟩
  f21 := ⟨Tryd.f69.name, by decide, Tryd.func69.trans (congrArg some (by kernel_rfl))⟩
  f22 := ⟨Tryd.f70.name, by decide, Tryd.func70.trans (congrArg some (by kernel_rfl))⟩
  f23 := ⟨Tryd.f71.name, by decide, Tryd.func71.trans (congrArg some (by kernel_rfl))⟩
  f24 := ⟨Tryd.f72.name, by decide, Tryd.func72.trans (congrArg some (by kernel_rfl))⟩
  f25 := ⟨Tryd.f73.name, by decide, Tryd.func73.trans (congrArg some (by kernel_rfl))⟩
  f26 := ⟨Tryd.f74.name, by decide, Tryd.func74.trans (congrArg some (by kernel_rfl))⟩
  f27 := ⟨Tryd.f75.name, by decide, Tryd.func75.trans (congrArg some (by kernel_rfl))⟩
  f28 := Tryd.func76.trans (congrArg some (by kernel_rfl))
  f29 := Tryd.func77.trans (congrArg some (by kernel_rfl))
  f46 := ⟨Tryd.f92.name, by decide, Tryd.func92.trans (congrArg some (by kernel_rfl))⟩
  f47 := Tryd.func93.trans (congrArg some (by kernel_rfl))
  f48 := Tryd.func94.trans (congrArg some (by kernel_rfl))
  f49 := ⟨Tryd.f95.name, by decide, Tryd.func95.trans (congrArg some (by kernel_rfl))⟩
  f50 := ⟨Tryd.f96.name, by decide, Tryd.func96.trans (congrArg some (by kernel_rfl))⟩
  f57 := ⟨Tryd.f101.name, by decide, Tryd.func101.trans (congrArg some (by kernel_rfl))⟩
  t0 := Tryd.underlying0
  a0 := Tryd.isAgg0
  z0 := Tryd.sizeOf0
  v0 := Tryd.zeroValue0
  t3 := Tryd.underlying3
  a3 := Tryd.isAgg3
  z3 := Tryd.sizeOf3
  v3 := Tryd.zeroValue3
  t4 := Tryd.underlying4
  a4 := Tryd.isAgg4
  z4 := Tryd.sizeOf4
  v4 := Tryd.zeroValue4
  t5 := Tryd.underlying5
  a5 := Tryd.isAgg5
  z5 := Tryd.sizeOf5
  v5 := Tryd.zeroValue5
  t9 := Tryd.underlying9
  a9 := Tryd.isAgg9
  z9 := Tryd.sizeOf9
  v9 := Tryd.zeroValue9
  t22 := Tryd.underlying43
  a22 := Tryd.isAgg43
  z22 := Tryd.sizeOf43
  v22 := Tryd.zeroValue43
  t25 := Tryd.underlying84
  a25 := Tryd.isAgg84
  z25 := Tryd.sizeOf84
  v25 := Tryd.zeroValue84
  t39 := Tryd.underlying110
  a39 := Tryd.isAgg110
  z39 := Tryd.sizeOf110
  v39 := Tryd.zeroValue110
  t45 := Tryd.underlying123
  a45 := Tryd.isAgg123
  z45 := Tryd.sizeOf123
  v45 := Tryd.zeroValue123
  t46 := Tryd.underlying124
  a46 := Tryd.isAgg124
  z46 := Tryd.sizeOf124
  v46 := Tryd.zeroValue124
  t50 := Tryd.underlying58
  a50 := Tryd.isAgg58
  z50 := Tryd.sizeOf58
  v50 := Tryd.zeroValue58
  t53 := Tryd.underlying130
  a53 := Tryd.isAgg130
  z53 := Tryd.sizeOf130
  v53 := Tryd.zeroValue130
  t55 := Tryd.underlying132
  a55 := Tryd.isAgg132
  z55 := Tryd.sizeOf132
  v55 := Tryd.zeroValue132
  t66 := Tryd.underlying144
  a66 := Tryd.isAgg144
  z66 := Tryd.sizeOf144
  v66 := Tryd.zeroValue144
  t70 := Tryd.underlying148
  a70 := Tryd.isAgg148
  z70 := Tryd.sizeOf148
  v70 := Tryd.zeroValue148
  t76 := Tryd.underlying156
  a76 := Tryd.isAgg156
  z76 := Tryd.sizeOf156
  v76 := Tryd.zeroValue156
  t77 := Tryd.underlying157
  a77 := Tryd.isAgg157
  z77 := Tryd.sizeOf157
  v77 := Tryd.zeroValue157 }
def Tryd.sort51_ren : Go.Shelf.Ren := ⟨fun | 6 => 51 | 15 => 56 | 14 => 67 | 28 => 76 | 29 => 77 | 20 => 84 | 21 => 85 | 22 => 86 | 23 => 87 | 24 => 88 | 25 => 89 | 26 => 90 | 27 => 91 | 46 => 98 | 47 => 93 | 48 => 94 | 49 => 99 | 50 => 100 | 57 => 102 | n => n, fun | 22 => 76 | 24 => 80 | 25 => 106 | 3 => 3 | 39 => 110 | 0 => 0 | 53 => 130 | 55 => 132 | 4 => 4 | 46 => 124 | 45 => 123 | 50 => 58 | 5 => 5 | 9 => 9 | 66 => 144 | 70 => 148 | 76 => 156 | 77 => 157 | n => n, fun | n => n⟩
theorem Tryd.sort51 : Go.Proofs.SlLaysF0.n6 Tryd.prog Tryd.sort51_ren := {
  mixed := by kernel_rfl
  f6 := ⟨Tryd.f51.name, by decide, Tryd.func51.trans (congrArg some (by kernel_rfl))⟩
  f14 := ⟨Tryd.f67.name, by decide, Tryd.func67.trans (congrArg some (by kernel_rfl))⟩
  f15 := Tryd.func56.trans (congrArg some (by kernel_rfl))
  f20 := ⟨Tryd.f84.name, by decide, Tryd.func84.trans (congrArg some (by kernel_rfl))⟩
  f21 := ⟨Tryd.f85.name, by decide, Tryd.func85.trans (congrArg some (by kernel_rfl))⟩
  f22 := ⟨Tryd.f86.name, by decide, Tryd.func86.trans (congrArg some (by kernel_rfl))⟩
  f23 := ⟨Tryd.f87.name, by decide, Tryd.func87.trans (congrArg some (by kernel_rfl))⟩
  f24 := ⟨Tryd.f88.name, by decide, Tryd.func88.trans (congrArg some (by kernel_rfl))⟩
  f25 := ⟨Tryd.f89.name, by decide, Tryd.func89.trans (congrArg some (by kernel_rfl))⟩
  f26 := ⟨Tryd.f90.name, by decide, Tryd.func90.trans (congrArg some (by kernel_rfl))⟩
  f27 := ⟨Tryd.f91.name, by decide, Tryd.func91.trans (congrArg some (by kernel_rfl))⟩
  f28 := Tryd.func76.trans (congrArg some (by kernel_rfl))
  f29 := Tryd.func77.trans (congrArg some (by kernel_rfl))
  f46 := ⟨Tryd.f98.name, by decide, Tryd.func98.trans (congrArg some (by kernel_rfl))⟩
  f47 := Tryd.func93.trans (congrArg some (by kernel_rfl))
  f48 := Tryd.func94.trans (congrArg some (by kernel_rfl))
  f49 := ⟨Tryd.f99.name, by decide, Tryd.func99.trans (congrArg some (by kernel_rfl))⟩
  f50 := ⟨Tryd.f100.name, by decide, Tryd.func100.trans (congrArg some (by kernel_rfl))⟩
  f57 := ⟨Tryd.f102.name, by decide, Tryd.func102.trans (congrArg some (by kernel_rfl))⟩
  t0 := Tryd.underlying0
  a0 := Tryd.isAgg0
  z0 := Tryd.sizeOf0
  v0 := Tryd.zeroValue0
  t3 := Tryd.underlying3
  a3 := Tryd.isAgg3
  z3 := Tryd.sizeOf3
  v3 := Tryd.zeroValue3
  t4 := Tryd.underlying4
  a4 := Tryd.isAgg4
  z4 := Tryd.sizeOf4
  v4 := Tryd.zeroValue4
  t5 := Tryd.underlying5
  a5 := Tryd.isAgg5
  z5 := Tryd.sizeOf5
  v5 := Tryd.zeroValue5
  t9 := Tryd.underlying9
  a9 := Tryd.isAgg9
  z9 := Tryd.sizeOf9
  v9 := Tryd.zeroValue9
  t22 := Tryd.underlying76
  a22 := Tryd.isAgg76
  z22 := Tryd.sizeOf76
  v22 := Tryd.zeroValue76
  t25 := Tryd.underlying106
  a25 := Tryd.isAgg106
  z25 := Tryd.sizeOf106
  v25 := Tryd.zeroValue106
  t39 := Tryd.underlying110
  a39 := Tryd.isAgg110
  z39 := Tryd.sizeOf110
  v39 := Tryd.zeroValue110
  t45 := Tryd.underlying123
  a45 := Tryd.isAgg123
  z45 := Tryd.sizeOf123
  v45 := Tryd.zeroValue123
  t46 := Tryd.underlying124
  a46 := Tryd.isAgg124
  z46 := Tryd.sizeOf124
  v46 := Tryd.zeroValue124
  t50 := Tryd.underlying58
  a50 := Tryd.isAgg58
  z50 := Tryd.sizeOf58
  v50 := Tryd.zeroValue58
  t53 := Tryd.underlying130
  a53 := Tryd.isAgg130
  z53 := Tryd.sizeOf130
  v53 := Tryd.zeroValue130
  t55 := Tryd.underlying132
  a55 := Tryd.isAgg132
  z55 := Tryd.sizeOf132
  v55 := Tryd.zeroValue132
  t66 := Tryd.underlying144
  a66 := Tryd.isAgg144
  z66 := Tryd.sizeOf144
  v66 := Tryd.zeroValue144
  t70 := Tryd.underlying148
  a70 := Tryd.isAgg148
  z70 := Tryd.sizeOf148
  v70 := Tryd.zeroValue148
  t76 := Tryd.underlying156
  a76 := Tryd.isAgg156
  z76 := Tryd.sizeOf156
  v76 := Tryd.zeroValue156
  t77 := Tryd.underlying157
  a77 := Tryd.isAgg157
  z77 := Tryd.sizeOf157
  v77 := Tryd.zeroValue157 }
end Go.Proofs
namespace Go.Proofs.YthblmpoheobcbaaDoor
open Go Go.PM Go.Sort Go.RowKit
set_option maxRecDepth 100000
theorem mixed0 : Tryd.prog.follows .mixedOrders = true := by kernel_rfl
theorem cq_nan (d : Nat) (a : Int) : callN Tryd.prog noPrims laid 100 (d + 1) 57 [I a] [] = some ⟨B (a != a), [], none⟩ := by kernel_rfl
theorem cq_cmp (d : Nat) (p q : Int) : callN Tryd.prog noPrims laid 100 (d + 2) 40 [I p, I q] [] = some ⟨I (cmpZ p q), [], none⟩ := by
  have h : callN Tryd.prog noPrims laid 100 (d + 2) 40 [I p, I q] [] = (
    (callN Tryd.prog noPrims laid 100 (d + 1) 57 [I p] []).bind fun out =>
    rC out.r fun c =>
    asB c fun b =>
    (callN Tryd.prog noPrims laid 100 (d + 1) 57 [I q] []).bind fun out1 =>
    rC out1.r fun c1 =>
    asB c1 fun b1 =>
    bif b then
      bif b1 then
        some ⟨I 0, [], none⟩
      else
        some ⟨I (-1), [], none⟩
    else
      bif b1 then
        some ⟨I 1, [], none⟩
      else
        bif decide (p < q) then
          some ⟨I (-1), [], none⟩
        else
          bif decide (p > q) then
            some ⟨I 1, [], none⟩
          else
            some ⟨I 0, [], none⟩) := by kernel_rfl
  rw [h]
  simp only [cq_nan, obs, rC_c, asB_bool, bne_self_eq_false, cf]
  unfold cmpZ
  by_cases h1 : p < q
  · rw [decide_eq_true h1, if_pos h1]; rfl
  · rw [decide_eq_false h1, if_neg h1]
    by_cases h2 : q < p
    · rw [show decide (p > q) = true from decide_eq_true h2, if_pos h2]; rfl
    · rw [show decide (p > q) = false from decide_eq_false h2, if_neg h2]; rfl
theorem cq_38 (x y : List Int) : callN Tryd.prog noPrims laid 100 5 38 [.agg (celR 3 x), .agg (celR 3 y)] [] = some ⟨I (lexZ [0, 1] x y), [], none⟩ := by
  have h : callN Tryd.prog noPrims laid 100 5 38 [.agg (celR 3 x), .agg (celR 3 y)] [] = (
    (callN Tryd.prog noPrims laid 100 4 40 [I (x.getD 0 0), I (y.getD 0 0)] []).bind fun out =>
    rC out.r fun c =>
    asI .i64 c fun i =>
    (callN Tryd.prog noPrims laid 100 4 40 [I (x.getD 1 0), I (y.getD 1 0)] []).bind fun out1 =>
    rC out1.r fun c1 =>
    asI .i64 c1 fun i1 =>
    (callN Tryd.prog noPrims laid 100 4 39 [V.c (C.sl 2 ([C.v (.int .i64 i), C.v (.int .i64 i1)]))] []).bind fun out2 =>
    rC out2.r fun c2 =>
    asI .i64 c2 fun i2 =>
    some ⟨I i2, [], none⟩) := by kernel_rfl
  rw [h]
  simp only [cq_cmp, obs, rC_c, asI_int]
  simp only [lexZ]
  have z0 : cmpZ (x.getD 0 0) (y.getD 0 0) = -1 ∨ cmpZ (x.getD 0 0) (y.getD 0 0) = 0 ∨ cmpZ (x.getD 0 0) (y.getD 0 0) = 1 := (cmpZ_cases (x.getD 0 0) (y.getD 0 0)).elim (fun h => .inl h.1) fun h => h.elim (fun h => .inr (.inl h.1)) fun h => .inr (.inr h.1)
  generalize cmpZ (x.getD 0 0) (y.getD 0 0) = c0 at z0 ⊢
  have z1 : cmpZ (x.getD 1 0) (y.getD 1 0) = -1 ∨ cmpZ (x.getD 1 0) (y.getD 1 0) = 0 ∨ cmpZ (x.getD 1 0) (y.getD 1 0) = 1 := (cmpZ_cases (x.getD 1 0) (y.getD 1 0)).elim (fun h => .inl h.1) fun h => h.elim (fun h => .inr (.inl h.1)) fun h => .inr (.inr h.1)
  generalize cmpZ (x.getD 1 0) (y.getD 1 0) = c1 at z1 ⊢
  rcases z0 with rfl | rfl | rfl <;> rcases z1 with rfl | rfl | rfl <;> (show _ = _; kernel_rfl)
theorem sortC_37_38 (g cap : Nat) (d : Array (List Int)) (w : World) (hH : HoldsK (encR 3) 3 w g 0 d) (hg : g < w.heap.size) (hd : d.size < 4611686018427387904) :
    Calls Tryd.prog 37 #[.slice (some ⟨g, 0, none⟩) d.size cap, .func (.func 38) #[] #[]] w fun e w' => e = .returned (.tuple #[]) ∧ ∃ q os, w' = Go.Proofs.sortWorldK (encR 3) 3 w g 0 q (pdq (Go.Proofs.ltOf (lexZ [0, 1])) d 0 d.size (Lib.bitLen d.size) true true) os :=
  AnyQ.slices_SortFunc_eq (ρ := Tryd.sort37_ren) Tryd.sort37 3 (Tryd.isAgg51) (Tryd.sizeOf51) (encR 3) (fun x => by simp [encR]) (fun x v hv => by
      simp only [encR, List.mem_map] at hv
      obtain ⟨i, _, rfl⟩ := hv
      rfl) (lexZ [0, 1]) (lexZ_swo [0, 1]) 38 #[] g 0 cap d w (enters_of Tryd.func38 (by kernel_rfl) rfl) (cmpLays_of mixed0 cq_38 g 0 d.size w) hH hg hd
theorem sortN_37_38 (w : World) : Calls Tryd.prog 37 #[.slice none 0 0, .func (.func 38) #[] #[]] w fun e w' => e = .returned (.tuple #[]) ∧ w' = w :=
  AnyF.slices_SortFunc_none (ρ := Tryd.sort37_ren) { Tryd.sort37 with } none 0 (.func (.func 38) #[] #[]) w
theorem cq_52 (x y : List Int) : callN Tryd.prog noPrims laid 100 5 52 [.agg (celR 3 x), .agg (celR 3 y)] [] = some ⟨I (lexZ [1] x y), [], none⟩ := by
  have h : callN Tryd.prog noPrims laid 100 5 52 [.agg (celR 3 x), .agg (celR 3 y)] [] = (
    (callN Tryd.prog noPrims laid 100 4 40 [I (x.getD 1 0), I (y.getD 1 0)] []).bind fun out =>
    rC out.r fun c =>
    asI .i64 c fun i =>
    some ⟨I i, [], none⟩) := by kernel_rfl
  rw [h]
  simp only [cq_cmp, obs, rC_c, asI_int]
  simp only [lexZ]
  have z1 : cmpZ (x.getD 1 0) (y.getD 1 0) = -1 ∨ cmpZ (x.getD 1 0) (y.getD 1 0) = 0 ∨ cmpZ (x.getD 1 0) (y.getD 1 0) = 1 := (cmpZ_cases (x.getD 1 0) (y.getD 1 0)).elim (fun h => .inl h.1) fun h => h.elim (fun h => .inr (.inl h.1)) fun h => .inr (.inr h.1)
  generalize cmpZ (x.getD 1 0) (y.getD 1 0) = c1 at z1 ⊢
  rcases z1 with rfl | rfl | rfl <;> (show _ = _; kernel_rfl)
theorem sortC_51_52 (g cap : Nat) (d : Array (List Int)) (w : World) (hH : HoldsK (encR 3) 3 w g 0 d) (hg : g < w.heap.size) (hd : d.size < 4611686018427387904) :
    Calls Tryd.prog 51 #[.slice (some ⟨g, 0, none⟩) d.size cap, .func (.func 52) #[] #[]] w fun e w' => e = .returned (.tuple #[]) ∧ ∃ q os, w' = Go.Proofs.sortWorldK (encR 3) 3 w g 0 q (pdq (Go.Proofs.ltOf (lexZ [1])) d 0 d.size (Lib.bitLen d.size) true true) os :=
  AnyQ.slices_SortFunc_eq (ρ := Tryd.sort51_ren) Tryd.sort51 3 (Tryd.isAgg80) (Tryd.sizeOf80) (encR 3) (fun x => by simp [encR]) (fun x v hv => by
      simp only [encR, List.mem_map] at hv
      obtain ⟨i, _, rfl⟩ := hv
      rfl) (lexZ [1]) (lexZ_swo [1]) 52 #[] g 0 cap d w (enters_of Tryd.func52 (by kernel_rfl) rfl) (cmpLays_of mixed0 cq_52 g 0 d.size w) hH hg hd
theorem sortN_51_52 (w : World) : Calls Tryd.prog 51 #[.slice none 0 0, .func (.func 52) #[] #[]] w fun e w' => e = .returned (.tuple #[]) ∧ w' = w :=
  AnyF.slices_SortFunc_none (ρ := Tryd.sort51_ren) { Tryd.sort51 with } none 0 (.func (.func 52) #[] #[]) w
end Go.Proofs.YthblmpoheobcbaaDoor
