/-
  DERIVED: THE SHELF's CONTRACTS AT THIS DUMP, IN PLAIN WORDS (tools/lay-plain.mjs out of 'TryzShelf.lean', which tools/lay-shelf.mjs wrote): THE SAME DECLARATIONS UNDER THE SAME NAMES: 'import', 'namespace', 'open', 'def', 'theorem' AND NOTHING ELSE: no command of the shelf's: FOR A HAND-IN. Each laying: the table of numbers ('.._ren') and one theorem, a field a fact of the dump's own or the kernel's comparison; each contract: ONE APPLICATION.
-/
import Derived.Test.YtdcdfjijhmbbpaaGreatDoorJ7
import Derived.Shelf.SlSortCmp.WholeK
import Derived.Shelf.SlSortCmp.NoneTotal
import Derived.Ground.SlsfProg
import Derived.Test.YtdcdfjijhmbbpaaGreatDoorProg
import Derived.Test.YtdcdfjijhmbbpaaGreatDoorLay
set_option linter.unusedVariables false
set_option linter.unusedSimpArgs false
namespace Go.Proofs
open Go.Shelf
def Tryz.sort56_ren : Go.Shelf.Ren := ⟨fun | 6 => 56 | 15 => 73 | 14 => 72 | 28 => 94 | 29 => 95 | 20 => 86 | 21 => 87 | 22 => 88 | 23 => 89 | 24 => 90 | 25 => 91 | 26 => 92 | 27 => 93 | 46 => 117 | 47 => 118 | 48 => 119 | 49 => 120 | 50 => 121 | 57 => 130 | n => n, fun | 22 => 73 | 24 => 92 | 25 => 94 | 3 => 3 | 39 => 45 | 0 => 0 | 53 => 135 | 55 => 137 | 4 => 4 | 46 => 128 | 45 => 127 | 50 => 132 | 5 => 5 | 9 => 9 | 66 => 149 | 70 => 153 | 76 => 161 | 77 => 162 | n => n, fun | n => n⟩
theorem Tryz.sort56 : Go.Proofs.SlLaysF0.n6 Tryz.prog Tryz.sort56_ren := {
  mixed := by kernel_rfl
  f6 := ⟨Tryz.f56.name, by decide, Tryz.func56.trans (congrArg some (by kernel_rfl))⟩
  f14 := ⟨Tryz.f72.name, by decide, Tryz.func72.trans (congrArg some (by kernel_rfl))⟩
  f15 := Tryz.func73.trans (congrArg some (by kernel_rfl))
  f20 := ⟨Tryz.f86.name, by decide, Tryz.func86.trans (congrArg some (by kernel_rfl))⟩
  f21 := ⟨Tryz.f87.name, by decide, Tryz.func87.trans (congrArg some (by kernel_rfl))⟩
  f22 := ⟨Tryz.f88.name, by decide, Tryz.func88.trans (congrArg some (by kernel_rfl))⟩
  f23 := ⟨Tryz.f89.name, by decide, Tryz.func89.trans (congrArg some (by kernel_rfl))⟩
  f24 := ⟨Tryz.f90.name, by decide, Tryz.func90.trans (congrArg some (by kernel_rfl))⟩
  f25 := ⟨Tryz.f91.name, by decide, Tryz.func91.trans (congrArg some (by kernel_rfl))⟩
  f26 := ⟨Tryz.f92.name, by decide, Tryz.func92.trans (congrArg some (by kernel_rfl))⟩
  f27 := ⟨Tryz.f93.name, by decide, Tryz.func93.trans (congrArg some (by kernel_rfl))⟩
  f28 := Tryz.func94.trans (congrArg some (by kernel_rfl))
  f29 := Tryz.func95.trans (congrArg some (by kernel_rfl))
  f46 := ⟨Tryz.f117.name, by decide, Tryz.func117.trans (congrArg some (by kernel_rfl))⟩
  f47 := Tryz.func118.trans (congrArg some (by kernel_rfl))
  f48 := Tryz.func119.trans (congrArg some (by kernel_rfl))
  f49 := ⟨Tryz.f120.name, by decide, Tryz.func120.trans (congrArg some (by kernel_rfl))⟩
  f50 := ⟨Tryz.f121.name, by decide, Tryz.func121.trans (congrArg some (by kernel_rfl))⟩
  f57 := ⟨Tryz.f130.name, by decide, Tryz.func130.trans (congrArg some (by kernel_rfl))⟩
  t0 := Tryz.underlying0
  a0 := Tryz.isAgg0
  z0 := Tryz.sizeOf0
  v0 := Tryz.zeroValue0
  t3 := Tryz.underlying3
  a3 := Tryz.isAgg3
  z3 := Tryz.sizeOf3
  v3 := Tryz.zeroValue3
  t4 := Tryz.underlying4
  a4 := Tryz.isAgg4
  z4 := Tryz.sizeOf4
  v4 := Tryz.zeroValue4
  t5 := Tryz.underlying5
  a5 := Tryz.isAgg5
  z5 := Tryz.sizeOf5
  v5 := Tryz.zeroValue5
  t9 := Tryz.underlying9
  a9 := Tryz.isAgg9
  z9 := Tryz.sizeOf9
  v9 := Tryz.zeroValue9
  t22 := Tryz.underlying73
  a22 := Tryz.isAgg73
  z22 := Tryz.sizeOf73
  v22 := Tryz.zeroValue73
  t25 := Tryz.underlying94
  a25 := Tryz.isAgg94
  z25 := Tryz.sizeOf94
  v25 := Tryz.zeroValue94
  t39 := Tryz.underlying45
  a39 := Tryz.isAgg45
  z39 := Tryz.sizeOf45
  v39 := Tryz.zeroValue45
  t45 := Tryz.underlying127
  a45 := Tryz.isAgg127
  z45 := Tryz.sizeOf127
  v45 := Tryz.zeroValue127
  t46 := Tryz.underlying128
  a46 := Tryz.isAgg128
  z46 := Tryz.sizeOf128
  v46 := Tryz.zeroValue128
  t50 := Tryz.underlying132
  a50 := Tryz.isAgg132
  z50 := Tryz.sizeOf132
  v50 := Tryz.zeroValue132
  t53 := Tryz.underlying135
  a53 := Tryz.isAgg135
  z53 := Tryz.sizeOf135
  v53 := Tryz.zeroValue135
  t55 := Tryz.underlying137
  a55 := Tryz.isAgg137
  z55 := Tryz.sizeOf137
  v55 := Tryz.zeroValue137
  t66 := Tryz.underlying149
  a66 := Tryz.isAgg149
  z66 := Tryz.sizeOf149
  v66 := Tryz.zeroValue149
  t70 := Tryz.underlying153
  a70 := Tryz.isAgg153
  z70 := Tryz.sizeOf153
  v70 := Tryz.zeroValue153
  t76 := Tryz.underlying161
  a76 := Tryz.isAgg161
  z76 := Tryz.sizeOf161
  v76 := Tryz.zeroValue161
  t77 := Tryz.underlying162
  a77 := Tryz.isAgg162
  z77 := Tryz.sizeOf162
  v77 := Tryz.zeroValue162 }
def Tryz.sort60_ren : Go.Shelf.Ren := ⟨fun | 6 => 60 | 15 => 73 | 14 => 75 | 28 => 94 | 29 => 95 | 20 => 96 | 21 => 97 | 22 => 98 | 23 => 99 | 24 => 100 | 25 => 101 | 26 => 102 | 27 => 103 | 46 => 122 | 47 => 118 | 48 => 119 | 49 => 123 | 50 => 124 | 57 => 131 | n => n, fun | 22 => 40 | 24 => 44 | 25 => 96 | 3 => 3 | 39 => 45 | 0 => 0 | 53 => 135 | 55 => 137 | 4 => 4 | 46 => 128 | 45 => 127 | 50 => 132 | 5 => 5 | 9 => 9 | 66 => 149 | 70 => 153 | 76 => 161 | 77 => 162 | n => n, fun | n => n⟩
theorem Tryz.sort60 : Go.Proofs.SlLaysF0.n6 Tryz.prog Tryz.sort60_ren := {
  mixed := by kernel_rfl
  f6 := ⟨Tryz.f60.name, by decide, Tryz.func60.trans (congrArg some (by kernel_rfl))⟩
  f14 := ⟨Tryz.f75.name, by decide, Tryz.func75.trans (congrArg some (by kernel_rfl))⟩
  f15 := Tryz.func73.trans (congrArg some (by kernel_rfl))
  f20 := ⟨Tryz.f96.name, by decide, Tryz.func96.trans (congrArg some (by kernel_rfl))⟩
  f21 := ⟨Tryz.f97.name, by decide, Tryz.func97.trans (congrArg some (by kernel_rfl))⟩
  f22 := ⟨Tryz.f98.name, by decide, Tryz.func98.trans (congrArg some (by kernel_rfl))⟩
  f23 := ⟨Tryz.f99.name, by decide, Tryz.func99.trans (congrArg some (by kernel_rfl))⟩
  f24 := ⟨Tryz.f100.name, by decide, Tryz.func100.trans (congrArg some (by kernel_rfl))⟩
  f25 := ⟨Tryz.f101.name, by decide, Tryz.func101.trans (congrArg some (by kernel_rfl))⟩
  f26 := ⟨Tryz.f102.name, by decide, Tryz.func102.trans (congrArg some (by kernel_rfl))⟩
  f27 := ⟨Tryz.f103.name, by decide, Tryz.func103.trans (congrArg some (by kernel_rfl))⟩
  f28 := Tryz.func94.trans (congrArg some (by kernel_rfl))
  f29 := Tryz.func95.trans (congrArg some (by kernel_rfl))
  f46 := ⟨Tryz.f122.name, by decide, Tryz.func122.trans (congrArg some (by kernel_rfl))⟩
  f47 := Tryz.func118.trans (congrArg some (by kernel_rfl))
  f48 := Tryz.func119.trans (congrArg some (by kernel_rfl))
  f49 := ⟨Tryz.f123.name, by decide, Tryz.func123.trans (congrArg some (by kernel_rfl))⟩
  f50 := ⟨Tryz.f124.name, by decide, Tryz.func124.trans (congrArg some (by kernel_rfl))⟩
  f57 := ⟨Tryz.f131.name, by decide, Tryz.func131.trans (congrArg some (by kernel_rfl))⟩
  t0 := Tryz.underlying0
  a0 := Tryz.isAgg0
  z0 := Tryz.sizeOf0
  v0 := Tryz.zeroValue0
  t3 := Tryz.underlying3
  a3 := Tryz.isAgg3
  z3 := Tryz.sizeOf3
  v3 := Tryz.zeroValue3
  t4 := Tryz.underlying4
  a4 := Tryz.isAgg4
  z4 := Tryz.sizeOf4
  v4 := Tryz.zeroValue4
  t5 := Tryz.underlying5
  a5 := Tryz.isAgg5
  z5 := Tryz.sizeOf5
  v5 := Tryz.zeroValue5
  t9 := Tryz.underlying9
  a9 := Tryz.isAgg9
  z9 := Tryz.sizeOf9
  v9 := Tryz.zeroValue9
  t22 := Tryz.underlying40
  a22 := Tryz.isAgg40
  z22 := Tryz.sizeOf40
  v22 := Tryz.zeroValue40
  t25 := Tryz.underlying96
  a25 := Tryz.isAgg96
  z25 := Tryz.sizeOf96
  v25 := Tryz.zeroValue96
  t39 := Tryz.underlying45
  a39 := Tryz.isAgg45
  z39 := Tryz.sizeOf45
  v39 := Tryz.zeroValue45
  t45 := Tryz.underlying127
  a45 := Tryz.isAgg127
  z45 := Tryz.sizeOf127
  v45 := Tryz.zeroValue127
  t46 := Tryz.underlying128
  a46 := Tryz.isAgg128
  z46 := Tryz.sizeOf128
  v46 := Tryz.zeroValue128
  t50 := Tryz.underlying132
  a50 := Tryz.isAgg132
  z50 := Tryz.sizeOf132
  v50 := Tryz.zeroValue132
  t53 := Tryz.underlying135
  a53 := Tryz.isAgg135
  z53 := Tryz.sizeOf135
  v53 := Tryz.zeroValue135
  t55 := Tryz.underlying137
  a55 := Tryz.isAgg137
  z55 := Tryz.sizeOf137
  v55 := Tryz.zeroValue137
  t66 := Tryz.underlying149
  a66 := Tryz.isAgg149
  z66 := Tryz.sizeOf149
  v66 := Tryz.zeroValue149
  t70 := Tryz.underlying153
  a70 := Tryz.isAgg153
  z70 := Tryz.sizeOf153
  v70 := Tryz.zeroValue153
  t76 := Tryz.underlying161
  a76 := Tryz.isAgg161
  z76 := Tryz.sizeOf161
  v76 := Tryz.zeroValue161
  t77 := Tryz.underlying162
  a77 := Tryz.isAgg162
  z77 := Tryz.sizeOf162
  v77 := Tryz.zeroValue162 }
end Go.Proofs
namespace Go.Proofs.YtdcdfjijhmbbpaaGreatDoor
open Go Go.PM Go.Sort Go.RowKit
set_option maxRecDepth 100000
theorem mixed0 : Tryz.prog.follows .mixedOrders = true := by kernel_rfl
theorem cq_nan (d : Nat) (a : Int) : callN Tryz.prog noPrims laid 100 (d + 1) 74 [I a] [] = some ⟨B (a != a), [], none⟩ := by kernel_rfl
theorem cq_cmp (d : Nat) (p q : Int) : callN Tryz.prog noPrims laid 100 (d + 2) 59 [I p, I q] [] = some ⟨I (cmpZ p q), [], none⟩ := by
  have h : callN Tryz.prog noPrims laid 100 (d + 2) 59 [I p, I q] [] = (
    (callN Tryz.prog noPrims laid 100 (d + 1) 74 [I p] []).bind fun out =>
    rC out.r fun c =>
    asB c fun b =>
    (callN Tryz.prog noPrims laid 100 (d + 1) 74 [I q] []).bind fun out1 =>
    rC out1.r fun c1 =>
    asB c1 fun b1 =>
    bif b then
      bif b1 then
        some ⟨I 0, [], none⟩
      else
        some ⟨I (-1), [], none⟩
    else
      bif b1 then
        some ⟨I 1, [], none⟩
      else
        bif decide (p < q) then
          some ⟨I (-1), [], none⟩
        else
          bif decide (p > q) then
            some ⟨I 1, [], none⟩
          else
            some ⟨I 0, [], none⟩) := by kernel_rfl
  rw [h]
  simp only [cq_nan, obs, rC_c, asB_bool, bne_self_eq_false, cf]
  unfold cmpZ
  by_cases h1 : p < q
  · rw [decide_eq_true h1, if_pos h1]; rfl
  · rw [decide_eq_false h1, if_neg h1]
    by_cases h2 : q < p
    · rw [show decide (p > q) = true from decide_eq_true h2, if_pos h2]; rfl
    · rw [show decide (p > q) = false from decide_eq_false h2, if_neg h2]; rfl
theorem cq_57 (x y : List Int) : callN Tryz.prog noPrims laid 100 5 57 [.agg (celR 3 x), .agg (celR 3 y)] [] = some ⟨I (lexZ [0, 1, 2] x y), [], none⟩ := by
  have h : callN Tryz.prog noPrims laid 100 5 57 [.agg (celR 3 x), .agg (celR 3 y)] [] = (
    (callN Tryz.prog noPrims laid 100 4 59 [I (x.getD 0 0), I (y.getD 0 0)] []).bind fun out =>
    rC out.r fun c =>
    asI .i64 c fun i =>
    (callN Tryz.prog noPrims laid 100 4 59 [I (x.getD 1 0), I (y.getD 1 0)] []).bind fun out1 =>
    rC out1.r fun c1 =>
    asI .i64 c1 fun i1 =>
    (callN Tryz.prog noPrims laid 100 4 59 [I (x.getD 2 0), I (y.getD 2 0)] []).bind fun out2 =>
    rC out2.r fun c2 =>
    asI .i64 c2 fun i2 =>
    (callN Tryz.prog noPrims laid 100 4 58 [V.c (C.sl 3 ([C.v (.int .i64 i), C.v (.int .i64 i1), C.v (.int .i64 i2)]))] []).bind fun out3 =>
    rC out3.r fun c3 =>
    asI .i64 c3 fun i3 =>
    some ⟨I i3, [], none⟩) := by kernel_rfl
  rw [h]
  simp only [cq_cmp, obs, rC_c, asI_int]
  simp only [lexZ]
  have z0 : cmpZ (x.getD 0 0) (y.getD 0 0) = -1 ∨ cmpZ (x.getD 0 0) (y.getD 0 0) = 0 ∨ cmpZ (x.getD 0 0) (y.getD 0 0) = 1 := (cmpZ_cases (x.getD 0 0) (y.getD 0 0)).elim (fun h => .inl h.1) fun h => h.elim (fun h => .inr (.inl h.1)) fun h => .inr (.inr h.1)
  generalize cmpZ (x.getD 0 0) (y.getD 0 0) = c0 at z0 ⊢
  have z1 : cmpZ (x.getD 1 0) (y.getD 1 0) = -1 ∨ cmpZ (x.getD 1 0) (y.getD 1 0) = 0 ∨ cmpZ (x.getD 1 0) (y.getD 1 0) = 1 := (cmpZ_cases (x.getD 1 0) (y.getD 1 0)).elim (fun h => .inl h.1) fun h => h.elim (fun h => .inr (.inl h.1)) fun h => .inr (.inr h.1)
  generalize cmpZ (x.getD 1 0) (y.getD 1 0) = c1 at z1 ⊢
  have z2 : cmpZ (x.getD 2 0) (y.getD 2 0) = -1 ∨ cmpZ (x.getD 2 0) (y.getD 2 0) = 0 ∨ cmpZ (x.getD 2 0) (y.getD 2 0) = 1 := (cmpZ_cases (x.getD 2 0) (y.getD 2 0)).elim (fun h => .inl h.1) fun h => h.elim (fun h => .inr (.inl h.1)) fun h => .inr (.inr h.1)
  generalize cmpZ (x.getD 2 0) (y.getD 2 0) = c2 at z2 ⊢
  rcases z0 with rfl | rfl | rfl <;> rcases z1 with rfl | rfl | rfl <;> rcases z2 with rfl | rfl | rfl <;> (show _ = _; kernel_rfl)
theorem sortC_56_57 (g cap : Nat) (d : Array (List Int)) (w : World) (hH : HoldsK (encR 3) 3 w g 0 d) (hg : g < w.heap.size) (hd : d.size < 4611686018427387904) :
    Calls Tryz.prog 56 #[.slice (some ⟨g, 0, none⟩) d.size cap, .func (.func 57) #[] #[]] w fun e w' => e = .returned (.tuple #[]) ∧ ∃ q os, w' = Go.Proofs.sortWorldK (encR 3) 3 w g 0 q (pdq (Go.Proofs.ltOf (lexZ [0, 1, 2])) d 0 d.size (Lib.bitLen d.size) true true) os :=
  AnyQ.slices_SortFunc_eq (ρ := Tryz.sort56_ren) Tryz.sort56 3 (Tryz.isAgg92) (Tryz.sizeOf92) (encR 3) (fun x => by simp [encR]) (fun x v hv => by
      simp only [encR, List.mem_map] at hv
      obtain ⟨i, _, rfl⟩ := hv
      rfl) (lexZ [0, 1, 2]) (lexZ_swo [0, 1, 2]) 57 #[] g 0 cap d w (enters_of Tryz.func57 (by kernel_rfl) rfl) (cmpLays_of mixed0 cq_57 g 0 d.size w) hH hg hd
theorem sortN_56_57 (w : World) : Calls Tryz.prog 56 #[.slice none 0 0, .func (.func 57) #[] #[]] w fun e w' => e = .returned (.tuple #[]) ∧ w' = w :=
  AnyF.slices_SortFunc_none (ρ := Tryz.sort56_ren) { Tryz.sort56 with } none 0 (.func (.func 57) #[] #[]) w
theorem cq_61 (x y : List Int) : callN Tryz.prog noPrims laid 100 5 61 [.agg (celR 2 x), .agg (celR 2 y)] [] = some ⟨I (lexZ [0, 1] x y), [], none⟩ := by
  have h : callN Tryz.prog noPrims laid 100 5 61 [.agg (celR 2 x), .agg (celR 2 y)] [] = (
    (callN Tryz.prog noPrims laid 100 4 59 [I (x.getD 0 0), I (y.getD 0 0)] []).bind fun out =>
    rC out.r fun c =>
    asI .i64 c fun i =>
    (callN Tryz.prog noPrims laid 100 4 59 [I (x.getD 1 0), I (y.getD 1 0)] []).bind fun out1 =>
    rC out1.r fun c1 =>
    asI .i64 c1 fun i1 =>
    (callN Tryz.prog noPrims laid 100 4 58 [V.c (C.sl 2 ([C.v (.int .i64 i), C.v (.int .i64 i1)]))] []).bind fun out2 =>
    rC out2.r fun c2 =>
    asI .i64 c2 fun i2 =>
    some ⟨I i2, [], none⟩) := by kernel_rfl
  rw [h]
  simp only [cq_cmp, obs, rC_c, asI_int]
  simp only [lexZ]
  have z0 : cmpZ (x.getD 0 0) (y.getD 0 0) = -1 ∨ cmpZ (x.getD 0 0) (y.getD 0 0) = 0 ∨ cmpZ (x.getD 0 0) (y.getD 0 0) = 1 := (cmpZ_cases (x.getD 0 0) (y.getD 0 0)).elim (fun h => .inl h.1) fun h => h.elim (fun h => .inr (.inl h.1)) fun h => .inr (.inr h.1)
  generalize cmpZ (x.getD 0 0) (y.getD 0 0) = c0 at z0 ⊢
  have z1 : cmpZ (x.getD 1 0) (y.getD 1 0) = -1 ∨ cmpZ (x.getD 1 0) (y.getD 1 0) = 0 ∨ cmpZ (x.getD 1 0) (y.getD 1 0) = 1 := (cmpZ_cases (x.getD 1 0) (y.getD 1 0)).elim (fun h => .inl h.1) fun h => h.elim (fun h => .inr (.inl h.1)) fun h => .inr (.inr h.1)
  generalize cmpZ (x.getD 1 0) (y.getD 1 0) = c1 at z1 ⊢
  rcases z0 with rfl | rfl | rfl <;> rcases z1 with rfl | rfl | rfl <;> (show _ = _; kernel_rfl)
theorem sortC_60_61 (g cap : Nat) (d : Array (List Int)) (w : World) (hH : HoldsK (encR 2) 2 w g 0 d) (hg : g < w.heap.size) (hd : d.size < 4611686018427387904) :
    Calls Tryz.prog 60 #[.slice (some ⟨g, 0, none⟩) d.size cap, .func (.func 61) #[] #[]] w fun e w' => e = .returned (.tuple #[]) ∧ ∃ q os, w' = Go.Proofs.sortWorldK (encR 2) 2 w g 0 q (pdq (Go.Proofs.ltOf (lexZ [0, 1])) d 0 d.size (Lib.bitLen d.size) true true) os :=
  AnyQ.slices_SortFunc_eq (ρ := Tryz.sort60_ren) Tryz.sort60 2 (Tryz.isAgg44) (Tryz.sizeOf44) (encR 2) (fun x => by simp [encR]) (fun x v hv => by
      simp only [encR, List.mem_map] at hv
      obtain ⟨i, _, rfl⟩ := hv
      rfl) (lexZ [0, 1]) (lexZ_swo [0, 1]) 61 #[] g 0 cap d w (enters_of Tryz.func61 (by kernel_rfl) rfl) (cmpLays_of mixed0 cq_61 g 0 d.size w) hH hg hd
theorem sortN_60_61 (w : World) : Calls Tryz.prog 60 #[.slice none 0 0, .func (.func 61) #[] #[]] w fun e w' => e = .returned (.tuple #[]) ∧ w' = w :=
  AnyF.slices_SortFunc_none (ρ := Tryz.sort60_ren) { Tryz.sort60 with } none 0 (.func (.func 61) #[] #[]) w
end Go.Proofs.YtdcdfjijhmbbpaaGreatDoor
