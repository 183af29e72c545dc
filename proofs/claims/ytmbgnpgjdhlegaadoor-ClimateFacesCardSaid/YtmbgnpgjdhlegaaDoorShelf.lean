/-
  DERIVED: THE SHELF's CONTRACTS AT THIS DUMP, IN PLAIN WORDS (tools/lay-plain.mjs out of 'TrydShelf.lean', which tools/lay-shelf.mjs wrote): THE SAME DECLARATIONS UNDER THE SAME NAMES: 'import', 'namespace', 'open', 'def', 'theorem' AND NOTHING ELSE: no command of the shelf's: FOR A HAND-IN. Each laying: the table of numbers ('.._ren') and one theorem, a field a fact of the dump's own or the kernel's comparison; each contract: ONE APPLICATION.
-/
import Derived.Shelf.SlSortCmp.WholeK
import Derived.Shelf.SlSortCmp.NoneTotal
import Derived.Ground.SlsfProg
import Derived.Test.YtmbgnpgjdhlegaaDoorProg
import Derived.Test.YtmbgnpgjdhlegaaDoorLay
set_option linter.unusedVariables false
set_option linter.unusedSimpArgs false
namespace Go.Proofs
open Go.Shelf
def Tryd.sort39_ren : Go.Shelf.Ren := ⟨fun | 6 => 39 | 15 => 79 | 14 => 78 | 28 => 98 | 29 => 99 | 20 => 90 | 21 => 91 | 22 => 92 | 23 => 93 | 24 => 94 | 25 => 95 | 26 => 96 | 27 => 97 | 46 => 101 | 47 => 102 | 48 => 103 | 49 => 104 | 50 => 105 | 57 => 106 | n => n, fun | 22 => 28 | 24 => 46 | 25 => 81 | 3 => 3 | 39 => 117 | 0 => 0 | 53 => 135 | 55 => 137 | 4 => 4 | 46 => 129 | 45 => 128 | 50 => 85 | 5 => 5 | 9 => 9 | 66 => 140 | 70 => 144 | 76 => 146 | 77 => 147 | n => n, fun | n => n⟩
theorem Tryd.sort39 : Go.Proofs.SlLaysF0.n6 Tryd.prog Tryd.sort39_ren := {
  mixed := by kernel_rfl
  f6 := ⟨Tryd.f39.name, by decide, Tryd.func39.trans (congrArg some (by kernel_rfl))⟩
  f14 := ⟨Tryd.f78.name, by decide, Tryd.func78.trans (congrArg some (by kernel_rfl))⟩
  f15 := Tryd.func79.trans (congrArg some (by kernel_rfl))
  f20 := ⟨Tryd.f90.name, by decide, Tryd.func90.trans (congrArg some (by kernel_rfl))⟩
  f21 := ⟨Tryd.f91.name, by decide, Tryd.func91.trans (congrArg some (by kernel_rfl))⟩
  f22 := ⟨Tryd.f92.name, by decide, Tryd.func92.trans (congrArg some (by kernel_rfl))⟩
  f23 := ⟨Tryd.f93.name, by decide, Tryd.func93.trans (congrArg some (by kernel_rfl))⟩
  f24 := ⟨Tryd.f94.name, by decide, Tryd.func94.trans (congrArg some (by kernel_rfl))⟩
  f25 := ⟨Tryd.f95.name, by decide, Tryd.func95.trans (congrArg some (by kernel_rfl))⟩
  f26 := ⟨Tryd.f96.name, by decide, Tryd.func96.trans (congrArg some (by kernel_rfl))⟩
  f27 := ⟨Tryd.f97.name, by decide, Tryd.func97.trans (congrArg some (by kernel_rfl))⟩
  f28 := Tryd.func98.trans (congrArg some (by kernel_rfl))
  f29 := Tryd.func99.trans (congrArg some (by kernel_rfl))
  f46 := ⟨Tryd.f101.name, by decide, Tryd.func101.trans (congrArg some (by kernel_rfl))⟩
  f47 := Tryd.func102.trans (congrArg some (by kernel_rfl))
  f48 := Tryd.func103.trans (congrArg some (by kernel_rfl))
  f49 := ⟨Tryd.f104.name, by decide, Tryd.func104.trans (congrArg some (by kernel_rfl))⟩
  f50 := ⟨Tryd.f105.name, by decide, Tryd.func105.trans (congrArg some (by kernel_rfl))⟩
  f57 := ⟨Tryd.f106.name, by decide, Tryd.func106.trans (congrArg some (by kernel_rfl))⟩
  t0 := Tryd.underlying0
  a0 := Tryd.isAgg0
  z0 := Tryd.sizeOf0
  v0 := Tryd.zeroValue0
  t3 := Tryd.underlying3
  a3 := Tryd.isAgg3
  z3 := Tryd.sizeOf3
  v3 := Tryd.zeroValue3
  t4 := Tryd.underlying4
  a4 := Tryd.isAgg4
  z4 := Tryd.sizeOf4
  v4 := Tryd.zeroValue4
  t5 := Tryd.underlying5
  a5 := Tryd.isAgg5
  z5 := Tryd.sizeOf5
  v5 := Tryd.zeroValue5
  t9 := Tryd.underlying9
  a9 := Tryd.isAgg9
  z9 := Tryd.sizeOf9
  v9 := Tryd.zeroValue9
  t22 := Tryd.underlying28
  a22 := Tryd.isAgg28
  z22 := Tryd.sizeOf28
  v22 := Tryd.zeroValue28
  t25 := Tryd.underlying81
  a25 := Tryd.isAgg81
  z25 := Tryd.sizeOf81
  v25 := Tryd.zeroValue81
  t39 := Tryd.underlying117
  a39 := Tryd.isAgg117
  z39 := Tryd.sizeOf117
  v39 := Tryd.zeroValue117
  t45 := Tryd.underlying128
  a45 := Tryd.isAgg128
  z45 := Tryd.sizeOf128
  v45 := Tryd.zeroValue128
  t46 := Tryd.underlying129
  a46 := Tryd.isAgg129
  z46 := Tryd.sizeOf129
  v46 := Tryd.zeroValue129
  t50 := Tryd.underlying85
  a50 := Tryd.isAgg85
  z50 := Tryd.sizeOf85
  v50 := Tryd.zeroValue85
  t53 := Tryd.underlying135
  a53 := Tryd.isAgg135
  z53 := Tryd.sizeOf135
  v53 := Tryd.zeroValue135
  t55 := Tryd.underlying137
  a55 := Tryd.isAgg137
  z55 := Tryd.sizeOf137
  v55 := Tryd.zeroValue137
  t66 := Tryd.underlying140
  a66 := Tryd.isAgg140
  z66 := Tryd.sizeOf140
  v66 := Tryd.zeroValue140
  t70 := Tryd.underlying144
  a70 := Tryd.isAgg144
  z70 := Tryd.sizeOf144
  v70 := Tryd.zeroValue144
  t76 := Tryd.underlying146
  a76 := Tryd.isAgg146
  z76 := Tryd.sizeOf146
  v76 := Tryd.zeroValue146
  t77 := Tryd.underlying147
  a77 := Tryd.isAgg147
  z77 := Tryd.sizeOf147
  v77 := Tryd.zeroValue147 }
end Go.Proofs
namespace Go.Proofs.YtmbgnpgjdhlegaaDoor
open Go Go.PM Go.Sort Go.RowKit
set_option maxRecDepth 100000
theorem mixed0 : Tryd.prog.follows .mixedOrders = true := by kernel_rfl
theorem cq_nan (d : Nat) (a : Int) : callN Tryd.prog noPrims laid 100 (d + 1) 100 [I a] [] = some ⟨B (a != a), [], none⟩ := by kernel_rfl
theorem cq_cmp (d : Nat) (p q : Int) : callN Tryd.prog noPrims laid 100 (d + 2) 81 [I p, I q] [] = some ⟨I (cmpZ p q), [], none⟩ := by
  have h : callN Tryd.prog noPrims laid 100 (d + 2) 81 [I p, I q] [] = (
    (callN Tryd.prog noPrims laid 100 (d + 1) 100 [I p] []).bind fun out =>
    rC out.r fun c =>
    asB c fun b =>
    (callN Tryd.prog noPrims laid 100 (d + 1) 100 [I q] []).bind fun out1 =>
    rC out1.r fun c1 =>
    asB c1 fun b1 =>
    bif b then
      bif b1 then
        some ⟨I 0, [], none⟩
      else
        some ⟨I (-1), [], none⟩
    else
      bif b1 then
        some ⟨I 1, [], none⟩
      else
        bif decide (p < q) then
          some ⟨I (-1), [], none⟩
        else
          bif decide (p > q) then
            some ⟨I 1, [], none⟩
          else
            some ⟨I 0, [], none⟩) := by kernel_rfl
  rw [h]
  simp only [cq_nan, obs, rC_c, asB_bool, bne_self_eq_false, cf]
  unfold cmpZ
  by_cases h1 : p < q
  · rw [decide_eq_true h1, if_pos h1]; rfl
  · rw [decide_eq_false h1, if_neg h1]
    by_cases h2 : q < p
    · rw [show decide (p > q) = true from decide_eq_true h2, if_pos h2]; rfl
    · rw [show decide (p > q) = false from decide_eq_false h2, if_neg h2]; rfl
theorem cq_40 (x y : List Int) : callN Tryd.prog noPrims laid 100 5 40 [.agg (celR 5 x), .agg (celR 5 y)] [] = some ⟨I (lexZ [0, 1, 2] x y), [], none⟩ := by
  have h : callN Tryd.prog noPrims laid 100 5 40 [.agg (celR 5 x), .agg (celR 5 y)] [] = (
    (callN Tryd.prog noPrims laid 100 4 81 [I (x.getD 0 0), I (y.getD 0 0)] []).bind fun out =>
    rC out.r fun c =>
    asI .i64 c fun i =>
    (callN Tryd.prog noPrims laid 100 4 81 [I (x.getD 1 0), I (y.getD 1 0)] []).bind fun out1 =>
    rC out1.r fun c1 =>
    asI .i64 c1 fun i1 =>
    (callN Tryd.prog noPrims laid 100 4 81 [I (x.getD 2 0), I (y.getD 2 0)] []).bind fun out2 =>
    rC out2.r fun c2 =>
    asI .i64 c2 fun i2 =>
    (callN Tryd.prog noPrims laid 100 4 80 [V.c (C.sl 3 ([C.v (.int .i64 i), C.v (.int .i64 i1), C.v (.int .i64 i2)]))] []).bind fun out3 =>
    rC out3.r fun c3 =>
    asI .i64 c3 fun i3 =>
    some ⟨I i3, [], none⟩) := by kernel_rfl
  rw [h]
  simp only [cq_cmp, obs, rC_c, asI_int]
  simp only [lexZ]
  have z0 : cmpZ (x.getD 0 0) (y.getD 0 0) = -1 ∨ cmpZ (x.getD 0 0) (y.getD 0 0) = 0 ∨ cmpZ (x.getD 0 0) (y.getD 0 0) = 1 := (cmpZ_cases (x.getD 0 0) (y.getD 0 0)).elim (fun h => .inl h.1) fun h => h.elim (fun h => .inr (.inl h.1)) fun h => .inr (.inr h.1)
  generalize cmpZ (x.getD 0 0) (y.getD 0 0) = c0 at z0 ⊢
  have z1 : cmpZ (x.getD 1 0) (y.getD 1 0) = -1 ∨ cmpZ (x.getD 1 0) (y.getD 1 0) = 0 ∨ cmpZ (x.getD 1 0) (y.getD 1 0) = 1 := (cmpZ_cases (x.getD 1 0) (y.getD 1 0)).elim (fun h => .inl h.1) fun h => h.elim (fun h => .inr (.inl h.1)) fun h => .inr (.inr h.1)
  generalize cmpZ (x.getD 1 0) (y.getD 1 0) = c1 at z1 ⊢
  have z2 : cmpZ (x.getD 2 0) (y.getD 2 0) = -1 ∨ cmpZ (x.getD 2 0) (y.getD 2 0) = 0 ∨ cmpZ (x.getD 2 0) (y.getD 2 0) = 1 := (cmpZ_cases (x.getD 2 0) (y.getD 2 0)).elim (fun h => .inl h.1) fun h => h.elim (fun h => .inr (.inl h.1)) fun h => .inr (.inr h.1)
  generalize cmpZ (x.getD 2 0) (y.getD 2 0) = c2 at z2 ⊢
  rcases z0 with rfl | rfl | rfl <;> rcases z1 with rfl | rfl | rfl <;> rcases z2 with rfl | rfl | rfl <;> (show _ = _; kernel_rfl)
theorem sortC_39_40 (g cap : Nat) (d : Array (List Int)) (w : World) (hH : HoldsK (encR 5) 5 w g 0 d) (hg : g < w.heap.size) (hd : d.size < 4611686018427387904) :
    Calls Tryd.prog 39 #[.slice (some ⟨g, 0, none⟩) d.size cap, .func (.func 40) #[] #[]] w fun e w' => e = .returned (.tuple #[]) ∧ ∃ q os, w' = Go.Proofs.sortWorldK (encR 5) 5 w g 0 q (pdq (Go.Proofs.ltOf (lexZ [0, 1, 2])) d 0 d.size (Lib.bitLen d.size) true true) os :=
  AnyQ.slices_SortFunc_eq (ρ := Tryd.sort39_ren) Tryd.sort39 5 (Tryd.isAgg46) (Tryd.sizeOf46) (encR 5) (fun x => by simp [encR]) (fun x v hv => by
      simp only [encR, List.mem_map] at hv
      obtain ⟨i, _, rfl⟩ := hv
      rfl) (lexZ [0, 1, 2]) (lexZ_swo [0, 1, 2]) 40 #[] g 0 cap d w (enters_of Tryd.func40 (by kernel_rfl) rfl) (cmpLays_of mixed0 cq_40 g 0 d.size w) hH hg hd
theorem sortN_39_40 (w : World) : Calls Tryd.prog 39 #[.slice none 0 0, .func (.func 40) #[] #[]] w fun e w' => e = .returned (.tuple #[]) ∧ w' = w :=
  AnyF.slices_SortFunc_none (ρ := Tryd.sort39_ren) { Tryd.sort39 with } none 0 (.func (.func 40) #[] #[]) w
end Go.Proofs.YtmbgnpgjdhlegaaDoor
