/-
  DERIVED: THE SHELF's CONTRACTS AT THIS DUMP, IN PLAIN WORDS (tools/lay-plain.mjs out of 'TryShelf.lean', which tools/lay-shelf.mjs wrote): THE SAME DECLARATIONS UNDER THE SAME NAMES: 'import', 'namespace', 'open', 'def', 'theorem' AND NOTHING ELSE: no command of the shelf's: FOR A HAND-IN. Each laying: the table of numbers ('.._ren') and one theorem, a field a fact of the dump's own or the kernel's comparison; each contract: ONE APPLICATION.
-/
import Derived.Shelf.SortM.Plain
import Derived.Shelf.SortM.SortNone
import Derived.Shelf.SlIter.Sorted
import Derived.Shelf.SlIter.Keys
import Derived.Shelf.GgClosure.StringsIndexFuncTop
import Derived.Ground.GgzProg
import Derived.Ground.GgwProg
import Derived.Ground.SlgmProg
import Derived.Test.YtofalpngdbinbaaProg
import Derived.Test.YtofalpngdbinbaaJ5
set_option linter.unusedVariables false
set_option linter.unusedSimpArgs false
namespace Go.Proofs
open Go.Shelf
def Try.laysSlM6_f61_ren : Go.Shelf.Ren := ⟨fun | 6 => 61 | 8 => 72 | 9 => 71 | 19 => 84 | 20 => 85 | 21 => 75 | 22 => 76 | 23 => 77 | 24 => 78 | 25 => 79 | 26 => 80 | 27 => 81 | 28 => 82 | 29 => 83 | 36 => 87 | 31 => 88 | 32 => 89 | 37 => 90 | 38 => 91 | 39 => 92 | 41 => 93 | n => n, fun | 27 => 26 | 29 => 9 | 3 => 3 | 32 => 95 | 26 => 26 | 0 => 0 | 44 => 108 | 46 => 110 | 4 => 4 | 36 => 100 | 35 => 99 | 41 => 105 | 5 => 5 | 9 => 9 | 53 => 112 | 57 => 116 | 63 => 118 | 64 => 119 | n => n, fun | n => n⟩
theorem Try.laysSlM6_f61 : Go.Proofs.SlLaysM.n6 Try.prog Try.laysSlM6_f61_ren := {
  mixed := by kernel_rfl
  f6 := ⟨Try.f61.name, by decide, Try.func61.trans (congrArg some (by kernel_rfl))⟩
  f8 := Try.func72.trans (congrArg some (by kernel_rfl))
  f9 := ⟨Try.f71.name, by decide, Try.func71.trans (congrArg some (by kernel_rfl))⟩
  f19 := Try.func84.trans (congrArg some (by kernel_rfl))
  f20 := Try.func85.trans (congrArg some (by kernel_rfl))
  f21 := ⟨Try.f75.name, by decide, Try.func75.trans (congrArg some (by kernel_rfl))⟩
  f22 := ⟨Try.f76.name, by decide, Try.func76.trans (congrArg some (by kernel_rfl))⟩
  f23 := ⟨Try.f77.name, by decide, Try.func77.trans (congrArg some (by kernel_rfl))⟩
  f24 := ⟨Try.f78.name, by decide, Try.func78.trans (congrArg some (by kernel_rfl))⟩
  f25 := ⟨Try.f79.name, by decide, Try.func79.trans (congrArg some (by kernel_rfl))⟩
  f26 := ⟨Try.f80.name, by decide, Try.func80.trans (congrArg some (by kernel_rfl))⟩
  f27 := ⟨Try.f81.name, by decide, Try.func81.trans (congrArg some (by kernel_rfl))⟩
  f28 := ⟨Try.f82.name, by decide, Try.func82.trans (congrArg some (by kernel_rfl))⟩
  f29 := ⟨Try.f83.name, by decide, Try.func83.trans (congrArg some (by kernel_rfl))⟩
  f31 := Try.func88.trans (congrArg some (by kernel_rfl))
  f32 := Try.func89.trans (congrArg some (by kernel_rfl))
  f36 := ⟨Try.f87.name, by decide, Try.func87.trans (congrArg some (by kernel_rfl))⟩
  f37 := ⟨Try.f90.name, by decide, Try.func90.trans (congrArg some (by kernel_rfl))⟩
  f38 := ⟨Try.f91.name, by decide, Try.func91.trans (congrArg some (by kernel_rfl))⟩
  f39 := ⟨Try.f92.name, by decide, Try.func92.trans (congrArg some (by kernel_rfl))⟩
  f41 := ⟨Try.f93.name, by decide, Try.func93.trans (congrArg some (by kernel_rfl))⟩
  t0 := Try.underlying0
  a0 := Try.isAgg0
  z0 := Try.sizeOf0
  v0 := Try.zeroValue0
  t3 := Try.underlying3
  a3 := Try.isAgg3
  z3 := Try.sizeOf3
  v3 := Try.zeroValue3
  t4 := Try.underlying4
  a4 := Try.isAgg4
  z4 := Try.sizeOf4
  v4 := Try.zeroValue4
  t5 := Try.underlying5
  a5 := Try.isAgg5
  z5 := Try.sizeOf5
  v5 := Try.zeroValue5
  t9 := Try.underlying9
  a9 := Try.isAgg9
  z9 := Try.sizeOf9
  v9 := Try.zeroValue9
  t26 := Try.underlying26
  a26 := Try.isAgg26
  z26 := Try.sizeOf26
  v26 := Try.zeroValue26
  t27 := Try.underlying26
  a27 := Try.isAgg26
  z27 := Try.sizeOf26
  v27 := Try.zeroValue26
  t29 := Try.underlying9
  a29 := Try.isAgg9
  z29 := Try.sizeOf9
  v29 := Try.zeroValue9
  t32 := Try.underlying95
  a32 := Try.isAgg95
  z32 := Try.sizeOf95
  v32 := Try.zeroValue95
  t35 := Try.underlying99
  a35 := Try.isAgg99
  z35 := Try.sizeOf99
  v35 := Try.zeroValue99
  t36 := Try.underlying100
  a36 := Try.isAgg100
  z36 := Try.sizeOf100
  v36 := Try.zeroValue100
  t41 := Try.underlying105
  a41 := Try.isAgg105
  z41 := Try.sizeOf105
  v41 := Try.zeroValue105
  t44 := Try.underlying108
  a44 := Try.isAgg108
  z44 := Try.sizeOf108
  v44 := Try.zeroValue108
  t46 := Try.underlying110
  a46 := Try.isAgg110
  z46 := Try.sizeOf110
  v46 := Try.zeroValue110
  t53 := Try.underlying112
  a53 := Try.isAgg112
  z53 := Try.sizeOf112
  v53 := Try.zeroValue112
  t57 := Try.underlying116
  a57 := Try.isAgg116
  z57 := Try.sizeOf116
  v57 := Try.zeroValue116
  t63 := Try.underlying118
  a63 := Try.isAgg118
  z63 := Try.sizeOf118
  v63 := Try.zeroValue118
  t64 := Try.underlying119
  a64 := Try.isAgg119
  z64 := Try.sizeOf119
  v64 := Try.zeroValue119 }
def Try.laysZ7_f35_ren : Go.Shelf.Ren := ⟨fun | 7 => 35 | 10 => 62 | n => n, fun | 23 => 62 | 26 => 9 | 3 => 42 | 28 => 66 | 0 => 0 | 27 => 65 | 33 => 69 | 4 => 4 | n => n, fun | n => n⟩
theorem Try.laysZ7_f35 : Go.Proofs.SlLaysZ.n7 Try.prog Try.laysZ7_f35_ren := {
  mixed := by kernel_rfl
  f7 := ⟨Try.f35.name, by decide, Try.func35.trans (congrArg some (by kernel_rfl))⟩
  f10 := ⟨Try.f62.name, by decide, Try.func62.trans (congrArg some (by kernel_rfl))⟩
  t0 := Try.underlying0
  a0 := Try.isAgg0
  z0 := Try.sizeOf0
  v0 := Try.zeroValue0
  t4 := Try.underlying4
  a4 := Try.isAgg4
  z4 := Try.sizeOf4
  v4 := Try.zeroValue4
  t23 := Try.underlying62
  a23 := Try.isAgg62
  z23 := Try.sizeOf62
  v23 := Try.zeroValue62
  t26 := Try.underlying9
  a26 := Try.isAgg9
  z26 := Try.sizeOf9
  v26 := Try.zeroValue9
  t27 := Try.underlying65
  a27 := Try.isAgg65
  z27 := Try.sizeOf65
  v27 := Try.zeroValue65
  t28 := Try.underlying66
  a28 := Try.isAgg66
  z28 := Try.sizeOf66
  v28 := Try.zeroValue66
  t33 := Try.underlying69
  a33 := Try.isAgg69
  z33 := Try.sizeOf69
  v33 := Try.zeroValue69 }
def Try.laysZ6_f34_ren : Go.Shelf.Ren := ⟨fun | 6 => 34 | 8 => 60 | 9 => 61 | 11 => 70 | 13 => 72 | 12 => 71 | 23 => 84 | 24 => 85 | 14 => 75 | 15 => 76 | 16 => 77 | 17 => 78 | 18 => 79 | 19 => 80 | 20 => 81 | 21 => 82 | 22 => 83 | 25 => 87 | 26 => 88 | 27 => 89 | 28 => 90 | 29 => 91 | 30 => 92 | 31 => 93 | n => n, fun | 26 => 9 | 28 => 66 | 24 => 26 | 0 => 0 | 3 => 3 | 37 => 95 | 48 => 108 | 50 => 110 | 4 => 4 | 40 => 100 | 39 => 99 | 45 => 105 | 5 => 5 | 9 => 9 | 51 => 112 | 55 => 116 | 57 => 118 | 58 => 119 | 33 => 69 | n => n, fun | n => n⟩
theorem Try.laysZ6_f34 : Go.Proofs.SlLaysZ.n6 Try.prog Try.laysZ6_f34_ren := {
  mixed := by kernel_rfl
  f6 := ⟨Try.f34.name, by decide, Try.func34.trans (congrArg some (by kernel_rfl))⟩
  f8 := ⟨Try.f60.name, by decide, Try.func60.trans (congrArg some (by kernel_rfl))⟩
  f11 := ⟨Try.f70.name, by decide, Try.func70.trans (congrArg some (by kernel_rfl))⟩
  t0 := Try.underlying0
  a0 := Try.isAgg0
  z0 := Try.sizeOf0
  v0 := Try.zeroValue0
  t24 := Try.underlying26
  a24 := Try.isAgg26
  z24 := Try.sizeOf26
  v24 := Try.zeroValue26
  t26 := Try.underlying9
  a26 := Try.isAgg9
  z26 := Try.sizeOf9
  v26 := Try.zeroValue9
  t28 := Try.underlying66
  a28 := Try.isAgg66
  z28 := Try.sizeOf66
  v28 := Try.zeroValue66
  i26 := by kernel_rfl }
def Try.laysGw17_ren : Go.Shelf.Ren := ⟨fun | 17 => 65 | 15 => 73 | 20 => 86 | n => n, fun | 9 => 9 | 23 => 89 | 4 => 4 | 3 => 3 | 0 => 0 | 21 => 21 | n => n, fun | n => n⟩
theorem Try.laysGw17 : Go.Proofs.LaysGw.n17 Try.prog Try.laysGw17_ren := {
  mixed := by kernel_rfl
  f15 := Try.func73.trans (congrArg some (by kernel_rfl))
  f17 := Try.func65.trans (congrArg some (by kernel_rfl))
  f20 := Try.func86.trans (congrArg some (by kernel_rfl))
  t0 := Try.underlying0
  a0 := Try.isAgg0
  z0 := Try.sizeOf0
  v0 := Try.zeroValue0
  i0 := by kernel_rfl
  t3 := Try.underlying3
  a3 := Try.isAgg3
  z3 := Try.sizeOf3
  v3 := Try.zeroValue3
  i3 := by kernel_rfl
  t4 := Try.underlying4
  a4 := Try.isAgg4
  z4 := Try.sizeOf4
  v4 := Try.zeroValue4
  i4 := by kernel_rfl
  t9 := Try.underlying9
  a9 := Try.isAgg9
  z9 := Try.sizeOf9
  v9 := Try.zeroValue9
  i9 := by kernel_rfl
  t21 := Try.underlying21
  a21 := Try.isAgg21
  z21 := Try.sizeOf21
  v21 := Try.zeroValue21
  i21 := by kernel_rfl
  t23 := Try.underlying89
  a23 := Try.isAgg89
  z23 := Try.sizeOf89
  v23 := Try.zeroValue89
  i23 := by kernel_rfl }
end Go.Proofs

namespace Go.Proofs.Ytofalpngdbinbaa
open Go Go.PM Go.RowKit Go.Maps Go.Sort Go.Shelf
theorem stringT : Try.prog.underlying 9 = some .string := by kernel_rfl
theorem keysC (mb : Option Nat) (W : World) : Calls Try.prog 35 #[.map mb] W fun e w' => e = .returned (.func (.func 62) #[] #[.pointer (some ⟨W.heap.size, 0, none⟩)]) ∧ w' = W.alloc (.cells #[.map mb] 62) :=
  (callsIn_wide (n := 5)).1 (AnyZ.keys_in Try.laysZ7_f35 Fence.wide 5 trivial rfl mb W)
theorem sortsC (m : Nat) : AnyZ.SortsIn Try.prog Try.laysZ6_f34_ren Fence.wide m :=
  ⟨fun blk off cap ss W hH hblk hsz => callsIn_wide.2 (AnyM.slices_Sort_string Try.laysSlM6_f61 blk off cap ss W hH hblk hsz),
   fun p cap W => callsIn_wide.2 (AnyM.slices_Sort_string_none Try.laysSlM6_f61 p cap W)⟩
theorem sortedC (Bm b nn : Nat) (D0 : DataW Unit) (w : World) (hB : Bm < w.heap.size) (hc : w.cell? ⟨Bm, 0, none⟩ = some (.map (some b))) (hown : w.ownsMap Try.prog 9 PM.R0 b nn D0) (hmax : Maps.size D0 ≤ maxLen) (hbytes : Maps.size D0 * 16 ≤ 140737488355328) :
    Calls Try.prog 34 #[.func (.func 62) #[] #[.pointer (some ⟨Bm, 0, none⟩)]] w fun e w' => ∃ (v : Value) (ss : List (List UInt8)), e = .returned v ∧ ss.Perm (strKeys D0) ∧
      w'.ownsRow w.heap.size 9 1 v ss.length ((ss.mergeSort (fun x y => decide (x ≤ y))).map encStr) ∧ (v = .slice none 0 0 ↔ ss = []) ∧ Below w.heap.size w w' := by
  have hseq : SeqGives Fence.wide 2 Try.prog 62 #[.pointer (some ⟨Bm, 0, none⟩)] encStr (fun ss => ss.Perm (strKeys D0)) (Maps.size D0) w :=
    AnyZ.keys_gives (ρ := Try.laysZ7_f35_ren) { Try.laysZ7_f35 with } Fence.wide _ trivial rfl (by omega) Bm b nn D0 w hB hc hown
  exact (callsIn_wide (n := 5)).1 (AnyZ.sorted_in Try.laysZ6_f34 Fence.wide 5 trivial trivial trivial trivial rfl (by omega) (sortsC _) (enters_of Try.func61 (by kernel_rfl) rfl) 62 #[.pointer (some ⟨Bm, 0, none⟩)] trivial (enters_of Try.func62 (by kernel_rfl) rfl) _ _ hmax hbytes _ hseq)
theorem oddC (w : World) : PredAt Try.prog 66 #[] encR oddRune w := fun W r _ => by
  unfold FnGives
  by_cases h1 : r < 65 <;> by_cases h2 : 90 < r <;> by_cases h3 : r < 48 <;> by_cases h4 : 57 < r
  all_goals
    have z1 : (r : Int) < 65 ↔ r < 65 := by omega
    have z2 : (90 : Int) < (r : Int) ↔ 90 < r := by omega
    have z3 : (r : Int) < 48 ↔ r < 48 := by omega
    have z4 : (57 : Int) < (r : Int) ↔ 57 < r := by omega
    go_enter Try.func66, Try.ntmps66
    go_wp2
    all_goals first | (exfalso; omega) | (go_ret; exact ⟨by simp [oddRune, h1, h2, h3, h4], 0, rfl⟩)
theorem nameC (s : ByteArray) (W : World) : Calls Try.prog 65 #[.string s, .func (.func 66) #[] #[]] W fun e w' => e = .returned (.bool (hasRune oddRune s)) ∧ Below W.heap.size W w' :=
  Any.strings_ContainsFunc Try.laysGw17 66 #[] (enters_of Try.func66 (by kernel_rfl) rfl) oddRune s W (oddC W)
end Go.Proofs.Ytofalpngdbinbaa
