/-
  DERIVED: THE SHELF's CONTRACTS AT THIS DUMP, IN PLAIN WORDS (tools/lay-plain.mjs out of 'TryzShelf.lean', which tools/lay-shelf.mjs wrote): THE SAME DECLARATIONS UNDER THE SAME NAMES: 'import', 'namespace', 'open', 'def', 'theorem' AND NOTHING ELSE: no command of the shelf's: FOR A HAND-IN. Each laying: the table of numbers ('.._ren') and one theorem, a field a fact of the dump's own or the kernel's comparison; each contract: ONE APPLICATION.
-/
import Derived.Test.YtoaanfjcjbghaaaGreatDoorJ7
import Derived.Shelf.SlSortCmp.WholeK
import Derived.Shelf.SlSortCmp.NoneTotal
import Derived.Ground.SlsfProg
import Derived.Test.YtoaanfjcjbghaaaGreatDoorProg
import Derived.Test.YtoaanfjcjbghaaaGreatDoorLay
set_option linter.unusedVariables false
set_option linter.unusedSimpArgs false
namespace Go.Proofs
open Go.Shelf
def Tryz.sort102_ren : Go.Shelf.Ren := ⟨fun | 6 => 102 | 15 => 132 | 14 => 131 | 28 => 155 | 29 => 156 | 20 => 147 | 21 => 148 | 22 => 149 | 23 => 150 | 24 => 151 | 25 => 152 | 26 => 153 | 27 => 154 | 46 => 177 | 47 => 178 | 48 => 179 | 49 => 180 | 50 => 181 | 57 => 190 | n => n, fun | 22 => 108 | 24 => 138 | 25 => 140 | 3 => 3 | 39 => 91 | 0 => 0 | 53 => 164 | 55 => 167 | 4 => 4 | 46 => 194 | 45 => 193 | 50 => 198 | 5 => 5 | 9 => 9 | 66 => 214 | 70 => 218 | 76 => 226 | 77 => 227 | n => n, fun | n => n⟩
theorem Tryz.sort102 : Go.Proofs.SlLaysF0.n6 Tryz.prog Tryz.sort102_ren := {
  mixed := by kernel_rfl
  f6 := ⟨Tryz.f102.name, by decide, Tryz.func102.trans (congrArg some (by kernel_rfl))⟩
  f14 := ⟨Tryz.f131.name, by decide, Tryz.func131.trans (congrArg some (by kernel_rfl))⟩
  f15 := Tryz.func132.trans (congrArg some (by kernel_rfl))
  f20 := ⟨Tryz.f147.name, by decide, Tryz.func147.trans (congrArg some (by kernel_rfl))⟩
  f21 := ⟨Tryz.f148.name, by decide, Tryz.func148.trans (congrArg some (by kernel_rfl))⟩
  f22 := ⟨Tryz.f149.name, by decide, Tryz.func149.trans (congrArg some (by kernel_rfl))⟩
  f23 := ⟨Tryz.f150.name, by decide, Tryz.func150.trans (congrArg some (by kernel_rfl))⟩
  f24 := ⟨Tryz.f151.name, by decide, Tryz.func151.trans (congrArg some (by kernel_rfl))⟩
  f25 := ⟨Tryz.f152.name, by decide, Tryz.func152.trans (congrArg some (by kernel_rfl))⟩
  f26 := ⟨Tryz.f153.name, by decide, Tryz.func153.trans (congrArg some (by kernel_rfl))⟩
  f27 := ⟨Tryz.f154.name, by decide, Tryz.func154.trans (congrArg some (by kernel_rfl))⟩
  f28 := Tryz.func155.trans (congrArg some (by kernel_rfl))
  f29 := Tryz.func156.trans (congrArg some (by kernel_rfl))
  f46 := ⟨Tryz.f177.name, by decide, Tryz.func177.trans (congrArg some (by kernel_rfl))⟩
  f47 := Tryz.func178.trans (congrArg some (by kernel_rfl))
  f48 := Tryz.func179.trans (congrArg some (by kernel_rfl))
  f49 := ⟨Tryz.f180.name, by decide, Tryz.func180.trans (congrArg some (by kernel_rfl))⟩
  f50 := ⟨Tryz.f181.name, by decide, Tryz.func181.trans (congrArg some (by kernel_rfl))⟩
  f57 := ⟨Tryz.f190.name, by decide, Tryz.func190.trans (congrArg some (by kernel_rfl))⟩
  t0 := Tryz.underlying0
  a0 := Tryz.isAgg0
  z0 := Tryz.sizeOf0
  v0 := Tryz.zeroValue0
  t3 := Tryz.underlying3
  a3 := Tryz.isAgg3
  z3 := Tryz.sizeOf3
  v3 := Tryz.zeroValue3
  t4 := Tryz.underlying4
  a4 := Tryz.isAgg4
  z4 := Tryz.sizeOf4
  v4 := Tryz.zeroValue4
  t5 := Tryz.underlying5
  a5 := Tryz.isAgg5
  z5 := Tryz.sizeOf5
  v5 := Tryz.zeroValue5
  t9 := Tryz.underlying9
  a9 := Tryz.isAgg9
  z9 := Tryz.sizeOf9
  v9 := Tryz.zeroValue9
  t22 := Tryz.underlying108
  a22 := Tryz.isAgg108
  z22 := Tryz.sizeOf108
  v22 := Tryz.zeroValue108
  t25 := Tryz.underlying140
  a25 := Tryz.isAgg140
  z25 := Tryz.sizeOf140
  v25 := Tryz.zeroValue140
  t39 := Tryz.underlying91
  a39 := Tryz.isAgg91
  z39 := Tryz.sizeOf91
  v39 := Tryz.zeroValue91
  t45 := Tryz.underlying193
  a45 := Tryz.isAgg193
  z45 := Tryz.sizeOf193
  v45 := Tryz.zeroValue193
  t46 := Tryz.underlying194
  a46 := Tryz.isAgg194
  z46 := Tryz.sizeOf194
  v46 := Tryz.zeroValue194
  t50 := Tryz.underlying198
  a50 := Tryz.isAgg198
  z50 := Tryz.sizeOf198
  v50 := Tryz.zeroValue198
  t53 := Tryz.underlying164
  a53 := Tryz.isAgg164
  z53 := Tryz.sizeOf164
  v53 := Tryz.zeroValue164
  t55 := Tryz.underlying167
  a55 := Tryz.isAgg167
  z55 := Tryz.sizeOf167
  v55 := Tryz.zeroValue167
  t66 := Tryz.underlying214
  a66 := Tryz.isAgg214
  z66 := Tryz.sizeOf214
  v66 := Tryz.zeroValue214
  t70 := Tryz.underlying218
  a70 := Tryz.isAgg218
  z70 := Tryz.sizeOf218
  v70 := Tryz.zeroValue218
  t76 := Tryz.underlying226
  a76 := Tryz.isAgg226
  z76 := Tryz.sizeOf226
  v76 := Tryz.zeroValue226
  t77 := Tryz.underlying227
  a77 := Tryz.isAgg227
  z77 := Tryz.sizeOf227
  v77 := Tryz.zeroValue227 }
def Tryz.sort106_ren : Go.Shelf.Ren := ⟨fun | 6 => 106 | 15 => 132 | 14 => 134 | 28 => 155 | 29 => 156 | 20 => 157 | 21 => 158 | 22 => 159 | 23 => 160 | 24 => 161 | 25 => 162 | 26 => 163 | 27 => 164 | 46 => 182 | 47 => 178 | 48 => 179 | 49 => 183 | 50 => 184 | 57 => 191 | n => n, fun | 22 => 58 | 24 => 63 | 25 => 142 | 3 => 3 | 39 => 91 | 0 => 0 | 53 => 164 | 55 => 167 | 4 => 4 | 46 => 194 | 45 => 193 | 50 => 198 | 5 => 5 | 9 => 9 | 66 => 214 | 70 => 218 | 76 => 226 | 77 => 227 | n => n, fun | n => n⟩
theorem Tryz.sort106 : Go.Proofs.SlLaysF0.n6 Tryz.prog Tryz.sort106_ren := {
  mixed := by kernel_rfl
  f6 := ⟨Tryz.f106.name, by decide, Tryz.func106.trans (congrArg some (by kernel_rfl))⟩
  f14 := ⟨Tryz.f134.name, by decide, Tryz.func134.trans (congrArg some (by kernel_rfl))⟩
  f15 := Tryz.func132.trans (congrArg some (by kernel_rfl))
  f20 := ⟨Tryz.f157.name, by decide, Tryz.func157.trans (congrArg some (by kernel_rfl))⟩
  f21 := ⟨Tryz.f158.name, by decide, Tryz.func158.trans (congrArg some (by kernel_rfl))⟩
  f22 := ⟨Tryz.f159.name, by decide, Tryz.func159.trans (congrArg some (by kernel_rfl))⟩
  f23 := ⟨Tryz.f160.name, by decide, Tryz.func160.trans (congrArg some (by kernel_rfl))⟩
  f24 := ⟨Tryz.f161.name, by decide, Tryz.func161.trans (congrArg some (by kernel_rfl))⟩
  f25 := ⟨Tryz.f162.name, by decide, Tryz.func162.trans (congrArg some (by kernel_rfl))⟩
  f26 := ⟨Tryz.f163.name, by decide, Tryz.func163.trans (congrArg some (by kernel_rfl))⟩
  f27 := ⟨Tryz.f164.name, by decide, Tryz.func164.trans (congrArg some (by kernel_rfl))⟩
  f28 := Tryz.func155.trans (congrArg some (by kernel_rfl))
  f29 := Tryz.func156.trans (congrArg some (by kernel_rfl))
  f46 := ⟨Tryz.f182.name, by decide, Tryz.func182.trans (congrArg some (by kernel_rfl))⟩
  f47 := Tryz.func178.trans (congrArg some (by kernel_rfl))
  f48 := Tryz.func179.trans (congrArg some (by kernel_rfl))
  f49 := ⟨Tryz.f183.name, by decide, Tryz.func183.trans (congrArg some (by kernel_rfl))⟩
  f50 := ⟨Tryz.f184.name, by decide, Tryz.func184.trans (congrArg some (by kernel_rfl))⟩
  f57 := ⟨Tryz.f191.name, by decide, Tryz.func191.trans (congrArg some (by kernel_rfl))⟩
  t0 := Tryz.underlying0
  a0 := Tryz.isAgg0
  z0 := Tryz.sizeOf0
  v0 := Tryz.zeroValue0
  t3 := Tryz.underlying3
  a3 := Tryz.isAgg3
  z3 := Tryz.sizeOf3
  v3 := Tryz.zeroValue3
  t4 := Tryz.underlying4
  a4 := Tryz.isAgg4
  z4 := Tryz.sizeOf4
  v4 := Tryz.zeroValue4
  t5 := Tryz.underlying5
  a5 := Tryz.isAgg5
  z5 := Tryz.sizeOf5
  v5 := Tryz.zeroValue5
  t9 := Tryz.underlying9
  a9 := Tryz.isAgg9
  z9 := Tryz.sizeOf9
  v9 := Tryz.zeroValue9
  t22 := Tryz.underlying58
  a22 := Tryz.isAgg58
  z22 := Tryz.sizeOf58
  v22 := Tryz.zeroValue58
  t25 := Tryz.underlying142
  a25 := Tryz.isAgg142
  z25 := Tryz.sizeOf142
  v25 := Tryz.zeroValue142
  t39 := Tryz.underlying91
  a39 := Tryz.isAgg91
  z39 := Tryz.sizeOf91
  v39 := Tryz.zeroValue91
  t45 := Tryz.underlying193
  a45 := Tryz.isAgg193
  z45 := Tryz.sizeOf193
  v45 := Tryz.zeroValue193
  t46 := Tryz.underlying194
  a46 := Tryz.isAgg194
  z46 := Tryz.sizeOf194
  v46 := Tryz.zeroValue194
  t50 := Tryz.underlying198
  a50 := Tryz.isAgg198
  z50 := Tryz.sizeOf198
  v50 := Tryz.zeroValue198
  t53 := Tryz.underlying164
  a53 := Tryz.isAgg164
  z53 := Tryz.sizeOf164
  v53 := Tryz.zeroValue164
  t55 := Tryz.underlying167
  a55 := Tryz.isAgg167
  z55 := Tryz.sizeOf167
  v55 := Tryz.zeroValue167
  t66 := Tryz.underlying214
  a66 := Tryz.isAgg214
  z66 := Tryz.sizeOf214
  v66 := Tryz.zeroValue214
  t70 := Tryz.underlying218
  a70 := Tryz.isAgg218
  z70 := Tryz.sizeOf218
  v70 := Tryz.zeroValue218
  t76 := Tryz.underlying226
  a76 := Tryz.isAgg226
  z76 := Tryz.sizeOf226
  v76 := Tryz.zeroValue226
  t77 := Tryz.underlying227
  a77 := Tryz.isAgg227
  z77 := Tryz.sizeOf227
  v77 := Tryz.zeroValue227 }
end Go.Proofs
namespace Go.Proofs.YtoaanfjcjbghaaaGreatDoor
open Go Go.PM Go.Sort Go.RowKit
set_option maxRecDepth 100000
theorem mixed0 : Tryz.prog.follows .mixedOrders = true := by kernel_rfl
theorem cq_nan (d : Nat) (a : Int) : callN Tryz.prog noPrims laid 100 (d + 1) 133 [I a] [] = some ⟨B (a != a), [], none⟩ := by kernel_rfl
theorem cq_cmp (d : Nat) (p q : Int) : callN Tryz.prog noPrims laid 100 (d + 2) 105 [I p, I q] [] = some ⟨I (cmpZ p q), [], none⟩ := by
  have h : callN Tryz.prog noPrims laid 100 (d + 2) 105 [I p, I q] [] = (
    (callN Tryz.prog noPrims laid 100 (d + 1) 133 [I p] []).bind fun out =>
    rC out.r fun c =>
    asB c fun b =>
    (callN Tryz.prog noPrims laid 100 (d + 1) 133 [I q] []).bind fun out1 =>
    rC out1.r fun c1 =>
    asB c1 fun b1 =>
    bif b then
      bif b1 then
        some ⟨I 0, [], none⟩
      else
        some ⟨I (-1), [], none⟩
    else
      bif b1 then
        some ⟨I 1, [], none⟩
      else
        bif decide (p < q) then
          some ⟨I (-1), [], none⟩
        else
          bif decide (p > q) then
            some ⟨I 1, [], none⟩
          else
            some ⟨I 0, [], none⟩) := by kernel_rfl
  rw [h]
  simp only [cq_nan, obs, rC_c, asB_bool, bne_self_eq_false, cf]
  unfold cmpZ
  by_cases h1 : p < q
  · rw [decide_eq_true h1, if_pos h1]; rfl
  · rw [decide_eq_false h1, if_neg h1]
    by_cases h2 : q < p
    · rw [show decide (p > q) = true from decide_eq_true h2, if_pos h2]; rfl
    · rw [show decide (p > q) = false from decide_eq_false h2, if_neg h2]; rfl
theorem cq_103 (x y : List Int) : callN Tryz.prog noPrims laid 100 5 103 [.agg (celR 3 x), .agg (celR 3 y)] [] = some ⟨I (lexZ [0, 1, 2] x y), [], none⟩ := by
  have h : callN Tryz.prog noPrims laid 100 5 103 [.agg (celR 3 x), .agg (celR 3 y)] [] = (
    (callN Tryz.prog noPrims laid 100 4 105 [I (x.getD 0 0), I (y.getD 0 0)] []).bind fun out =>
    rC out.r fun c =>
    asI .i64 c fun i =>
    (callN Tryz.prog noPrims laid 100 4 105 [I (x.getD 1 0), I (y.getD 1 0)] []).bind fun out1 =>
    rC out1.r fun c1 =>
    asI .i64 c1 fun i1 =>
    (callN Tryz.prog noPrims laid 100 4 105 [I (x.getD 2 0), I (y.getD 2 0)] []).bind fun out2 =>
    rC out2.r fun c2 =>
    asI .i64 c2 fun i2 =>
    (callN Tryz.prog noPrims laid 100 4 104 [V.c (C.sl 3 ([C.v (.int .i64 i), C.v (.int .i64 i1), C.v (.int .i64 i2)]))] []).bind fun out3 =>
    rC out3.r fun c3 =>
    asI .i64 c3 fun i3 =>
    some ⟨I i3, [], none⟩) := by kernel_rfl
  rw [h]
  simp only [cq_cmp, obs, rC_c, asI_int]
  simp only [lexZ]
  have z0 : cmpZ (x.getD 0 0) (y.getD 0 0) = -1 ∨ cmpZ (x.getD 0 0) (y.getD 0 0) = 0 ∨ cmpZ (x.getD 0 0) (y.getD 0 0) = 1 := (cmpZ_cases (x.getD 0 0) (y.getD 0 0)).elim (fun h => .inl h.1) fun h => h.elim (fun h => .inr (.inl h.1)) fun h => .inr (.inr h.1)
  generalize cmpZ (x.getD 0 0) (y.getD 0 0) = c0 at z0 ⊢
  have z1 : cmpZ (x.getD 1 0) (y.getD 1 0) = -1 ∨ cmpZ (x.getD 1 0) (y.getD 1 0) = 0 ∨ cmpZ (x.getD 1 0) (y.getD 1 0) = 1 := (cmpZ_cases (x.getD 1 0) (y.getD 1 0)).elim (fun h => .inl h.1) fun h => h.elim (fun h => .inr (.inl h.1)) fun h => .inr (.inr h.1)
  generalize cmpZ (x.getD 1 0) (y.getD 1 0) = c1 at z1 ⊢
  have z2 : cmpZ (x.getD 2 0) (y.getD 2 0) = -1 ∨ cmpZ (x.getD 2 0) (y.getD 2 0) = 0 ∨ cmpZ (x.getD 2 0) (y.getD 2 0) = 1 := (cmpZ_cases (x.getD 2 0) (y.getD 2 0)).elim (fun h => .inl h.1) fun h => h.elim (fun h => .inr (.inl h.1)) fun h => .inr (.inr h.1)
  generalize cmpZ (x.getD 2 0) (y.getD 2 0) = c2 at z2 ⊢
  rcases z0 with rfl | rfl | rfl <;> rcases z1 with rfl | rfl | rfl <;> rcases z2 with rfl | rfl | rfl <;> (show _ = _; kernel_rfl)
theorem sortC_102_103 (g cap : Nat) (d : Array (List Int)) (w : World) (hH : HoldsK (encR 3) 3 w g 0 d) (hg : g < w.heap.size) (hd : d.size < 4611686018427387904) :
    Calls Tryz.prog 102 #[.slice (some ⟨g, 0, none⟩) d.size cap, .func (.func 103) #[] #[]] w fun e w' => e = .returned (.tuple #[]) ∧ ∃ q os, w' = Go.Proofs.sortWorldK (encR 3) 3 w g 0 q (pdq (Go.Proofs.ltOf (lexZ [0, 1, 2])) d 0 d.size (Lib.bitLen d.size) true true) os :=
  AnyQ.slices_SortFunc_eq (ρ := Tryz.sort102_ren) Tryz.sort102 3 (Tryz.isAgg138) (Tryz.sizeOf138) (encR 3) (fun x => by simp [encR]) (fun x v hv => by
      simp only [encR, List.mem_map] at hv
      obtain ⟨i, _, rfl⟩ := hv
      rfl) (lexZ [0, 1, 2]) (lexZ_swo [0, 1, 2]) 103 #[] g 0 cap d w (enters_of Tryz.func103 (by kernel_rfl) rfl) (cmpLays_of mixed0 cq_103 g 0 d.size w) hH hg hd
theorem sortN_102_103 (w : World) : Calls Tryz.prog 102 #[.slice none 0 0, .func (.func 103) #[] #[]] w fun e w' => e = .returned (.tuple #[]) ∧ w' = w :=
  AnyF.slices_SortFunc_none (ρ := Tryz.sort102_ren) { Tryz.sort102 with } none 0 (.func (.func 103) #[] #[]) w
theorem cq_107 (x y : List Int) : callN Tryz.prog noPrims laid 100 5 107 [.agg (celR 2 x), .agg (celR 2 y)] [] = some ⟨I (lexZ [0, 1] x y), [], none⟩ := by
  have h : callN Tryz.prog noPrims laid 100 5 107 [.agg (celR 2 x), .agg (celR 2 y)] [] = (
    (callN Tryz.prog noPrims laid 100 4 105 [I (x.getD 0 0), I (y.getD 0 0)] []).bind fun out =>
    rC out.r fun c =>
    asI .i64 c fun i =>
    (callN Tryz.prog noPrims laid 100 4 105 [I (x.getD 1 0), I (y.getD 1 0)] []).bind fun out1 =>
    rC out1.r fun c1 =>
    asI .i64 c1 fun i1 =>
    (callN Tryz.prog noPrims laid 100 4 104 [V.c (C.sl 2 ([C.v (.int .i64 i), C.v (.int .i64 i1)]))] []).bind fun out2 =>
    rC out2.r fun c2 =>
    asI .i64 c2 fun i2 =>
    some ⟨I i2, [], none⟩) := by kernel_rfl
  rw [h]
  simp only [cq_cmp, obs, rC_c, asI_int]
  simp only [lexZ]
  have z0 : cmpZ (x.getD 0 0) (y.getD 0 0) = -1 ∨ cmpZ (x.getD 0 0) (y.getD 0 0) = 0 ∨ cmpZ (x.getD 0 0) (y.getD 0 0) = 1 := (cmpZ_cases (x.getD 0 0) (y.getD 0 0)).elim (fun h => .inl h.1) fun h => h.elim (fun h => .inr (.inl h.1)) fun h => .inr (.inr h.1)
  generalize cmpZ (x.getD 0 0) (y.getD 0 0) = c0 at z0 ⊢
  have z1 : cmpZ (x.getD 1 0) (y.getD 1 0) = -1 ∨ cmpZ (x.getD 1 0) (y.getD 1 0) = 0 ∨ cmpZ (x.getD 1 0) (y.getD 1 0) = 1 := (cmpZ_cases (x.getD 1 0) (y.getD 1 0)).elim (fun h => .inl h.1) fun h => h.elim (fun h => .inr (.inl h.1)) fun h => .inr (.inr h.1)
  generalize cmpZ (x.getD 1 0) (y.getD 1 0) = c1 at z1 ⊢
  rcases z0 with rfl | rfl | rfl <;> rcases z1 with rfl | rfl | rfl <;> (show _ = _; kernel_rfl)
theorem sortC_106_107 (g cap : Nat) (d : Array (List Int)) (w : World) (hH : HoldsK (encR 2) 2 w g 0 d) (hg : g < w.heap.size) (hd : d.size < 4611686018427387904) :
    Calls Tryz.prog 106 #[.slice (some ⟨g, 0, none⟩) d.size cap, .func (.func 107) #[] #[]] w fun e w' => e = .returned (.tuple #[]) ∧ ∃ q os, w' = Go.Proofs.sortWorldK (encR 2) 2 w g 0 q (pdq (Go.Proofs.ltOf (lexZ [0, 1])) d 0 d.size (Lib.bitLen d.size) true true) os :=
  AnyQ.slices_SortFunc_eq (ρ := Tryz.sort106_ren) Tryz.sort106 2 (Tryz.isAgg63) (Tryz.sizeOf63) (encR 2) (fun x => by simp [encR]) (fun x v hv => by
      simp only [encR, List.mem_map] at hv
      obtain ⟨i, _, rfl⟩ := hv
      rfl) (lexZ [0, 1]) (lexZ_swo [0, 1]) 107 #[] g 0 cap d w (enters_of Tryz.func107 (by kernel_rfl) rfl) (cmpLays_of mixed0 cq_107 g 0 d.size w) hH hg hd
theorem sortN_106_107 (w : World) : Calls Tryz.prog 106 #[.slice none 0 0, .func (.func 107) #[] #[]] w fun e w' => e = .returned (.tuple #[]) ∧ w' = w :=
  AnyF.slices_SortFunc_none (ρ := Tryz.sort106_ren) { Tryz.sort106 with } none 0 (.func (.func 107) #[] #[]) w
end Go.Proofs.YtoaanfjcjbghaaaGreatDoor
