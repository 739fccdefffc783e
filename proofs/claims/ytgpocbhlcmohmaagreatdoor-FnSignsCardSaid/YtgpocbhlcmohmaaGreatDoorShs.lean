/- The library's contract of strconv.Itoa of 0 to 99 at this program, as the shelf's own tool lays it. -/
import Derived.Shelf.Strconv.Itoa3
import Derived.Test.YtgpocbhlcmohmaaGreatDoorProg
namespace Go.Proofs
open Go.Shelf
def Tryz.lays171_ren : Go.Shelf.Ren := ⟨fun | 171 => 21 | 243 => 35 | 246 => 49 | 283 => 60 | 284 => 61 | 285 => 62 | 286 => 63 | 129 => 80 | 317 => 79 | 318 => 81 | 319 => 82 | 320 => 83 | 337 => 94 | 338 => 95 | n => n, fun | 3 => 3 | 9 => 9 | 2 => 2 | 4 => 4 | 171 => 87 | 0 => 0 | 53 => 39 | 37 => 22 | 5 => 5 | 173 => 90 | 212 => 102 | 51 => 103 | 20 => 20 | 213 => 104 | 46 => 80 | 232 => 126 | 233 => 127 | n => n, fun | 17 => 1 | 18 => 4 | 19 => 5 | n => n⟩
theorem Tryz.lays171 : Go.Proofs.Lays.n171 Tryz.prog Tryz.lays171_ren := {
  mixed := by kernel_rfl
  f129 := Tryz.func80.trans (congrArg some (by kernel_rfl))
  f171 := Tryz.func21.trans (congrArg some (by kernel_rfl))
  f243 := Tryz.func35.trans (congrArg some (by kernel_rfl))
  f246 := Tryz.func49.trans (congrArg some (by kernel_rfl))
  f283 := Tryz.func60.trans (congrArg some (by kernel_rfl))
  f284 := Tryz.func61.trans (congrArg some (by kernel_rfl))
  f285 := Tryz.func62.trans (congrArg some (by kernel_rfl))
  f286 := Tryz.func63.trans (congrArg some (by kernel_rfl))
  f317 := Tryz.func79.trans (congrArg some (by kernel_rfl))
  f318 := Tryz.func81.trans (congrArg some (by kernel_rfl))
  f319 := Tryz.func82.trans (congrArg some (by kernel_rfl))
  f320 := Tryz.func83.trans (congrArg some (by kernel_rfl))
  f337 := Tryz.func94.trans (congrArg some (by kernel_rfl))
  f338 := Tryz.func95.trans (congrArg some (by kernel_rfl))
  t0 := Tryz.underlying0
  a0 := Tryz.isAgg0
  z0 := Tryz.sizeOf0
  v0 := Tryz.zeroValue0
  t2 := Tryz.underlying2
  a2 := Tryz.isAgg2
  z2 := Tryz.sizeOf2
  v2 := Tryz.zeroValue2
  t3 := Tryz.underlying3
  a3 := Tryz.isAgg3
  z3 := Tryz.sizeOf3
  v3 := Tryz.zeroValue3
  t4 := Tryz.underlying4
  a4 := Tryz.isAgg4
  z4 := Tryz.sizeOf4
  v4 := Tryz.zeroValue4
  t5 := Tryz.underlying5
  a5 := Tryz.isAgg5
  z5 := Tryz.sizeOf5
  v5 := Tryz.zeroValue5
  t9 := Tryz.underlying9
  a9 := Tryz.isAgg9
  z9 := Tryz.sizeOf9
  v9 := Tryz.zeroValue9
  t20 := Tryz.underlying20
  a20 := Tryz.isAgg20
  z20 := Tryz.sizeOf20
  v20 := Tryz.zeroValue20
  t37 := Tryz.underlying22
  a37 := Tryz.isAgg22
  z37 := Tryz.sizeOf22
  v37 := Tryz.zeroValue22
  t46 := Tryz.underlying80
  a46 := Tryz.isAgg80
  z46 := Tryz.sizeOf80
  v46 := Tryz.zeroValue80
  t51 := Tryz.underlying103
  a51 := Tryz.isAgg103
  z51 := Tryz.sizeOf103
  v51 := Tryz.zeroValue103
  t53 := Tryz.underlying39
  a53 := Tryz.isAgg39
  z53 := Tryz.sizeOf39
  v53 := Tryz.zeroValue39
  t171 := Tryz.underlying87
  a171 := Tryz.isAgg87
  z171 := Tryz.sizeOf87
  v171 := Tryz.zeroValue87
  t173 := Tryz.underlying90
  a173 := Tryz.isAgg90
  z173 := Tryz.sizeOf90
  v173 := Tryz.zeroValue90
  t212 := Tryz.underlying102
  a212 := Tryz.isAgg102
  z212 := Tryz.sizeOf102
  v212 := Tryz.zeroValue102
  t213 := Tryz.underlying104
  a213 := Tryz.isAgg104
  z213 := Tryz.sizeOf104
  t232 := Tryz.underlying126
  a232 := Tryz.isAgg126
  z232 := Tryz.sizeOf126
  v232 := Tryz.zeroValue126
  t233 := Tryz.underlying127
  a233 := Tryz.isAgg127
  z233 := Tryz.sizeOf127
  v233 := Tryz.zeroValue127
  g17 := by kernel_rfl
  g18 := by kernel_rfl
  g19 := by kernel_rfl }
open Go.RowKit Go.Sort Go.Lib in
theorem Tryz.strconv_Itoa_small (i : Nat) (hi : i < 100) (w : World) :
    Calls Tryz.prog 21 #[.int .i64 i] w fun e w' => e = .returned (.string ⟨(Lib.decDigits i).toArray⟩) ∧ w' = w := Any.strconv_Itoa_small Tryz.lays171 i hi w
end Go.Proofs
