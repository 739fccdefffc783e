/- The library's contract of strings.Split and strings.Cut at this program, as the shelf's own tool lays it. -/
import Derived.Shelf.Strings.Shaped
import Derived.Shelf.Strings.SplitShaped
import Derived.Test.YtgpocbhlcmohmaaGreatDoorProg
namespace Go.Proofs
open Go.Shelf
def Tryz.laysM146_ren : Go.Shelf.Ren := ⟨fun | 146 => 37 | 221 => 51 | 268 => 68 | 138 => 69 | 143 => 70 | 195 => 86 | 197 => 87 | 218 => 88 | 219 => 50 | 260 => 96 | 217 => 64 | 225 => 65 | 224 => 66 | 267 => 67 | 266 => 84 | 314 => 85 | n => n, fun | 9 => 9 | 31 => 62 | 3 => 3 | 4 => 4 | 0 => 0 | 105 => 109 | 21 => 21 | 5 => 5 | 46 => 80 | 119 => 128 | 139 => 131 | 138 => 130 | 146 => 106 | 51 => 103 | n => n, fun | 1 => 0 | 3 => 6 | 4 => 7 | n => n⟩
theorem Tryz.laysM146 : Go.Proofs.LaysM.n146 Tryz.prog Tryz.laysM146_ren := {
  mixed := by kernel_rfl
  f138 := Tryz.func69.trans (congrArg some (by kernel_rfl))
  f143 := Tryz.func70.trans (congrArg some (by kernel_rfl))
  f146 := Tryz.func37.trans (congrArg some (by kernel_rfl))
  f195 := Tryz.func86.trans (congrArg some (by kernel_rfl))
  f197 := Tryz.func87.trans (congrArg some (by kernel_rfl))
  f217 := Tryz.func64.trans (congrArg some (by kernel_rfl))
  f218 := Tryz.func88.trans (congrArg some (by kernel_rfl))
  f219 := Tryz.func50.trans (congrArg some (by kernel_rfl))
  f221 := Tryz.func51.trans (congrArg some (by kernel_rfl))
  f224 := Tryz.func66.trans (congrArg some (by kernel_rfl))
  f225 := Tryz.func65.trans (congrArg some (by kernel_rfl))
  f260 := Tryz.func96.trans (congrArg some (by kernel_rfl))
  f266 := Tryz.func84.trans (congrArg some (by kernel_rfl))
  f267 := Tryz.func67.trans (congrArg some (by kernel_rfl))
  f268 := Tryz.func68.trans (congrArg some (by kernel_rfl))
  f314 := Tryz.func85.trans (congrArg some (by kernel_rfl))
  t0 := Tryz.underlying0
  a0 := Tryz.isAgg0
  z0 := Tryz.sizeOf0
  v0 := Tryz.zeroValue0
  t3 := Tryz.underlying3
  a3 := Tryz.isAgg3
  z3 := Tryz.sizeOf3
  v3 := Tryz.zeroValue3
  t4 := Tryz.underlying4
  a4 := Tryz.isAgg4
  z4 := Tryz.sizeOf4
  v4 := Tryz.zeroValue4
  t5 := Tryz.underlying5
  a5 := Tryz.isAgg5
  z5 := Tryz.sizeOf5
  v5 := Tryz.zeroValue5
  t9 := Tryz.underlying9
  a9 := Tryz.isAgg9
  z9 := Tryz.sizeOf9
  v9 := Tryz.zeroValue9
  t21 := Tryz.underlying21
  a21 := Tryz.isAgg21
  z21 := Tryz.sizeOf21
  v21 := Tryz.zeroValue21
  t31 := Tryz.underlying62
  a31 := Tryz.isAgg62
  z31 := Tryz.sizeOf62
  v31 := Tryz.zeroValue62
  t46 := Tryz.underlying80
  a46 := Tryz.isAgg80
  z46 := Tryz.sizeOf80
  v46 := Tryz.zeroValue80
  t51 := Tryz.underlying103
  a51 := Tryz.isAgg103
  z51 := Tryz.sizeOf103
  v51 := Tryz.zeroValue103
  t105 := Tryz.underlying109
  a105 := Tryz.isAgg109
  z105 := Tryz.sizeOf109
  v105 := Tryz.zeroValue109
  t119 := Tryz.underlying128
  a119 := Tryz.isAgg128
  z119 := Tryz.sizeOf128
  t138 := Tryz.underlying130
  a138 := Tryz.isAgg130
  z138 := Tryz.sizeOf130
  v138 := Tryz.zeroValue130
  t139 := Tryz.underlying131
  a139 := Tryz.isAgg131
  z139 := Tryz.sizeOf131
  v139 := Tryz.zeroValue131
  t146 := Tryz.underlying106
  a146 := Tryz.isAgg106
  z146 := Tryz.sizeOf106
  v146 := Tryz.zeroValue106
  g1 := by kernel_rfl
  g3 := by kernel_rfl
  g4 := by kernel_rfl
  i0 := by kernel_rfl
  i3 := by kernel_rfl
  i4 := by kernel_rfl
  i5 := by kernel_rfl
  i9 := by kernel_rfl
  i21 := by kernel_rfl
  i31 := by kernel_rfl
  i46 := by kernel_rfl
  i51 := by kernel_rfl
  i105 := by kernel_rfl
  i138 := by kernel_rfl
  i139 := by kernel_rfl
  i146 := by kernel_rfl
  m1 := by kernel_rfl
  s1_3 := fun w h => Go.Proofs.cell_of_shapedOpen_int (zero := #[.int .i64 0]) (t := 3) h (of_decide_eq_true (by kernel_rfl)) (by kernel_rfl) rfl (by kernel_rfl) (by kernel_rfl) Tryz.underlying3
  m3 := by kernel_rfl
  m4 := by kernel_rfl }
open Go.RowKit Go.Lib in
theorem Tryz.strings_Split_shaped (s sep : ByteArray) (w : World) (h : w.ShapedOpen Tryz.prog) (hs : s.size < 4294967281) (h1 : 1 ≤ sep.size) :
    Calls Tryz.prog 37 #[.string s, .string sep] w fun e w' =>
      e = .returned (.slice (some ⟨w.heap.size, 0, none⟩) (Lib.countB s sep + 1) (Lib.countB s sep + 1)) ∧ w' = w.alloc (.cells ((Lib.splitB sep 0 (Lib.countB s sep) s).map Value.string).toArray 9) := Any.strings_Split_shaped Tryz.laysM146 s sep w h hs h1
def Tryz.laysM145_ren : Go.Shelf.Ren := ⟨fun | 145 => 22 | 220 => 36 | 219 => 50 | 217 => 64 | 225 => 65 | 224 => 66 | 267 => 67 | 266 => 84 | 314 => 85 | n => n, fun | 9 => 9 | 4 => 4 | 59 => 51 | 3 => 3 | 5 => 5 | 46 => 80 | 146 => 106 | 51 => 103 | n => n, fun | 1 => 0 | n => n⟩
theorem Tryz.laysM145 : Go.Proofs.LaysM.n145 Tryz.prog Tryz.laysM145_ren := {
  mixed := by kernel_rfl
  f145 := Tryz.func22.trans (congrArg some (by kernel_rfl))
  f217 := Tryz.func64.trans (congrArg some (by kernel_rfl))
  f219 := Tryz.func50.trans (congrArg some (by kernel_rfl))
  f220 := Tryz.func36.trans (congrArg some (by kernel_rfl))
  f224 := Tryz.func66.trans (congrArg some (by kernel_rfl))
  f225 := Tryz.func65.trans (congrArg some (by kernel_rfl))
  f266 := Tryz.func84.trans (congrArg some (by kernel_rfl))
  f267 := Tryz.func67.trans (congrArg some (by kernel_rfl))
  f314 := Tryz.func85.trans (congrArg some (by kernel_rfl))
  t3 := Tryz.underlying3
  a3 := Tryz.isAgg3
  z3 := Tryz.sizeOf3
  v3 := Tryz.zeroValue3
  t4 := Tryz.underlying4
  a4 := Tryz.isAgg4
  z4 := Tryz.sizeOf4
  v4 := Tryz.zeroValue4
  t5 := Tryz.underlying5
  a5 := Tryz.isAgg5
  z5 := Tryz.sizeOf5
  v5 := Tryz.zeroValue5
  t9 := Tryz.underlying9
  a9 := Tryz.isAgg9
  z9 := Tryz.sizeOf9
  v9 := Tryz.zeroValue9
  t46 := Tryz.underlying80
  a46 := Tryz.isAgg80
  z46 := Tryz.sizeOf80
  v46 := Tryz.zeroValue80
  t51 := Tryz.underlying103
  a51 := Tryz.isAgg103
  z51 := Tryz.sizeOf103
  v51 := Tryz.zeroValue103
  t59 := Tryz.underlying51
  a59 := Tryz.isAgg51
  z59 := Tryz.sizeOf51
  v59 := Tryz.zeroValue51
  t146 := Tryz.underlying106
  a146 := Tryz.isAgg106
  z146 := Tryz.sizeOf106
  v146 := Tryz.zeroValue106
  g1 := by kernel_rfl
  i3 := by kernel_rfl
  i4 := by kernel_rfl
  i5 := by kernel_rfl
  i9 := by kernel_rfl
  i46 := by kernel_rfl
  i51 := by kernel_rfl
  i59 := by kernel_rfl
  i146 := by kernel_rfl
  m1 := by kernel_rfl
  s1_3 := fun w h => Go.Proofs.cell_of_shapedOpen_int (zero := #[.int .i64 0]) (t := 3) h (of_decide_eq_true (by kernel_rfl)) (by kernel_rfl) rfl (by kernel_rfl) (by kernel_rfl) Tryz.underlying3 }
open Go.RowKit Go.Lib in
theorem Tryz.strings_Cut_shaped (s sep : ByteArray) (w : World) (h : w.ShapedOpen Tryz.prog) (hs : s.size < 4294967281) :
    Calls Tryz.prog 22 #[.string s, .string sep] w fun e w' => e = .returned (.tuple #[.string ⟨(Lib.cut s.data.toList sep.data.toList).1.toArray⟩, .string ⟨(Lib.cut s.data.toList sep.data.toList).2.1.toArray⟩, .bool (Lib.cut s.data.toList sep.data.toList).2.2]) ∧ ∃ n, w' = w.drewN n := Any.strings_Cut_shaped Tryz.laysM145 s sep w h hs
end Go.Proofs
