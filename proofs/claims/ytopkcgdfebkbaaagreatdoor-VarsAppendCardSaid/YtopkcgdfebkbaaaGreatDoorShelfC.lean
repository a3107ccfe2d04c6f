/- The kit's contracts of library functions, laid at this program by the kit's own tools (lay-shelf, lay-plain); those that are used. -/
import Derived.Test.YtopkcgdfebkbaaaGreatDoorProg
import Derived.Test.YtopkcgdfebkbaaaGreatDoorShelfA
import Derived.Test.YtopkcgdfebkbaaaGreatDoorShelfB
import Derived.Shelf.LaysM
namespace Go.Proofs
open Go.Shelf
def Tryz.laysM219_ren : Go.Shelf.Ren := ⟨fun | 219 => 204 | 217 => 259 | 225 => 260 | 224 => 261 | 267 => 262 | 266 => 281 | 314 => 282 | n => n, fun | 9 => 9 | 3 => 3 | 4 => 4 | 5 => 5 | 46 => 188 | 146 => 304 | 51 => 245 | n => n, fun | 1 => 0 | n => n⟩
theorem Tryz.laysM219 : Go.Proofs.LaysM.n219 Tryz.prog Tryz.laysM219_ren := {
  mixed := by kernel_rfl
  f217 := Tryz.func259.trans (congrArg some (by kernel_rfl))
  f219 := Tryz.func204.trans (congrArg some (by kernel_rfl))
  f224 := Tryz.func261.trans (congrArg some (by kernel_rfl))
  f225 := Tryz.func260.trans (congrArg some (by kernel_rfl))
  f266 := Tryz.func281.trans (congrArg some (by kernel_rfl))
  f267 := Tryz.func262.trans (congrArg some (by kernel_rfl))
  f314 := Tryz.func282.trans (congrArg some (by kernel_rfl))
  t3 := Tryz.underlying3
  a3 := Tryz.isAgg3
  z3 := Tryz.sizeOf3
  v3 := Tryz.zeroValue3
  t4 := Tryz.underlying4
  a4 := Tryz.isAgg4
  z4 := Tryz.sizeOf4
  v4 := Tryz.zeroValue4
  t5 := Tryz.underlying5
  a5 := Tryz.isAgg5
  z5 := Tryz.sizeOf5
  v5 := Tryz.zeroValue5
  t9 := Tryz.underlying9
  a9 := Tryz.isAgg9
  z9 := Tryz.sizeOf9
  v9 := Tryz.zeroValue9
  t46 := Tryz.underlying188
  a46 := Tryz.isAgg188
  z46 := Tryz.sizeOf188
  v46 := Tryz.zeroValue188
  t51 := Tryz.underlying245
  a51 := Tryz.isAgg245
  z51 := Tryz.sizeOf245
  v51 := Tryz.zeroValue245
  t146 := Tryz.underlying304
  a146 := Tryz.isAgg304
  z146 := Tryz.sizeOf304
  v146 := Tryz.zeroValue304
  g1 := by kernel_rfl
  i3 := by kernel_rfl
  i4 := by kernel_rfl
  i5 := by kernel_rfl
  i9 := by kernel_rfl
  i46 := by kernel_rfl
  i51 := by kernel_rfl
  i146 := by kernel_rfl
  m1 := by kernel_rfl
  s1_3 := fun w h => Go.Proofs.cell_of_shapedOpen_int (zero := #[.int .i64 0]) (t := 3) h (of_decide_eq_true (by kernel_rfl)) (by kernel_rfl) rfl (by kernel_rfl) (by kernel_rfl) Tryz.underlying3 }
end Go.Proofs
