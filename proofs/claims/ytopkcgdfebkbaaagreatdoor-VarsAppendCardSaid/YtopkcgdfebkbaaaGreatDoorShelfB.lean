/- The kit's contracts of library functions, laid at this program by the kit's own tools (lay-shelf, lay-plain); those that are used. -/
import Derived.Test.YtopkcgdfebkbaaaGreatDoorProg
import Derived.Test.YtopkcgdfebkbaaaGreatDoorShelfA
import Derived.Shelf.Strconv.Itoa3
import Derived.Shelf.Lays
namespace Go.Proofs
open Go.Shelf
def Tryz.lays171_ren : Go.Shelf.Ren := ⟨fun | 171 => 216 | 243 => 268 | 246 => 296 | 283 => 314 | 284 => 315 | 285 => 316 | 286 => 317 | 129 => 180 | 317 => 325 | 318 => 326 | 319 => 327 | 320 => 328 | 337 => 335 | 338 => 336 | n => n, fun | 3 => 3 | 9 => 9 | 2 => 2 | 4 => 4 | 171 => 319 | 0 => 0 | 53 => 247 | 37 => 131 | 5 => 5 | 173 => 321 | 212 => 328 | 51 => 245 | 20 => 20 | 213 => 329 | 46 => 188 | 232 => 337 | 233 => 338 | n => n, fun | 17 => 3 | 18 => 4 | 19 => 5 | n => n⟩
theorem Tryz.lays171 : Go.Proofs.Lays.n171 Tryz.prog Tryz.lays171_ren := {
  mixed := by kernel_rfl
  f129 := Tryz.func180.trans (congrArg some (by kernel_rfl))
  f171 := Tryz.func216.trans (congrArg some (by kernel_rfl))
  f243 := Tryz.func268.trans (congrArg some (by kernel_rfl))
  f246 := Tryz.func296.trans (congrArg some (by kernel_rfl))
  f283 := Tryz.func314.trans (congrArg some (by kernel_rfl))
  f284 := Tryz.func315.trans (congrArg some (by kernel_rfl))
  f285 := Tryz.func316.trans (congrArg some (by kernel_rfl))
  f286 := Tryz.func317.trans (congrArg some (by kernel_rfl))
  f317 := Tryz.func325.trans (congrArg some (by kernel_rfl))
  f318 := Tryz.func326.trans (congrArg some (by kernel_rfl))
  f319 := Tryz.func327.trans (congrArg some (by kernel_rfl))
  f320 := Tryz.func328.trans (congrArg some (by kernel_rfl))
  f337 := Tryz.func335.trans (congrArg some (by kernel_rfl))
  f338 := Tryz.func336.trans (congrArg some (by kernel_rfl))
  t0 := Tryz.underlying0
  a0 := Tryz.isAgg0
  z0 := Tryz.sizeOf0
  v0 := Tryz.zeroValue0
  t2 := Tryz.underlying2
  a2 := Tryz.isAgg2
  z2 := Tryz.sizeOf2
  v2 := Tryz.zeroValue2
  t3 := Tryz.underlying3
  a3 := Tryz.isAgg3
  z3 := Tryz.sizeOf3
  v3 := Tryz.zeroValue3
  t4 := Tryz.underlying4
  a4 := Tryz.isAgg4
  z4 := Tryz.sizeOf4
  v4 := Tryz.zeroValue4
  t5 := Tryz.underlying5
  a5 := Tryz.isAgg5
  z5 := Tryz.sizeOf5
  v5 := Tryz.zeroValue5
  t9 := Tryz.underlying9
  a9 := Tryz.isAgg9
  z9 := Tryz.sizeOf9
  v9 := Tryz.zeroValue9
  t20 := Tryz.underlying20
  a20 := Tryz.isAgg20
  z20 := Tryz.sizeOf20
  v20 := Tryz.zeroValue20
  t37 := Tryz.underlying131
  a37 := Tryz.isAgg131
  z37 := Tryz.sizeOf131
  v37 := Tryz.zeroValue131
  t46 := Tryz.underlying188
  a46 := Tryz.isAgg188
  z46 := Tryz.sizeOf188
  v46 := Tryz.zeroValue188
  t51 := Tryz.underlying245
  a51 := Tryz.isAgg245
  z51 := Tryz.sizeOf245
  v51 := Tryz.zeroValue245
  t53 := Tryz.underlying247
  a53 := Tryz.isAgg247
  z53 := Tryz.sizeOf247
  v53 := Tryz.zeroValue247
  t171 := Tryz.underlying319
  a171 := Tryz.isAgg319
  z171 := Tryz.sizeOf319
  v171 := Tryz.zeroValue319
  t173 := Tryz.underlying321
  a173 := Tryz.isAgg321
  z173 := Tryz.sizeOf321
  v173 := Tryz.zeroValue321
  t212 := Tryz.underlying328
  a212 := Tryz.isAgg328
  z212 := Tryz.sizeOf328
  v212 := Tryz.zeroValue328
  t213 := Tryz.underlying329
  a213 := Tryz.isAgg329
  z213 := Tryz.sizeOf329
  t232 := Tryz.underlying337
  a232 := Tryz.isAgg337
  z232 := Tryz.sizeOf337
  v232 := Tryz.zeroValue337
  t233 := Tryz.underlying338
  a233 := Tryz.isAgg338
  z233 := Tryz.sizeOf338
  v233 := Tryz.zeroValue338
  g17 := by kernel_rfl
  g18 := by kernel_rfl
  g19 := by kernel_rfl }
open Go.RowKit Go.Sort Go.Lib in
/-- THE ROAD WITHOUT THE TABLE: 0 <= i < 100: NO PREMISE ON THE WORLD, AND THE WORLD IS AS IT WAS: a row that keeps its argument in that range need list no table ('laid = []'). (LAID: no walk: one application.) -/
theorem Tryz.strconv_Itoa_small (i : Nat) (hi : i < 100) (w : World) :
    Calls Tryz.prog 216 #[.int .i64 i] w fun e w' => e = .returned (.string ⟨(Lib.decDigits i).toArray⟩) ∧ w' = w := Any.strconv_Itoa_small Tryz.lays171 i hi w
end Go.Proofs
