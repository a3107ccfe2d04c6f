/- The kit's contracts of library functions, laid at this program by the kit's own tools (lay-shelf, lay-plain); those that are used. -/
import Derived.Test.YtopkcgdfebkbaaaGreatDoorProg
import Derived.Shelf.Strings.Builder1
import Derived.Shelf.Strings.OnBuilder
import Derived.Shelf.Strings.Trim
import Derived.Shelf.Small.Utf8
import Derived.Shelf.Small.Strs
import Derived.Shelf.Small.Wraps
import Derived.Shelf.Strings.Search2
import Derived.Shelf.Strings.Count
import Derived.Shelf.Strings.Prefix
import Derived.Shelf.Strings.Runes
import Derived.Shelf.Strings.IndexAny
import Derived.Shelf.Strings.IndexAnyAll
import Derived.Shelf.Lays
namespace Go.Proofs
open Go.Shelf
def Tryz.lays169_ren : Go.Shelf.Ren := ⟨fun | 169 => 86 | n => n, fun | 70 => 152 | 9 => 9 | 0 => 0 | 72 => 154 | 37 => 131 | 127 => 206 | 3 => 3 | 5 => 5 | n => n, fun | n => n⟩
theorem Tryz.lays169 : Go.Proofs.Lays.n169 Tryz.prog Tryz.lays169_ren := {
  mixed := by kernel_rfl
  f169 := Tryz.func86.trans (congrArg some (by kernel_rfl))
  t0 := Tryz.underlying0
  a0 := Tryz.isAgg0
  z0 := Tryz.sizeOf0
  v0 := Tryz.zeroValue0
  t3 := Tryz.underlying3
  a3 := Tryz.isAgg3
  z3 := Tryz.sizeOf3
  v3 := Tryz.zeroValue3
  t9 := Tryz.underlying9
  a9 := Tryz.isAgg9
  z9 := Tryz.sizeOf9
  v9 := Tryz.zeroValue9
  t37 := Tryz.underlying131
  a37 := Tryz.isAgg131
  z37 := Tryz.sizeOf131
  v37 := Tryz.zeroValue131
  t70 := Tryz.underlying152
  a70 := Tryz.isAgg152
  z70 := Tryz.sizeOf152
  v70 := Tryz.zeroValue152
  t72 := Tryz.underlying154
  a72 := Tryz.isAgg154
  z72 := Tryz.sizeOf154
  v72 := Tryz.zeroValue154
  t127 := Tryz.underlying206
  a127 := Tryz.isAgg206
  z127 := Tryz.sizeOf206
  v127 := Tryz.zeroValue206 }
theorem Tryz.Builder_Extra_169 : Builder.Extra Tryz.prog Tryz.lays169_ren := {
  sizeBuilder := by kernel_rfl
  liesBuilder := by kernel_rfl
  t5 := Tryz.underlying5
  a5 := Tryz.isAgg5
  z5 := Tryz.sizeOf5
  v5 := Tryz.zeroValue5
  infoByte := by kernel_rfl
  cellsByte := by kernel_rfl
  sizeByte := by kernel_rfl
  neB5 := by decide }
open Go.RowKit in
/-- (*strings.Builder).String: "String returns the accumulated string.": WHATEVER THE BUILDER HOLDS. (LAID: no walk: one application.) -/
theorem Tryz.Builder_String_any (B b : Nat) (l : List UInt8) (w : World) (h : Lib.IsBuilder 154 5 B b (Lib.byteCells l) w) (hBw : B ≤ w.heap.size) :
    Calls Tryz.prog 86 #[.pointer (some ⟨b, 0, none⟩)] w fun e w' => e = .returned (.string ⟨l.toArray⟩) ∧ Below B w w' := Any.Builder_String_any Tryz.lays169 Tryz.Builder_Extra_169 B b l w h hBw
def Tryz.lays156_ren : Go.Shelf.Ren := ⟨fun | 156 => 128 | 165 => 203 | 166 => 84 | 169 => 86 | 240 => 132 | 241 => 258 | 276 => 205 | 277 => 280 | n => n, fun | 31 => 58 | 9 => 9 | 3 => 3 | 4 => 4 | 0 => 0 | 20 => 20 | 72 => 154 | 76 => 159 | 70 => 152 | 37 => 131 | 75 => 158 | 127 => 206 | 164 => 261 | 5 => 5 | 80 => 161 | n => n, fun | n => n⟩
theorem Tryz.lays156 : Go.Proofs.Lays.n156 Tryz.prog Tryz.lays156_ren := {
  mixed := by kernel_rfl
  f156 := Tryz.func128.trans (congrArg some (by kernel_rfl))
  f165 := Tryz.func203.trans (congrArg some (by kernel_rfl))
  f166 := Tryz.func84.trans (congrArg some (by kernel_rfl))
  f169 := Tryz.func86.trans (congrArg some (by kernel_rfl))
  f240 := Tryz.func132.trans (congrArg some (by kernel_rfl))
  f241 := Tryz.func258.trans (congrArg some (by kernel_rfl))
  f276 := Tryz.func205.trans (congrArg some (by kernel_rfl))
  f277 := Tryz.func280.trans (congrArg some (by kernel_rfl))
  t0 := Tryz.underlying0
  a0 := Tryz.isAgg0
  z0 := Tryz.sizeOf0
  v0 := Tryz.zeroValue0
  t3 := Tryz.underlying3
  a3 := Tryz.isAgg3
  z3 := Tryz.sizeOf3
  v3 := Tryz.zeroValue3
  t4 := Tryz.underlying4
  a4 := Tryz.isAgg4
  z4 := Tryz.sizeOf4
  v4 := Tryz.zeroValue4
  t9 := Tryz.underlying9
  a9 := Tryz.isAgg9
  z9 := Tryz.sizeOf9
  v9 := Tryz.zeroValue9
  t20 := Tryz.underlying20
  a20 := Tryz.isAgg20
  z20 := Tryz.sizeOf20
  v20 := Tryz.zeroValue20
  t31 := Tryz.underlying58
  a31 := Tryz.isAgg58
  z31 := Tryz.sizeOf58
  v31 := Tryz.zeroValue58
  t37 := Tryz.underlying131
  a37 := Tryz.isAgg131
  z37 := Tryz.sizeOf131
  v37 := Tryz.zeroValue131
  t70 := Tryz.underlying152
  a70 := Tryz.isAgg152
  z70 := Tryz.sizeOf152
  v70 := Tryz.zeroValue152
  t72 := Tryz.underlying154
  a72 := Tryz.isAgg154
  z72 := Tryz.sizeOf154
  v72 := Tryz.zeroValue154
  t75 := Tryz.underlying158
  a75 := Tryz.isAgg158
  z75 := Tryz.sizeOf158
  v75 := Tryz.zeroValue158
  t76 := Tryz.underlying159
  a76 := Tryz.isAgg159
  z76 := Tryz.sizeOf159
  v76 := Tryz.zeroValue159
  t127 := Tryz.underlying206
  a127 := Tryz.isAgg206
  z127 := Tryz.sizeOf206
  v127 := Tryz.zeroValue206
  t164 := Tryz.underlying261
  a164 := Tryz.isAgg261
  z164 := Tryz.sizeOf261
  v164 := Tryz.zeroValue261 }
theorem Tryz.Builder_Extra_156 : Builder.Extra Tryz.prog Tryz.lays156_ren := {
  sizeBuilder := by kernel_rfl
  liesBuilder := by kernel_rfl
  t5 := Tryz.underlying5
  a5 := Tryz.isAgg5
  z5 := Tryz.sizeOf5
  v5 := Tryz.zeroValue5
  infoByte := by kernel_rfl
  cellsByte := by kernel_rfl
  sizeByte := by kernel_rfl
  neB5 := by decide }
open Go.RowKit in
/-- No element: the empty string; the world is as it was. (Whatever the slice's address and capacity: a nil slice too.) (LAID: no walk: one application.) -/
theorem Tryz.strings_Join_none (a : Option Addr) (c : Nat) (sep : ByteArray) (w : World) :
    Calls Tryz.prog 128 #[.slice a 0 c, .string sep] w fun e w' => e = .returned (.string ⟨#[]⟩) ∧ w' = w := Any.strings_Join_none Tryz.lays156 Tryz.Builder_Extra_156 a c sep w
open Go.RowKit in
/-- strings.Join: "Join concatenates the elements of its first argument to create a single string. The separator string sep is placed between elements in the resulting string.": HOWEVER MANY ELEMENTS. Below the heap's end the world is as it was. (LAID: no walk: one application.) -/
theorem Tryz.strings_Join (bk o c : Nat) (xs : List ByteArray) (sep : ByteArray) (w : World) (hcells : ∀ (j : Nat) x, xs[j]? = some x → w.cell? ⟨bk, o + j, none⟩ = some (.string x)) (hbk : bk < w.heap.size) (hN : xs.length ≤ 140737488355328) (hcap : xs.length ≤ c) (hlen : (Lib.join (xs.map (·.data.toList)) sep.data.toList).length ≤ 140737488355328) :
    Calls Tryz.prog 128 #[.slice (some ⟨bk, o, none⟩) xs.length c, .string sep] w fun e w' => e = .returned (.string ⟨(Lib.join (xs.map (·.data.toList)) sep.data.toList).toArray⟩) ∧ Below w.heap.size w w' := Any.strings_Join Tryz.lays156 Tryz.Builder_Extra_156 bk o c xs sep w hcells hbk hN hcap hlen
def Tryz.lays161_ren : Go.Shelf.Ren := ⟨fun | 161 => 101 | 231 => 153 | 227 => 154 | 233 => 155 | 235 => 156 | 228 => 209 | 197 => 229 | 151 => 230 | 260 => 271 | 152 => 207 | 137 => 263 | 119 => 264 | 224 => 261 | 225 => 260 | 217 => 259 | 266 => 281 | n => n, fun | 9 => 9 | 4 => 4 | 3 => 3 | 5 => 5 | 117 => 226 | 116 => 225 | 0 => 0 | 124 => 229 | 105 => 276 | 21 => 21 | 119 => 313 | 46 => 188 | 139 => 316 | 138 => 315 | n => n, fun | 3 => 1 | 4 => 2 | n => n⟩
theorem Tryz.lays161 : Go.Proofs.Lays.n161 Tryz.prog Tryz.lays161_ren := {
  mixed := by kernel_rfl
  f119 := Tryz.func264.trans (congrArg some (by kernel_rfl))
  f137 := Tryz.func263.trans (congrArg some (by kernel_rfl))
  f151 := Tryz.func230.trans (congrArg some (by kernel_rfl))
  f152 := Tryz.func207.trans (congrArg some (by kernel_rfl))
  f161 := Tryz.func101.trans (congrArg some (by kernel_rfl))
  f197 := Tryz.func229.trans (congrArg some (by kernel_rfl))
  f217 := Tryz.func259.trans (congrArg some (by kernel_rfl))
  f224 := Tryz.func261.trans (congrArg some (by kernel_rfl))
  f225 := Tryz.func260.trans (congrArg some (by kernel_rfl))
  f227 := Tryz.func154.trans (congrArg some (by kernel_rfl))
  f228 := Tryz.func209.trans (congrArg some (by kernel_rfl))
  f231 := Tryz.func153.trans (congrArg some (by kernel_rfl))
  f233 := Tryz.func155.trans (congrArg some (by kernel_rfl))
  f235 := Tryz.func156.trans (congrArg some (by kernel_rfl))
  f260 := Tryz.func271.trans (congrArg some (by kernel_rfl))
  f266 := Tryz.func281.trans (congrArg some (by kernel_rfl))
  t0 := Tryz.underlying0
  a0 := Tryz.isAgg0
  z0 := Tryz.sizeOf0
  v0 := Tryz.zeroValue0
  t3 := Tryz.underlying3
  a3 := Tryz.isAgg3
  z3 := Tryz.sizeOf3
  v3 := Tryz.zeroValue3
  t4 := Tryz.underlying4
  a4 := Tryz.isAgg4
  z4 := Tryz.sizeOf4
  v4 := Tryz.zeroValue4
  t5 := Tryz.underlying5
  a5 := Tryz.isAgg5
  z5 := Tryz.sizeOf5
  v5 := Tryz.zeroValue5
  t9 := Tryz.underlying9
  a9 := Tryz.isAgg9
  z9 := Tryz.sizeOf9
  v9 := Tryz.zeroValue9
  t21 := Tryz.underlying21
  a21 := Tryz.isAgg21
  z21 := Tryz.sizeOf21
  v21 := Tryz.zeroValue21
  t46 := Tryz.underlying188
  a46 := Tryz.isAgg188
  z46 := Tryz.sizeOf188
  v46 := Tryz.zeroValue188
  t105 := Tryz.underlying276
  a105 := Tryz.isAgg276
  z105 := Tryz.sizeOf276
  v105 := Tryz.zeroValue276
  t116 := Tryz.underlying225
  a116 := Tryz.isAgg225
  z116 := Tryz.sizeOf225
  t117 := Tryz.underlying226
  a117 := Tryz.isAgg226
  z117 := Tryz.sizeOf226
  v117 := Tryz.zeroValue226
  t119 := Tryz.underlying313
  a119 := Tryz.isAgg313
  z119 := Tryz.sizeOf313
  t124 := Tryz.underlying229
  a124 := Tryz.isAgg229
  z124 := Tryz.sizeOf229
  v124 := Tryz.zeroValue229
  t138 := Tryz.underlying315
  a138 := Tryz.isAgg315
  z138 := Tryz.sizeOf315
  v138 := Tryz.zeroValue315
  t139 := Tryz.underlying316
  a139 := Tryz.isAgg316
  z139 := Tryz.sizeOf316
  v139 := Tryz.zeroValue316
  g3 := by kernel_rfl
  g4 := by kernel_rfl }
open Go.RowKit in
/-- strings.TrimLeft: "TrimLeft returns a slice of the string s with all leading Unicode code points contained in cutset removed.": AT A cutset OF ONE ASCII BYTE. The world is as it was. (LAID: no walk: one application.) -/
theorem Tryz.strings_TrimLeft_one (s : ByteArray) (c : UInt8) (hc : c.toNat < 128) (w : World) :
    Calls Tryz.prog 101 #[.string s, .string ⟨#[c]⟩] w fun e w' => e = .returned (.string ⟨(Lib.trimLeftB s.data.toList c).toArray⟩) ∧ w' = w := Any.strings_TrimLeft_one Tryz.lays161 s c hc w
def Tryz.lays160_ren : Go.Shelf.Ren := ⟨fun | 160 => 129 | 232 => 157 | 231 => 153 | 227 => 154 | 234 => 158 | 233 => 155 | 236 => 159 | 235 => 156 | 228 => 209 | 271 => 231 | 151 => 230 | 197 => 229 | 120 => 272 | 152 => 207 | 260 => 271 | 137 => 263 | 119 => 264 | 224 => 261 | 225 => 260 | 217 => 259 | 266 => 281 | n => n, fun | 9 => 9 | 4 => 4 | 3 => 3 | 5 => 5 | 117 => 226 | 116 => 225 | 0 => 0 | 124 => 229 | 21 => 21 | 105 => 276 | 46 => 188 | 119 => 313 | 139 => 316 | 138 => 315 | n => n, fun | 3 => 1 | 4 => 2 | n => n⟩
theorem Tryz.lays160 : Go.Proofs.Lays.n160 Tryz.prog Tryz.lays160_ren := {
  mixed := by kernel_rfl
  f119 := Tryz.func264.trans (congrArg some (by kernel_rfl))
  f120 := Tryz.func272.trans (congrArg some (by kernel_rfl))
  f137 := Tryz.func263.trans (congrArg some (by kernel_rfl))
  f151 := Tryz.func230.trans (congrArg some (by kernel_rfl))
  f152 := Tryz.func207.trans (congrArg some (by kernel_rfl))
  f160 := Tryz.func129.trans (congrArg some (by kernel_rfl))
  f197 := Tryz.func229.trans (congrArg some (by kernel_rfl))
  f217 := Tryz.func259.trans (congrArg some (by kernel_rfl))
  f224 := Tryz.func261.trans (congrArg some (by kernel_rfl))
  f225 := Tryz.func260.trans (congrArg some (by kernel_rfl))
  f227 := Tryz.func154.trans (congrArg some (by kernel_rfl))
  f228 := Tryz.func209.trans (congrArg some (by kernel_rfl))
  f231 := Tryz.func153.trans (congrArg some (by kernel_rfl))
  f232 := Tryz.func157.trans (congrArg some (by kernel_rfl))
  f233 := Tryz.func155.trans (congrArg some (by kernel_rfl))
  f234 := Tryz.func158.trans (congrArg some (by kernel_rfl))
  f235 := Tryz.func156.trans (congrArg some (by kernel_rfl))
  f236 := Tryz.func159.trans (congrArg some (by kernel_rfl))
  f260 := Tryz.func271.trans (congrArg some (by kernel_rfl))
  f266 := Tryz.func281.trans (congrArg some (by kernel_rfl))
  f271 := Tryz.func231.trans (congrArg some (by kernel_rfl))
  t0 := Tryz.underlying0
  a0 := Tryz.isAgg0
  z0 := Tryz.sizeOf0
  v0 := Tryz.zeroValue0
  t3 := Tryz.underlying3
  a3 := Tryz.isAgg3
  z3 := Tryz.sizeOf3
  v3 := Tryz.zeroValue3
  t4 := Tryz.underlying4
  a4 := Tryz.isAgg4
  z4 := Tryz.sizeOf4
  v4 := Tryz.zeroValue4
  t5 := Tryz.underlying5
  a5 := Tryz.isAgg5
  z5 := Tryz.sizeOf5
  v5 := Tryz.zeroValue5
  t9 := Tryz.underlying9
  a9 := Tryz.isAgg9
  z9 := Tryz.sizeOf9
  v9 := Tryz.zeroValue9
  t21 := Tryz.underlying21
  a21 := Tryz.isAgg21
  z21 := Tryz.sizeOf21
  v21 := Tryz.zeroValue21
  t46 := Tryz.underlying188
  a46 := Tryz.isAgg188
  z46 := Tryz.sizeOf188
  v46 := Tryz.zeroValue188
  t105 := Tryz.underlying276
  a105 := Tryz.isAgg276
  z105 := Tryz.sizeOf276
  v105 := Tryz.zeroValue276
  t116 := Tryz.underlying225
  a116 := Tryz.isAgg225
  z116 := Tryz.sizeOf225
  t117 := Tryz.underlying226
  a117 := Tryz.isAgg226
  z117 := Tryz.sizeOf226
  v117 := Tryz.zeroValue226
  t119 := Tryz.underlying313
  a119 := Tryz.isAgg313
  z119 := Tryz.sizeOf313
  t124 := Tryz.underlying229
  a124 := Tryz.isAgg229
  z124 := Tryz.sizeOf229
  v124 := Tryz.zeroValue229
  t138 := Tryz.underlying315
  a138 := Tryz.isAgg315
  z138 := Tryz.sizeOf315
  v138 := Tryz.zeroValue315
  t139 := Tryz.underlying316
  a139 := Tryz.isAgg316
  z139 := Tryz.sizeOf316
  v139 := Tryz.zeroValue316
  g3 := by kernel_rfl
  g4 := by kernel_rfl }
open Go.RowKit in
/-- strings.Trim: "Trim returns a slice of the string s with all leading and trailing Unicode code points contained in cutset removed.": AT A cutset OF ONE ASCII BYTE. THE WORLD BEHIND IT: as it was, or (where s is not empty) with ONE DRAW MORE off the tape: the statement 'return trimLeftByte(trimRightByte(s, c), c)' draws its order of evaluation. (LAID: no walk: one application.) -/
theorem Tryz.strings_Trim_one (s : ByteArray) (c : UInt8) (hc : c.toNat < 128) (w : World) (hs : s.size ≤ 9223372036854775807) :
    Calls Tryz.prog 129 #[.string s, .string ⟨#[c]⟩] w fun e w' => e = .returned (.string ⟨(Lib.trimB s.data.toList c).toArray⟩) ∧ (w' = w ∨ w' = w.drew) := Any.strings_Trim_one Tryz.lays160 s c hc w hs
def Tryz.lays119_ren : Go.Shelf.Ren := ⟨fun | 119 => 264 | n => n, fun | 21 => 21 | 4 => 4 | n => n, fun | n => n⟩
theorem Tryz.lays119 : Go.Proofs.Lays.n119 Tryz.prog Tryz.lays119_ren := {
  mixed := by kernel_rfl
  f119 := Tryz.func264.trans (congrArg some (by kernel_rfl))
  t4 := Tryz.underlying4
  a4 := Tryz.isAgg4
  z4 := Tryz.sizeOf4
  v4 := Tryz.zeroValue4
  t21 := Tryz.underlying21
  a21 := Tryz.isAgg21
  z21 := Tryz.sizeOf21
  v21 := Tryz.zeroValue21 }
/-- utf8.ValidRune: "ValidRune reports whether r can be legally encoded as UTF-8. Code points that are out of range or a surrogate half are illegal.": IT RETURNS 'Lib.validRune r'; the world is as it was. (LAID: no walk: one application.) -/
theorem Tryz.utf8_ValidRune (r : Int) (w : World) :
    Calls Tryz.prog 264 #[.int .i32 r] w fun e w' => e = .returned (.bool (Lib.validRune r)) ∧ w' = w := Any.utf8_ValidRune Tryz.lays119 r w
def Tryz.lays137_ren : Go.Shelf.Ren := ⟨fun | 137 => 263 | 217 => 259 | 266 => 281 | n => n, fun | 9 => 9 | 5 => 5 | 3 => 3 | n => n, fun | n => n⟩
theorem Tryz.lays137 : Go.Proofs.Lays.n137 Tryz.prog Tryz.lays137_ren := {
  mixed := by kernel_rfl
  f137 := Tryz.func263.trans (congrArg some (by kernel_rfl))
  f217 := Tryz.func259.trans (congrArg some (by kernel_rfl))
  f266 := Tryz.func281.trans (congrArg some (by kernel_rfl))
  t3 := Tryz.underlying3
  a3 := Tryz.isAgg3
  z3 := Tryz.sizeOf3
  v3 := Tryz.zeroValue3
  t5 := Tryz.underlying5
  a5 := Tryz.isAgg5
  z5 := Tryz.sizeOf5
  v5 := Tryz.zeroValue5
  t9 := Tryz.underlying9
  a9 := Tryz.isAgg9
  z9 := Tryz.sizeOf9
  v9 := Tryz.zeroValue9 }
open Go.RowKit in
/-- strings.IndexByte: "IndexByte returns the index of the first instance of c in s, or -1 if c is not present in s.": IT RETURNS 'Lib.indexByte s c'; the world is as it was. (LAID: no walk: one application.) -/
theorem Tryz.strings_IndexByte (s : ByteArray) (c : Int) (w : World) :
    Calls Tryz.prog 263 #[.string s, .int .u8 c] w fun e w' => e = .returned (.int .i64 (Lib.indexByte s.data.toList c.toNat.toUInt8)) ∧ w' = w := Any.strings_IndexByte Tryz.lays137 s c w
def Tryz.lays103_ren : Go.Shelf.Ren := ⟨fun | 103 => 234 | 210 => 273 | 206 => 152 | n => n, fun | 9 => 9 | 4 => 4 | 24 => 147 | 3 => 3 | n => n, fun | n => n⟩
theorem Tryz.lays103 : Go.Proofs.Lays.n103 Tryz.prog Tryz.lays103_ren := {
  mixed := by kernel_rfl
  f103 := Tryz.func234.trans (congrArg some (by kernel_rfl))
  f206 := Tryz.func152.trans (congrArg some (by kernel_rfl))
  f210 := Tryz.func273.trans (congrArg some (by kernel_rfl))
  t3 := Tryz.underlying3
  a3 := Tryz.isAgg3
  z3 := Tryz.sizeOf3
  v3 := Tryz.zeroValue3
  t4 := Tryz.underlying4
  a4 := Tryz.isAgg4
  z4 := Tryz.sizeOf4
  v4 := Tryz.zeroValue4
  t9 := Tryz.underlying9
  a9 := Tryz.isAgg9
  z9 := Tryz.sizeOf9
  v9 := Tryz.zeroValue9
  t24 := Tryz.underlying147
  a24 := Tryz.isAgg147
  z24 := Tryz.sizeOf147
  v24 := Tryz.zeroValue147 }
open Go.RowKit in
/-- strings.CutPrefix: "CutPrefix returns s without the provided leading prefix string and reports whether it found the prefix. If s doesn't start with prefix, CutPrefix returns s, false. If prefix is the empty string, CutPrefix returns s, true.": IT RETURNS '(Lib.trimPrefix s p, Lib.hasPrefix s p)'; the world is as it was. (LAID: no walk: one application.) -/
theorem Tryz.strings_CutPrefix (s p : ByteArray) (w : World) :
    Calls Tryz.prog 234 #[.string s, .string p] w fun e w' => e = .returned (.tuple #[.string ⟨(Lib.trimPrefix s.data.toList p.data.toList).toArray⟩, .bool (Lib.hasPrefix s.data.toList p.data.toList)]) ∧ w' = w := Any.strings_CutPrefix Tryz.lays103 s p w
def Tryz.lays104_ren : Go.Shelf.Ren := ⟨fun | 104 => 235 | 211 => 274 | 207 => 305 | n => n, fun | 9 => 9 | 4 => 4 | 24 => 147 | 3 => 3 | n => n, fun | n => n⟩
theorem Tryz.lays104 : Go.Proofs.Lays.n104 Tryz.prog Tryz.lays104_ren := {
  mixed := by kernel_rfl
  f104 := Tryz.func235.trans (congrArg some (by kernel_rfl))
  f207 := Tryz.func305.trans (congrArg some (by kernel_rfl))
  f211 := Tryz.func274.trans (congrArg some (by kernel_rfl))
  t3 := Tryz.underlying3
  a3 := Tryz.isAgg3
  z3 := Tryz.sizeOf3
  v3 := Tryz.zeroValue3
  t4 := Tryz.underlying4
  a4 := Tryz.isAgg4
  z4 := Tryz.sizeOf4
  v4 := Tryz.zeroValue4
  t9 := Tryz.underlying9
  a9 := Tryz.isAgg9
  z9 := Tryz.sizeOf9
  v9 := Tryz.zeroValue9
  t24 := Tryz.underlying147
  a24 := Tryz.isAgg147
  z24 := Tryz.sizeOf147
  v24 := Tryz.zeroValue147 }
open Go.RowKit in
/-- strings.CutSuffix: "CutSuffix returns s without the provided ending suffix string and reports whether it found the suffix. If s doesn't end with suffix, CutSuffix returns s, false. If suffix is the empty string, CutSuffix returns s, true.": IT RETURNS '(Lib.trimSuffix s p, Lib.hasSuffix s p)'; the world is as it was. (LAID: no walk: one application.) -/
theorem Tryz.strings_CutSuffix (s p : ByteArray) (w : World) (hs : s.size ≤ 9223372036854775807) :
    Calls Tryz.prog 235 #[.string s, .string p] w fun e w' => e = .returned (.tuple #[.string ⟨(Lib.trimSuffix s.data.toList p.data.toList).toArray⟩, .bool (Lib.hasSuffix s.data.toList p.data.toList)]) ∧ w' = w := Any.strings_CutSuffix Tryz.lays104 s p w hs
def Tryz.lays219_ren : Go.Shelf.Ren := ⟨fun | 219 => 204 | 217 => 259 | 225 => 260 | 224 => 261 | 267 => 262 | 266 => 281 | 314 => 282 | n => n, fun | 9 => 9 | 3 => 3 | 4 => 4 | 5 => 5 | 46 => 188 | 146 => 304 | 51 => 245 | n => n, fun | 1 => 0 | n => n⟩
theorem Tryz.lays219 : Go.Proofs.Lays.n219 Tryz.prog Tryz.lays219_ren := {
  mixed := by kernel_rfl
  f217 := Tryz.func259.trans (congrArg some (by kernel_rfl))
  f219 := Tryz.func204.trans (congrArg some (by kernel_rfl))
  f224 := Tryz.func261.trans (congrArg some (by kernel_rfl))
  f225 := Tryz.func260.trans (congrArg some (by kernel_rfl))
  f266 := Tryz.func281.trans (congrArg some (by kernel_rfl))
  f267 := Tryz.func262.trans (congrArg some (by kernel_rfl))
  f314 := Tryz.func282.trans (congrArg some (by kernel_rfl))
  t3 := Tryz.underlying3
  a3 := Tryz.isAgg3
  z3 := Tryz.sizeOf3
  v3 := Tryz.zeroValue3
  t4 := Tryz.underlying4
  a4 := Tryz.isAgg4
  z4 := Tryz.sizeOf4
  v4 := Tryz.zeroValue4
  t5 := Tryz.underlying5
  a5 := Tryz.isAgg5
  z5 := Tryz.sizeOf5
  v5 := Tryz.zeroValue5
  t9 := Tryz.underlying9
  a9 := Tryz.isAgg9
  z9 := Tryz.sizeOf9
  v9 := Tryz.zeroValue9
  t46 := Tryz.underlying188
  a46 := Tryz.isAgg188
  z46 := Tryz.sizeOf188
  v46 := Tryz.zeroValue188
  t51 := Tryz.underlying245
  a51 := Tryz.isAgg245
  z51 := Tryz.sizeOf245
  v51 := Tryz.zeroValue245
  t146 := Tryz.underlying304
  a146 := Tryz.isAgg304
  z146 := Tryz.sizeOf304
  v146 := Tryz.zeroValue304
  g1 := by kernel_rfl }
open Go.RowKit Go.Lib in
/-- internal/stringslite.Index (what strings.Index calls) AT A substr OF ONE BYTE c: IT RETURNS 'Lib.indexByte s c'; the world is as it was. (LAID: no walk: one application.) -/
theorem Tryz.stringslite_Index_one (s : ByteArray) (c : UInt8) (w : World) :
    Calls Tryz.prog 204 #[.string s, .string ⟨#[c]⟩] w fun e w' => e = .returned (.int .i64 (Lib.indexByte s.data.toList c)) ∧ w' = w := Any.stringslite_Index_one Tryz.lays219 s c w
def Tryz.lays138_ren : Go.Shelf.Ren := ⟨fun | 138 => 182 | 195 => 249 | 218 => 250 | 143 => 183 | 219 => 204 | 217 => 259 | 225 => 260 | 224 => 261 | 267 => 262 | 266 => 281 | 314 => 282 | n => n, fun | 9 => 9 | 3 => 3 | 4 => 4 | 5 => 5 | 0 => 0 | 46 => 188 | 146 => 304 | 51 => 245 | n => n, fun | 1 => 0 | n => n⟩
theorem Tryz.lays138 : Go.Proofs.Lays.n138 Tryz.prog Tryz.lays138_ren := {
  mixed := by kernel_rfl
  f138 := Tryz.func182.trans (congrArg some (by kernel_rfl))
  f143 := Tryz.func183.trans (congrArg some (by kernel_rfl))
  f195 := Tryz.func249.trans (congrArg some (by kernel_rfl))
  f217 := Tryz.func259.trans (congrArg some (by kernel_rfl))
  f218 := Tryz.func250.trans (congrArg some (by kernel_rfl))
  f219 := Tryz.func204.trans (congrArg some (by kernel_rfl))
  f224 := Tryz.func261.trans (congrArg some (by kernel_rfl))
  f225 := Tryz.func260.trans (congrArg some (by kernel_rfl))
  f266 := Tryz.func281.trans (congrArg some (by kernel_rfl))
  f267 := Tryz.func262.trans (congrArg some (by kernel_rfl))
  f314 := Tryz.func282.trans (congrArg some (by kernel_rfl))
  t0 := Tryz.underlying0
  a0 := Tryz.isAgg0
  z0 := Tryz.sizeOf0
  v0 := Tryz.zeroValue0
  t3 := Tryz.underlying3
  a3 := Tryz.isAgg3
  z3 := Tryz.sizeOf3
  v3 := Tryz.zeroValue3
  t4 := Tryz.underlying4
  a4 := Tryz.isAgg4
  z4 := Tryz.sizeOf4
  v4 := Tryz.zeroValue4
  t5 := Tryz.underlying5
  a5 := Tryz.isAgg5
  z5 := Tryz.sizeOf5
  v5 := Tryz.zeroValue5
  t9 := Tryz.underlying9
  a9 := Tryz.isAgg9
  z9 := Tryz.sizeOf9
  v9 := Tryz.zeroValue9
  t46 := Tryz.underlying188
  a46 := Tryz.isAgg188
  z46 := Tryz.sizeOf188
  v46 := Tryz.zeroValue188
  t51 := Tryz.underlying245
  a51 := Tryz.isAgg245
  z51 := Tryz.sizeOf245
  v51 := Tryz.zeroValue245
  t146 := Tryz.underlying304
  a146 := Tryz.isAgg304
  z146 := Tryz.sizeOf304
  v146 := Tryz.zeroValue304
  g1 := by kernel_rfl }
open Go.RowKit Go.Lib in
/-- strings.Count AT A substr OF ONE BYTE ('hp'): "Count counts the number of non-overlapping instances of substr in s.": IT RETURNS 'Lib.countByte s (that byte)'; the world is as it was. ✋ NO CONTRACT HERE YET at an empty substr (utf8.RuneCountInString) or at a longer one (a loop over strings.Index). (LAID: no walk: one application.) -/
theorem Tryz.strings_Count_one (s : ByteArray) (c : UInt8) (w : World) :
    Calls Tryz.prog 182 #[.string s, .string ⟨#[c]⟩] w fun e w' => e = .returned (.int .i64 (Lib.countByte s.data.toList c)) ∧ w' = w := Any.strings_Count_one Tryz.lays138 s c w
def Tryz.lays99_ren : Go.Shelf.Ren := ⟨fun | 99 => 99 | 206 => 152 | n => n, fun | 9 => 9 | 4 => 4 | 3 => 3 | n => n, fun | n => n⟩
theorem Tryz.lays99 : Go.Proofs.Lays.n99 Tryz.prog Tryz.lays99_ren := {
  mixed := by kernel_rfl
  f99 := Tryz.func99.trans (congrArg some (by kernel_rfl))
  f206 := Tryz.func152.trans (congrArg some (by kernel_rfl))
  t3 := Tryz.underlying3
  a3 := Tryz.isAgg3
  z3 := Tryz.sizeOf3
  v3 := Tryz.zeroValue3
  t4 := Tryz.underlying4
  a4 := Tryz.isAgg4
  z4 := Tryz.sizeOf4
  v4 := Tryz.zeroValue4
  t9 := Tryz.underlying9
  a9 := Tryz.isAgg9
  z9 := Tryz.sizeOf9
  v9 := Tryz.zeroValue9 }
open Go.RowKit Go.Lib in
/-- strings.HasPrefix: "HasPrefix reports whether the string s begins with prefix.": IT RETURNS 'Lib.hasPrefix s prefix'; the world is as it was. (LAID: no walk: one application.) -/
theorem Tryz.strings_HasPrefix (s p : ByteArray) (w : World) :
    Calls Tryz.prog 99 #[.string s, .string p] w fun e w' => e = .returned (.bool (Lib.hasPrefix s.data.toList p.data.toList)) ∧ w' = w := Any.strings_HasPrefix Tryz.lays99 s p w
def Tryz.lays152_ren : Go.Shelf.Ren := ⟨fun | 152 => 207 | 137 => 263 | 119 => 264 | 224 => 261 | 225 => 260 | 217 => 259 | 266 => 281 | n => n, fun | 9 => 9 | 21 => 21 | 3 => 3 | 4 => 4 | 5 => 5 | 0 => 0 | 46 => 188 | n => n, fun | n => n⟩
theorem Tryz.lays152 : Go.Proofs.Lays.n152 Tryz.prog Tryz.lays152_ren := {
  mixed := by kernel_rfl
  f119 := Tryz.func264.trans (congrArg some (by kernel_rfl))
  f137 := Tryz.func263.trans (congrArg some (by kernel_rfl))
  f152 := Tryz.func207.trans (congrArg some (by kernel_rfl))
  f217 := Tryz.func259.trans (congrArg some (by kernel_rfl))
  f224 := Tryz.func261.trans (congrArg some (by kernel_rfl))
  f225 := Tryz.func260.trans (congrArg some (by kernel_rfl))
  f266 := Tryz.func281.trans (congrArg some (by kernel_rfl))
  t0 := Tryz.underlying0
  a0 := Tryz.isAgg0
  z0 := Tryz.sizeOf0
  v0 := Tryz.zeroValue0
  t3 := Tryz.underlying3
  a3 := Tryz.isAgg3
  z3 := Tryz.sizeOf3
  v3 := Tryz.zeroValue3
  t4 := Tryz.underlying4
  a4 := Tryz.isAgg4
  z4 := Tryz.sizeOf4
  v4 := Tryz.zeroValue4
  t5 := Tryz.underlying5
  a5 := Tryz.isAgg5
  z5 := Tryz.sizeOf5
  v5 := Tryz.zeroValue5
  t9 := Tryz.underlying9
  a9 := Tryz.isAgg9
  z9 := Tryz.sizeOf9
  v9 := Tryz.zeroValue9
  t21 := Tryz.underlying21
  a21 := Tryz.isAgg21
  z21 := Tryz.sizeOf21
  v21 := Tryz.zeroValue21
  t46 := Tryz.underlying188
  a46 := Tryz.isAgg188
  z46 := Tryz.sizeOf188
  v46 := Tryz.zeroValue188 }
open Go.RowKit Go.Lib in
theorem Tryz.strings_IndexRune_ascii (s : ByteArray) (r : Int) (w : World) (h0 : 0 ≤ r) (h1 : r < 128) :
    Calls Tryz.prog 207 #[.string s, .int .i32 r] w fun e w' => e = .returned (.int .i64 (Lib.indexByte s.data.toList r.toNat.toUInt8)) ∧ w' = w := Any.strings_IndexRune_ascii Tryz.lays152 s r w h0 h1
def Tryz.lays226_ren : Go.Shelf.Ren := ⟨fun | 226 => 208 | n => n, fun | 3 => 3 | 4 => 4 | n => n, fun | n => n⟩
theorem Tryz.lays226 : Go.Proofs.Lays.n226 Tryz.prog Tryz.lays226_ren := {
  mixed := by kernel_rfl
  f226 := Tryz.func208.trans (congrArg some (by kernel_rfl))
  t3 := Tryz.underlying3
  a3 := Tryz.isAgg3
  z3 := Tryz.sizeOf3
  v3 := Tryz.zeroValue3
  t4 := Tryz.underlying4
  a4 := Tryz.isAgg4
  z4 := Tryz.sizeOf4
  v4 := Tryz.zeroValue4 }
open Go.RowKit Go.Lib in
theorem Tryz.strings_shouldUseASCIISet (n : Int) (w : World) :
    Calls Tryz.prog 208 #[.int .i64 n] w fun e w' => e = .returned (.bool (decide (8 < n))) ∧ w' = w := Any.strings_shouldUseASCIISet Tryz.lays226 n w
def Tryz.lays153_ren : Go.Shelf.Ren := ⟨fun | 153 => 134 | 152 => 207 | 226 => 208 | 227 => 154 | 228 => 209 | 137 => 263 | 119 => 264 | 224 => 261 | 225 => 260 | 217 => 259 | 266 => 281 | n => n, fun | 9 => 9 | 3 => 3 | 4 => 4 | 5 => 5 | 21 => 21 | 117 => 226 | 116 => 225 | 0 => 0 | 46 => 188 | 124 => 229 | n => n, fun | n => n⟩
theorem Tryz.lays153 : Go.Proofs.Lays.n153 Tryz.prog Tryz.lays153_ren := {
  mixed := by kernel_rfl
  f119 := Tryz.func264.trans (congrArg some (by kernel_rfl))
  f137 := Tryz.func263.trans (congrArg some (by kernel_rfl))
  f152 := Tryz.func207.trans (congrArg some (by kernel_rfl))
  f153 := Tryz.func134.trans (congrArg some (by kernel_rfl))
  f217 := Tryz.func259.trans (congrArg some (by kernel_rfl))
  f224 := Tryz.func261.trans (congrArg some (by kernel_rfl))
  f225 := Tryz.func260.trans (congrArg some (by kernel_rfl))
  f226 := Tryz.func208.trans (congrArg some (by kernel_rfl))
  f227 := Tryz.func154.trans (congrArg some (by kernel_rfl))
  f228 := Tryz.func209.trans (congrArg some (by kernel_rfl))
  f266 := Tryz.func281.trans (congrArg some (by kernel_rfl))
  t0 := Tryz.underlying0
  a0 := Tryz.isAgg0
  z0 := Tryz.sizeOf0
  v0 := Tryz.zeroValue0
  t3 := Tryz.underlying3
  a3 := Tryz.isAgg3
  z3 := Tryz.sizeOf3
  v3 := Tryz.zeroValue3
  t4 := Tryz.underlying4
  a4 := Tryz.isAgg4
  z4 := Tryz.sizeOf4
  v4 := Tryz.zeroValue4
  t5 := Tryz.underlying5
  a5 := Tryz.isAgg5
  z5 := Tryz.sizeOf5
  v5 := Tryz.zeroValue5
  t9 := Tryz.underlying9
  a9 := Tryz.isAgg9
  z9 := Tryz.sizeOf9
  v9 := Tryz.zeroValue9
  t21 := Tryz.underlying21
  a21 := Tryz.isAgg21
  z21 := Tryz.sizeOf21
  v21 := Tryz.zeroValue21
  t46 := Tryz.underlying188
  a46 := Tryz.isAgg188
  z46 := Tryz.sizeOf188
  v46 := Tryz.zeroValue188
  t116 := Tryz.underlying225
  a116 := Tryz.isAgg225
  z116 := Tryz.sizeOf225
  t117 := Tryz.underlying226
  a117 := Tryz.isAgg226
  z117 := Tryz.sizeOf226
  v117 := Tryz.zeroValue226
  t124 := Tryz.underlying229
  a124 := Tryz.isAgg229
  z124 := Tryz.sizeOf229
  v124 := Tryz.zeroValue229 }
open Go.RowKit Go.Lib in
theorem Tryz.strings_IndexAny_long (hv116 : ∀ w, (zeroValue 225).run Tryz.prog w = .ok (.agg (Array.replicate 256 (.bool false))) w) (s chars : ByteArray) (w : World) (h2 : 2 ≤ chars.size) (h8 : 8 < s.size) (hs : s.size < 4294967281) (hcs : chars.size < 4294967281) (hascii : ∀ (j : Nat) b, chars.data.toList[j]? = some b → b.toNat < 128) :
    Calls Tryz.prog 134 #[.string s, .string chars] w fun e w' => e = .returned (.int .i64 (Lib.indexAny s.data.toList chars.data.toList)) ∧ w' = ((w.alloc (.cells (Lib.setCells chars.data.toList) 225)).alloc (.cells (Lib.setCells chars.data.toList) 225)) := Any.strings_IndexAny_long Tryz.lays153 hv116 (by kernel_rfl) s chars w h2 h8 hs hcs hascii
end Go.Proofs
