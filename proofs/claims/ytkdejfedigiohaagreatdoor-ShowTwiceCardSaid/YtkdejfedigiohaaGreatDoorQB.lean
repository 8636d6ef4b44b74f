/- DERIVED: THE SHELF's CONTRACTS AT THIS DUMP, IN PLAIN WORDS (tools/lay-plain.mjs out of 'TryzShelf.lean', which tools/lay-shelf.mjs wrote): THE SAME DECLARATIONS UNDER THE SAME NAMES: 'import', 'namespace', 'open', 'def', 'theorem' AND NOTHING ELSE: no command of the shelf's: FOR A HAND-IN. Each laying: the table of numbers ('.._ren') and one theorem, a field a fact of the dump's own or the kernel's comparison; each contract: ONE APPLICATION. An item of a field's text: how it is cut, and what its ends are. An item of a field's text: its ends' values, and its step. (*item).values at an item of two ends. The values of an item, one by one: the iterator's contract. field.Parse at a text all of whose items are in order. lex.Fields: the words of a text all of whose signs are known. spec.Parse at a text whose five words are in order. -/
import Derived.Shelf.Strings.Builder1
import Derived.Shelf.Strconv.Itoa0
import Derived.Shelf.Strconv.Itoa1
import Derived.Shelf.LaysM
import Derived.Shelf.Strconv.Itoa2
import Derived.Shelf.Strconv.Itoa3
import Derived.Shelf.Strings.Search1
import Derived.Shelf.Strings.Search2
import Derived.Shelf.Strings.Search3
import Derived.Shelf.Strings.Cut
import Derived.Shelf.Strings.Count
import Derived.Shelf.Strings.Shaped
import Derived.Shelf.Strings.Split
import Derived.Shelf.Unicode.Decode
import Derived.Shelf.Strings.RuneCount
import Derived.Shelf.Strings.Explode
import Derived.Shelf.Unicode.DecodeSlow
import Derived.Shelf.Unicode.DecodeAny
import Derived.Shelf.Strings.FieldsFuncAny
import Derived.Shelf.Strings.FieldsFuncGrows
import Derived.Test.YtkdejfedigiohaaGreatDoorProg
import Derived.Test.YtkdejfedigiohaaGreatDoorQA
import Derived.LoopN
import Derived.RangeFuncNested
import Derived.RangeFuncBound
import Derived.RangeFuncCalls
import Derived.RangeFuncLeaves
import Derived.Shelf.RegionOpenPlain
import Derived.WalkKit
import Derived.OwnWalkIn
import Derived.TacticsInMore
import Derived.LoopNIn
import Derived.LoopIn
/-
  DERIVED: THE SHELF's CONTRACTS AT THIS DUMP, IN PLAIN WORDS (tools/lay-plain.mjs out of 'TryzShelf.lean', which tools/lay-shelf.mjs wrote): THE SAME DECLARATIONS UNDER THE SAME NAMES: 'import', 'namespace', 'open', 'def', 'theorem' AND NOTHING ELSE: no command of the shelf's: FOR A HAND-IN. Each laying: the table of numbers ('.._ren') and one theorem, a field a fact of the dump's own or the kernel's comparison; each contract: ONE APPLICATION.
-/
namespace Go.Proofs
open Go.Shelf
def Tryz.lays171_ren : Go.Shelf.Ren := ⟨fun | 171 => 60 | 243 => 98 | 246 => 122 | 283 => 144 | 284 => 145 | 285 => 146 | 286 => 147 | 129 => 158 | 317 => 157 | 318 => 159 | 319 => 160 | 320 => 161 | 337 => 168 | 338 => 120 | n => n, fun | 3 => 3 | 9 => 9 | 2 => 2 | 4 => 4 | 171 => 174 | 0 => 0 | 53 => 22 | 37 => 85 | 5 => 5 | 173 => 176 | 212 => 196 | 51 => 39 | 20 => 20 | 213 => 197 | 46 => 42 | 232 => 207 | 233 => 172 | n => n, fun | 17 => 2 | 18 => 6 | 19 => 1 | n => n⟩
theorem Tryz.lays171 : Go.Proofs.Lays.n171 Tryz.prog Tryz.lays171_ren := {
  mixed := by kernel_rfl
  f129 := Tryz.func158.trans (congrArg some (by kernel_rfl))
  f171 := Tryz.func60.trans (congrArg some (by kernel_rfl))
  f243 := Tryz.func98.trans (congrArg some (by kernel_rfl))
  f246 := Tryz.func122.trans (congrArg some (by kernel_rfl))
  f283 := Tryz.func144.trans (congrArg some (by kernel_rfl))
  f284 := Tryz.func145.trans (congrArg some (by kernel_rfl))
  f285 := Tryz.func146.trans (congrArg some (by kernel_rfl))
  f286 := Tryz.func147.trans (congrArg some (by kernel_rfl))
  f317 := Tryz.func157.trans (congrArg some (by kernel_rfl))
  f318 := Tryz.func159.trans (congrArg some (by kernel_rfl))
  f319 := Tryz.func160.trans (congrArg some (by kernel_rfl))
  f320 := Tryz.func161.trans (congrArg some (by kernel_rfl))
  f337 := Tryz.func168.trans (congrArg some (by kernel_rfl))
  f338 := Tryz.func120.trans (congrArg some (by kernel_rfl))
  t0 := Tryz.underlying0
  a0 := Tryz.isAgg0
  z0 := Tryz.sizeOf0
  v0 := Tryz.zeroValue0
  t2 := Tryz.underlying2
  a2 := Tryz.isAgg2
  z2 := Tryz.sizeOf2
  v2 := Tryz.zeroValue2
  t3 := Tryz.underlying3
  a3 := Tryz.isAgg3
  z3 := Tryz.sizeOf3
  v3 := Tryz.zeroValue3
  t4 := Tryz.underlying4
  a4 := Tryz.isAgg4
  z4 := Tryz.sizeOf4
  v4 := Tryz.zeroValue4
  t5 := Tryz.underlying5
  a5 := Tryz.isAgg5
  z5 := Tryz.sizeOf5
  v5 := Tryz.zeroValue5
  t9 := Tryz.underlying9
  a9 := Tryz.isAgg9
  z9 := Tryz.sizeOf9
  v9 := Tryz.zeroValue9
  t20 := Tryz.underlying20
  a20 := Tryz.isAgg20
  z20 := Tryz.sizeOf20
  v20 := Tryz.zeroValue20
  t37 := Tryz.underlying85
  a37 := Tryz.isAgg85
  z37 := Tryz.sizeOf85
  v37 := Tryz.zeroValue85
  t46 := Tryz.underlying42
  a46 := Tryz.isAgg42
  z46 := Tryz.sizeOf42
  v46 := Tryz.zeroValue42
  t51 := Tryz.underlying39
  a51 := Tryz.isAgg39
  z51 := Tryz.sizeOf39
  v51 := Tryz.zeroValue39
  t53 := Tryz.underlying22
  a53 := Tryz.isAgg22
  z53 := Tryz.sizeOf22
  v53 := Tryz.zeroValue22
  t171 := Tryz.underlying174
  a171 := Tryz.isAgg174
  z171 := Tryz.sizeOf174
  v171 := Tryz.zeroValue174
  t173 := Tryz.underlying176
  a173 := Tryz.isAgg176
  z173 := Tryz.sizeOf176
  v173 := Tryz.zeroValue176
  t212 := Tryz.underlying196
  a212 := Tryz.isAgg196
  z212 := Tryz.sizeOf196
  v212 := Tryz.zeroValue196
  t213 := Tryz.underlying197
  a213 := Tryz.isAgg197
  z213 := Tryz.sizeOf197
  t232 := Tryz.underlying207
  a232 := Tryz.isAgg207
  z232 := Tryz.sizeOf207
  v232 := Tryz.zeroValue207
  t233 := Tryz.underlying172
  a233 := Tryz.isAgg172
  z233 := Tryz.sizeOf172
  v233 := Tryz.zeroValue172
  g17 := by kernel_rfl
  g18 := by kernel_rfl
  g19 := by kernel_rfl }
open Go.RowKit Go.Sort Go.Lib in
/-- THE ROAD WITHOUT THE TABLE: 0 <= i < 100: NO PREMISE ON THE WORLD, AND THE WORLD IS AS IT WAS: a row that keeps its argument in that range need list no table ('laid = []'). (LAID: no walk: one application.) -/
theorem Tryz.strconv_Itoa_small (i : Nat) (hi : i < 100) (w : World) :
    Calls Tryz.prog 60 #[.int .i64 i] w fun e w' => e = .returned (.string ⟨(Lib.decDigits i).toArray⟩) ∧ w' = w := Any.strconv_Itoa_small Tryz.lays171 i hi w
def Tryz.lays144_ren : Go.Shelf.Ren := ⟨fun | 144 => 107 | 143 => 132 | 219 => 153 | 217 => 164 | 225 => 165 | 224 => 166 | 267 => 167 | 266 => 170 | 314 => 171 | n => n, fun | 9 => 9 | 4 => 4 | 3 => 3 | 5 => 5 | 46 => 42 | 146 => 205 | 51 => 39 | n => n, fun | 1 => 3 | n => n⟩
theorem Tryz.lays144 : Go.Proofs.Lays.n144 Tryz.prog Tryz.lays144_ren := {
  mixed := by kernel_rfl
  f143 := Tryz.func132.trans (congrArg some (by kernel_rfl))
  f144 := Tryz.func107.trans (congrArg some (by kernel_rfl))
  f217 := Tryz.func164.trans (congrArg some (by kernel_rfl))
  f219 := Tryz.func153.trans (congrArg some (by kernel_rfl))
  f224 := Tryz.func166.trans (congrArg some (by kernel_rfl))
  f225 := Tryz.func165.trans (congrArg some (by kernel_rfl))
  f266 := Tryz.func170.trans (congrArg some (by kernel_rfl))
  f267 := Tryz.func167.trans (congrArg some (by kernel_rfl))
  f314 := Tryz.func171.trans (congrArg some (by kernel_rfl))
  t3 := Tryz.underlying3
  a3 := Tryz.isAgg3
  z3 := Tryz.sizeOf3
  v3 := Tryz.zeroValue3
  t4 := Tryz.underlying4
  a4 := Tryz.isAgg4
  z4 := Tryz.sizeOf4
  v4 := Tryz.zeroValue4
  t5 := Tryz.underlying5
  a5 := Tryz.isAgg5
  z5 := Tryz.sizeOf5
  v5 := Tryz.zeroValue5
  t9 := Tryz.underlying9
  a9 := Tryz.isAgg9
  z9 := Tryz.sizeOf9
  v9 := Tryz.zeroValue9
  t46 := Tryz.underlying42
  a46 := Tryz.isAgg42
  z46 := Tryz.sizeOf42
  v46 := Tryz.zeroValue42
  t51 := Tryz.underlying39
  a51 := Tryz.isAgg39
  z51 := Tryz.sizeOf39
  v51 := Tryz.zeroValue39
  t146 := Tryz.underlying205
  a146 := Tryz.isAgg205
  z146 := Tryz.sizeOf205
  v146 := Tryz.zeroValue205
  g1 := by kernel_rfl }
open Go.RowKit Go.Lib in
/-- strings.Contains: "Contains reports whether substr is within s.": IT RETURNS 'Lib.contains s substr'; the world is as it was. (LAID: no walk: one application.) -/
theorem Tryz.strings_Contains (s sub : ByteArray) (m : Int) (w : World) (hs : s.size < 4294967281) (hm : w.cell? ⟨3, 0, none⟩ = some (.int .i64 m)) :
    Calls Tryz.prog 107 #[.string s, .string sub] w fun e w' => e = .returned (.bool (Lib.contains s.data.toList sub.data.toList)) ∧ w' = w := Any.strings_Contains Tryz.lays144 s sub m w hs hm
def Tryz.lays145_ren : Go.Shelf.Ren := ⟨fun | 145 => 106 | 220 => 133 | 219 => 153 | 217 => 164 | 225 => 165 | 224 => 166 | 267 => 167 | 266 => 170 | 314 => 171 | n => n, fun | 9 => 9 | 4 => 4 | 59 => 131 | 3 => 3 | 5 => 5 | 46 => 42 | 146 => 205 | 51 => 39 | n => n, fun | 1 => 3 | n => n⟩
theorem Tryz.lays145 : Go.Proofs.Lays.n145 Tryz.prog Tryz.lays145_ren := {
  mixed := by kernel_rfl
  f145 := Tryz.func106.trans (congrArg some (by kernel_rfl))
  f217 := Tryz.func164.trans (congrArg some (by kernel_rfl))
  f219 := Tryz.func153.trans (congrArg some (by kernel_rfl))
  f220 := Tryz.func133.trans (congrArg some (by kernel_rfl))
  f224 := Tryz.func166.trans (congrArg some (by kernel_rfl))
  f225 := Tryz.func165.trans (congrArg some (by kernel_rfl))
  f266 := Tryz.func170.trans (congrArg some (by kernel_rfl))
  f267 := Tryz.func167.trans (congrArg some (by kernel_rfl))
  f314 := Tryz.func171.trans (congrArg some (by kernel_rfl))
  t3 := Tryz.underlying3
  a3 := Tryz.isAgg3
  z3 := Tryz.sizeOf3
  v3 := Tryz.zeroValue3
  t4 := Tryz.underlying4
  a4 := Tryz.isAgg4
  z4 := Tryz.sizeOf4
  v4 := Tryz.zeroValue4
  t5 := Tryz.underlying5
  a5 := Tryz.isAgg5
  z5 := Tryz.sizeOf5
  v5 := Tryz.zeroValue5
  t9 := Tryz.underlying9
  a9 := Tryz.isAgg9
  z9 := Tryz.sizeOf9
  v9 := Tryz.zeroValue9
  t46 := Tryz.underlying42
  a46 := Tryz.isAgg42
  z46 := Tryz.sizeOf42
  v46 := Tryz.zeroValue42
  t51 := Tryz.underlying39
  a51 := Tryz.isAgg39
  z51 := Tryz.sizeOf39
  v51 := Tryz.zeroValue39
  t59 := Tryz.underlying131
  a59 := Tryz.isAgg131
  z59 := Tryz.sizeOf131
  v59 := Tryz.zeroValue131
  t146 := Tryz.underlying205
  a146 := Tryz.isAgg205
  z146 := Tryz.sizeOf205
  v146 := Tryz.zeroValue205
  g1 := by kernel_rfl }
open Go.RowKit Go.Lib in
/-- strings.Cut: "Cut slices s around the first instance of sep, returning the text before and after sep. The found result reports whether sep appears in s. If sep does not appear in s, cut returns s, "", false.": IT RETURNS 'Lib.cut s sep'; the world is as it was but for the count of draws. (LAID: no walk: one application.) -/
theorem Tryz.strings_Cut (s sep : ByteArray) (m : Int) (w : World) (hs : s.size < 4294967281) (hm : w.cell? ⟨3, 0, none⟩ = some (.int .i64 m)) :
    Calls Tryz.prog 106 #[.string s, .string sep] w fun e w' => e = .returned (.tuple #[.string ⟨(Lib.cut s.data.toList sep.data.toList).1.toArray⟩, .string ⟨(Lib.cut s.data.toList sep.data.toList).2.1.toArray⟩, .bool (Lib.cut s.data.toList sep.data.toList).2.2]) ∧ ∃ n, w' = w.drewN n := Any.strings_Cut Tryz.lays145 s sep m w hs hm
def Tryz.lays146_ren : Go.Shelf.Ren := ⟨fun | 146 => 72 | 221 => 105 | 268 => 130 | 138 => 131 | 143 => 132 | 195 => 150 | 197 => 151 | 218 => 152 | 219 => 153 | 260 => 163 | 217 => 164 | 225 => 165 | 224 => 166 | 267 => 167 | 266 => 170 | 314 => 171 | n => n, fun | 9 => 9 | 31 => 106 | 3 => 3 | 4 => 4 | 0 => 0 | 105 => 179 | 21 => 21 | 5 => 5 | 46 => 42 | 119 => 201 | 139 => 204 | 138 => 203 | 146 => 205 | 51 => 39 | n => n, fun | 1 => 3 | 3 => 4 | 4 => 5 | n => n⟩
theorem Tryz.lays146 : Go.Proofs.Lays.n146 Tryz.prog Tryz.lays146_ren := {
  mixed := by kernel_rfl
  f138 := Tryz.func131.trans (congrArg some (by kernel_rfl))
  f143 := Tryz.func132.trans (congrArg some (by kernel_rfl))
  f146 := Tryz.func72.trans (congrArg some (by kernel_rfl))
  f195 := Tryz.func150.trans (congrArg some (by kernel_rfl))
  f197 := Tryz.func151.trans (congrArg some (by kernel_rfl))
  f217 := Tryz.func164.trans (congrArg some (by kernel_rfl))
  f218 := Tryz.func152.trans (congrArg some (by kernel_rfl))
  f219 := Tryz.func153.trans (congrArg some (by kernel_rfl))
  f221 := Tryz.func105.trans (congrArg some (by kernel_rfl))
  f224 := Tryz.func166.trans (congrArg some (by kernel_rfl))
  f225 := Tryz.func165.trans (congrArg some (by kernel_rfl))
  f260 := Tryz.func163.trans (congrArg some (by kernel_rfl))
  f266 := Tryz.func170.trans (congrArg some (by kernel_rfl))
  f267 := Tryz.func167.trans (congrArg some (by kernel_rfl))
  f268 := Tryz.func130.trans (congrArg some (by kernel_rfl))
  f314 := Tryz.func171.trans (congrArg some (by kernel_rfl))
  t0 := Tryz.underlying0
  a0 := Tryz.isAgg0
  z0 := Tryz.sizeOf0
  v0 := Tryz.zeroValue0
  t3 := Tryz.underlying3
  a3 := Tryz.isAgg3
  z3 := Tryz.sizeOf3
  v3 := Tryz.zeroValue3
  t4 := Tryz.underlying4
  a4 := Tryz.isAgg4
  z4 := Tryz.sizeOf4
  v4 := Tryz.zeroValue4
  t5 := Tryz.underlying5
  a5 := Tryz.isAgg5
  z5 := Tryz.sizeOf5
  v5 := Tryz.zeroValue5
  t9 := Tryz.underlying9
  a9 := Tryz.isAgg9
  z9 := Tryz.sizeOf9
  v9 := Tryz.zeroValue9
  t21 := Tryz.underlying21
  a21 := Tryz.isAgg21
  z21 := Tryz.sizeOf21
  v21 := Tryz.zeroValue21
  t31 := Tryz.underlying106
  a31 := Tryz.isAgg106
  z31 := Tryz.sizeOf106
  v31 := Tryz.zeroValue106
  t46 := Tryz.underlying42
  a46 := Tryz.isAgg42
  z46 := Tryz.sizeOf42
  v46 := Tryz.zeroValue42
  t51 := Tryz.underlying39
  a51 := Tryz.isAgg39
  z51 := Tryz.sizeOf39
  v51 := Tryz.zeroValue39
  t105 := Tryz.underlying179
  a105 := Tryz.isAgg179
  z105 := Tryz.sizeOf179
  v105 := Tryz.zeroValue179
  t119 := Tryz.underlying201
  a119 := Tryz.isAgg201
  z119 := Tryz.sizeOf201
  t138 := Tryz.underlying203
  a138 := Tryz.isAgg203
  z138 := Tryz.sizeOf203
  v138 := Tryz.zeroValue203
  t139 := Tryz.underlying204
  a139 := Tryz.isAgg204
  z139 := Tryz.sizeOf204
  v139 := Tryz.zeroValue204
  t146 := Tryz.underlying205
  a146 := Tryz.isAgg205
  z146 := Tryz.sizeOf205
  v146 := Tryz.zeroValue205
  g1 := by kernel_rfl
  g3 := by kernel_rfl
  g4 := by kernel_rfl }
open Go.RowKit Go.Lib in
/-- strings.Split. (LAID: no walk: one application.) -/
theorem Tryz.strings_Split (s sep : ByteArray) (m : Int) (w : World) (hs : s.size < 4294967281) (hm : w.cell? ⟨3, 0, none⟩ = some (.int .i64 m)) (h1 : 1 ≤ sep.size) :
    Calls Tryz.prog 72 #[.string s, .string sep] w fun e w' =>
      e = .returned (.slice (some ⟨w.heap.size, 0, none⟩) (Lib.countB s sep + 1) (Lib.countB s sep + 1)) ∧ w' = w.alloc (.cells ((Lib.splitB sep 0 (Lib.countB s sep) s).map Value.string).toArray 9) := Any.strings_Split Tryz.lays146 (by kernel_rfl) s sep m w hs hm h1
def Tryz.lays229_ren : Go.Shelf.Ren := ⟨fun | 229 => 115 | n => n, fun | 9 => 9 | 40 => 143 | 31 => 106 | 152 => 169 | 3 => 3 | 0 => 0 | 4 => 4 | 21 => 21 | 154 => 171 | n => n, fun | n => n⟩
theorem Tryz.lays229 : Go.Proofs.Lays.n229 Tryz.prog Tryz.lays229_ren := {
  mixed := by kernel_rfl
  f229 := Tryz.func115.trans (congrArg some (by kernel_rfl))
  t0 := Tryz.underlying0
  a0 := Tryz.isAgg0
  z0 := Tryz.sizeOf0
  v0 := Tryz.zeroValue0
  t3 := Tryz.underlying3
  a3 := Tryz.isAgg3
  z3 := Tryz.sizeOf3
  v3 := Tryz.zeroValue3
  t4 := Tryz.underlying4
  a4 := Tryz.isAgg4
  z4 := Tryz.sizeOf4
  v4 := Tryz.zeroValue4
  t9 := Tryz.underlying9
  a9 := Tryz.isAgg9
  z9 := Tryz.sizeOf9
  v9 := Tryz.zeroValue9
  t21 := Tryz.underlying21
  a21 := Tryz.isAgg21
  z21 := Tryz.sizeOf21
  v21 := Tryz.zeroValue21
  t31 := Tryz.underlying106
  a31 := Tryz.isAgg106
  z31 := Tryz.sizeOf106
  v31 := Tryz.zeroValue106
  t40 := Tryz.underlying143
  a40 := Tryz.isAgg143
  z40 := Tryz.sizeOf143
  v40 := Tryz.zeroValue143
  t152 := Tryz.underlying169
  a152 := Tryz.isAgg169
  z152 := Tryz.sizeOf169
  v152 := Tryz.zeroValue169
  t154 := Tryz.underlying171
  a154 := Tryz.isAgg171
  z154 := Tryz.sizeOf171
  v154 := Tryz.zeroValue171 }
open Go.RowKit Go.Lib in
theorem Tryz.strings_FieldsFunc_grows (g : Nat) (lb : Array Value) (eg : ∀ args w, (callFunc g args).run Tryz.prog w = .ok (.enter g args) w) (p : Nat → Bool) (s : ByteArray) (w : World) (hs : s.size ≤ 4294967296) (hp : PredGrows Tryz.prog g lb p w) :
    Calls Tryz.prog 115 #[.string s, .func (.func g) #[] lb] w fun e w' => ∃ A, e = .returned (.slice (some ⟨A, 0, none⟩) (Lib.goFieldsP p s).length (Lib.goFieldsP p s).length) ∧ w.heap.size ≤ A ∧
      w'.ownsRow w.heap.size 9 1 (.slice (some ⟨A, 0, none⟩) (Lib.goFieldsP p s).length (Lib.goFieldsP p s).length) (Lib.goFieldsP p s).length ((Lib.goFieldsP p s).map Value.string) ∧ Below w.heap.size w w' := Any.strings_FieldsFunc_grows Tryz.lays229 g lb eg p s w hs hp (by kernel_rfl) (by kernel_rfl)

end Go.Proofs

/- An item of a field's text: how it is cut, and what its ends are. -/
namespace Go.Proofs.YtkdejfedigiohaaGreatDoor
open Go.RowKit Go.Proofs.YtkdejfedigiohaaGreatDoorW.PrintWords Go.Proofs.YtkdejfedigiohaaGreatDoorW.PrintLast Go.Proofs.YtkdejfedigiohaaGreatDoorW.PrintMore
set_option linter.unusedVariables false
set_option linter.unusedSimpArgs false


/-- What was there is as it was, but for block b. -/
structure KX (b : Nat) (w w' : World) : Prop where
  os : w'.os = w.os
  tape : w'.tape = w.tape
  output : w'.output = w.output
  size : w.heap.size ≤ w'.heap.size
  block : ∀ k, k < w.heap.size → k ≠ b → w'.heap[k]? = w.heap[k]?
theorem KX.refl (b : Nat) (w : World) : KX b w w := ⟨rfl, rfl, rfl, Nat.le_refl _, fun _ _ _ => rfl⟩
theorem KX.trans {b : Nat} {u v w : World} (h : KX b u v) (k : KX b v w) : KX b u w :=
  ⟨k.os.trans h.os, k.tape.trans h.tape, k.output.trans h.output, Nat.le_trans h.size k.size, fun i hi hb => (k.block i (Nat.lt_of_lt_of_le hi h.size) hb).trans (h.block i hi hb)⟩
theorem KX.of {b : Nat} {w w' : World} (h : Below w.heap.size w w') : KX b w w' := ⟨h.os, h.tape, h.output, h.size, fun k hk _ => h.block k hk⟩
theorem KX.set {b : Nat} (w : World) (i : Nat) (u : Value) : KX b w (w.setCell ⟨b, i, none⟩ u) := ⟨rfl, rfl, rfl, by simp [World.setCell], fun k _ hb => Below.heap_setCell _ _ _ _ hb⟩
theorem KX.alloc {b : Nat} (w : World) (o : Obj) : KX b w (w.alloc o) := .of ((Below.refl _ _).alloc (Nat.le_refl _) _)
theorem KX.blk {b g : Nat} {w w' : World} {o : Obj} (h : KX b w w') (hg : w.heap[g]? = some o) (hne : g ≠ b) : w'.heap[g]? = some o := (h.block g (blk_lt hg) hne).trans hg
theorem KX.below {b B : Nat} {w w' : World} (h : KX b w w') (h1 : B ≤ b) (h2 : B ≤ w.heap.size) : Below B w w' := ⟨h.os, h.tape, h.output, h.size, fun k hk => h.block k (by omega) (by omega)⟩

/-- What the walks want of package-level variables. -/
structure Env (w : World) : Prop where
  maxLen : ∃ m, w.cell? ⟨3, 0, none⟩ = some (.int .i64 m)
theorem Env.keep {w w' : World} (h : Env w) (hk : ∀ k, k < w.heap.size → k < 8 → w'.heap[k]? = w.heap[k]?) : Env w' := by
  obtain ⟨m, hm⟩ := h.maxLen
  refine ⟨⟨m, ?_⟩⟩
  rw [← hm]
  exact World.cell?_of_block (w := w) (hk _ (World.block_lt_of_cell? _ _ hm) (by decide))
theorem Env.below {w w' : World} (h : Env w) (hb : Below w.heap.size w w') : Env w' := h.keep fun k hk _ => hb.block k hk
theorem Env.kx {b : Nat} {w w' : World} (h : Env w) (hk : KX b w w') (hb : 8 ≤ b) : Env w' := h.keep fun k hk' h8 => hk.block k hk' (by omega)

theorem ite_bytes (s : ByteArray) : (⟨s.data.toList.toArray⟩ : ByteArray) = s := by cases s; simp

/-- An item's box. -/
def ItB (W : World) (b : Nat) (t a be : ByteArray) (cut : Bool) (ends : Value) (kind lo hi st : Int) : Prop :=
  W.heap[b]? = some (.cells #[.string t, .string a, .string be, .bool cut, ends, .int .i64 kind, .int .i64 lo, .int .i64 hi, .int .i64 st] 110 (0, 0))
/-- Its nine cells, that may be written. -/
def ItC (W : World) (b : Nat) (t a be : ByteArray) (cut : Bool) (ends : Value) (kind lo hi st : Int) : Prop :=
  (W.cell? ⟨b, 0, none⟩ = some (.string t) ∧ W.cell? ⟨b, 1, none⟩ = some (.string a) ∧ W.cell? ⟨b, 2, none⟩ = some (.string be) ∧ W.cell? ⟨b, 3, none⟩ = some (.bool cut) ∧ W.cell? ⟨b, 4, none⟩ = some ends
  ∧ W.cell? ⟨b, 5, none⟩ = some (.int .i64 kind) ∧ W.cell? ⟨b, 6, none⟩ = some (.int .i64 lo) ∧ W.cell? ⟨b, 7, none⟩ = some (.int .i64 hi) ∧ W.cell? ⟨b, 8, none⟩ = some (.int .i64 st))
  ∧ (W.frozen? ⟨b, 0, none⟩ = false ∧ W.frozen? ⟨b, 1, none⟩ = false ∧ W.frozen? ⟨b, 2, none⟩ = false ∧ W.frozen? ⟨b, 3, none⟩ = false ∧ W.frozen? ⟨b, 4, none⟩ = false ∧ W.frozen? ⟨b, 5, none⟩ = false
  ∧ W.frozen? ⟨b, 6, none⟩ = false ∧ W.frozen? ⟨b, 7, none⟩ = false ∧ W.frozen? ⟨b, 8, none⟩ = false)
theorem ItB.cells {W : World} {b : Nat} {t a be : ByteArray} {cut : Bool} {ends : Value} {kind lo hi st : Int} (h : ItB W b t a be cut ends kind lo hi st) : ItC W b t a be cut ends kind lo hi st := by
  have hc := fun i => blk_cell h i
  have hf := fun i => blk_frozen h i
  exact ⟨⟨hc 0, hc 1, hc 2, hc 3, hc 4, hc 5, hc 6, hc 7, hc 8⟩, hf 0, hf 1, hf 2, hf 3, hf 4, hf 5, hf 6, hf 7, hf 8⟩

set_option maxRecDepth 100000 in
set_option maxHeartbeats 2000000 in
theorem split_ok (b n : Nat) (row : Array Value) (t a be : ByteArray) (cut : Bool) (kind : Int) (W : World) (hE : Env W) (h8 : 8 ≤ b) (hI : ItB W b t ⟨#[]⟩ ⟨#[]⟩ false (.slice none 0 0) kind 0 0 0) (hs : t.size < 4294967281)
    (hcut : Lib.cut t.data.toList [47] = (a.data.toList, be.data.toList, cut)) (ha : a.size < 4294967281) (hbe : be.size < 4294967281) (hno : Lib.contains be.data.toList [47] = false)
    (hnn : Lib.countB a ⟨#[45]⟩ + 1 = n) (hrow : ((Lib.splitB ⟨#[45]⟩ 0 (Lib.countB a ⟨#[45]⟩) a).map Value.string).toArray = row)
    (hn : n ≤ 2) (hform : cut = true → a.toList ≠ [42] → n = 2) :
    Calls Tryz.prog 73 #[.pointer (some ⟨b, 0, none⟩)] W fun e w' => e = .returned .nilIface ∧ ∃ g, W.heap.size ≤ g ∧ KX b W w'
      ∧ ItB w' b t a be cut (.slice (some ⟨g, 0, none⟩) n n) kind 0 0 0
      ∧ w'.heap[g]? = some (.cells row 9 (0, 0)) := by
  have hlt := blk_lt hI
  obtain ⟨m, hm⟩ := hE.maxLen
  have hE0 := Lib.hid hE
  have hI0 := Lib.hid hI
  have hm0 := Lib.hid hm
  obtain ⟨⟨c0, c1, c2, c3, c4, c5, c6, c7, c8⟩, f0, f1, f2, f3, f4, f5, f6, f7, f8⟩ := hI.cells
  have hc := fun w => fun k => Lib.hid (Tryz.strings_Cut t ⟨#[47]⟩ m w hs k)
  simp only [hcut, ite_bytes] at hc
  have hnn0 := Lib.hid hnn
  have hrow0 := Lib.hid hrow
  clear hI hm hcut hnn hrow
  go_enter Tryz.func73, Tryz.ntmps73
  go_wp2_with fail
  refine (hc _ hm0.out).out.mono ?_
  rintro e w1 ⟨rfl, q, rfl⟩
  go_wp2_with fail
  generalize hW : (((W.drewN q).setCell ⟨b, 1, none⟩ (.string a)).setCell ⟨b, 2, none⟩ (.string be)).setCell ⟨b, 3, none⟩ (.bool cut) = W2
  have hK2 : KX b W W2 := by
    subst hW
    exact (((KX.of ((Below.refl W.heap.size W).drewN q)).trans (KX.set _ 1 _)).trans (KX.set _ 2 _)).trans (KX.set _ 3 _)
  have hI2 : ItB W2 b t a be cut (.slice none 0 0) kind 0 0 0 := by
    subst hW
    exact blk_put (blk_put (blk_put (blk_drewN hI0.out q) 1 _ rfl) 2 _ rfl) 3 _ rfl
  have hE2 := hE0.out.kx hK2 h8
  clear hW c0 c1 c2 c3 c4 c5 c6 c7 c8 f0 f1 f2 f3 f4 f5 f6 f7 f8
  obtain ⟨m2, hm2⟩ := hE2.maxLen
  have hsp := Tryz.strings_Split a ⟨#[45]⟩ m2 W2 ha hm2 (by decide)
  rw [hnn0.out, hrow0.out] at hsp
  refine hsp.mono ?_
  clear hsp
  rintro e w1 ⟨rfl, rfl⟩
  have hI3 : ItB (W2.alloc (.cells row 9)) b t a be cut (.slice none 0 0) kind 0 0 0 := blk_alloc hI2 _
  have hg3 : (W2.alloc (.cells row 9)).heap[W2.heap.size]? = some (.cells row 9 (0, 0)) := blk_new _ _
  have hK3 : KX b W (W2.alloc (.cells row 9)) := hK2.trans (KX.alloc _ _)
  have hbne : W2.heap.size ≠ b := by have := hK2.size; omega
  have hle := hK2.size
  generalize W2.alloc (.cells row 9) = W3 at *
  obtain ⟨⟨c0, c1, c2, c3, c4, c5, c6, c7, c8⟩, f0, f1, f2, f3, f4, f5, f6, f7, f8⟩ := hI3.cells
  go_wp2_with fail
  generalize hW : W3.setCell ⟨b, 4, none⟩ (.slice (some ⟨W2.heap.size, 0, none⟩) n n) = W4
  have hK4 : KX b W W4 := by subst hW; exact hK3.trans (KX.set _ 4 _)
  have hI4 : ItB W4 b t a be cut (.slice (some ⟨W2.heap.size, 0, none⟩) n n) kind 0 0 0 := by subst hW; exact blk_put hI3 4 _ rfl
  have hg4 : W4.heap[W2.heap.size]? = some (.cells row 9 (0, 0)) := by subst hW; exact blk_far hg3 hbne _
  have hE4 := hE0.out.kx hK4 h8
  clear hW c0 c1 c2 c3 c4 c5 c6 c7 c8 f0 f1 f2 f3 f4 f5 f6 f7 f8 hm2
  obtain ⟨m4, hm4⟩ := hE4.maxLen
  have hct := Tryz.strings_Contains be ⟨#[47]⟩ m4 W4 hbe hm4
  rw [hno] at hct
  refine hct.mono ?_
  clear hct hno hm4
  rintro e w1 ⟨rfl, rfl⟩
  obtain ⟨⟨c0, c1, c2, c3, c4, c5, c6, c7, c8⟩, f0, f1, f2, f3, f4, f5, f6, f7, f8⟩ := hI4.cells
  have hn2 : (n : Int) ≤ 2 := by omega
  have hI4 := Lib.hid hI4
  have hg4 := Lib.hid hg4
  cases cut
  · go_wp2
    go_ret
    exact ⟨rfl, W2.heap.size, hle, hK4, hI4.out, hg4.out⟩
  · by_cases hst : a.toList = [42]
    · have hst' : (a.toList == [42]) = true := by simpa using hst
      have hst2 : (a.toList != [42]) = false := by simp [hst]
      clear hst hform
      go_wp2
      go_ret
      exact ⟨rfl, W2.heap.size, hle, hK4, hI4.out, hg4.out⟩
    · have hn3 : (2 : Int) ≤ (n : Int) := by have := hform rfl hst; omega
      have hst' : (a.toList == [42]) = false := by simpa using hst
      have hst2 : (a.toList != [42]) = true := by simpa using hst
      clear hst hform
      go_wp2
      go_ret
      exact ⟨rfl, W2.heap.size, hle, hK4, hI4.out, hg4.out⟩

end Go.Proofs.YtkdejfedigiohaaGreatDoor

/- An item of a field's text: its ends' values, and its step. -/
namespace Go.Proofs.YtkdejfedigiohaaGreatDoor
open Go.RowKit Go.Proofs.YtkdejfedigiohaaGreatDoorW.PrintWords Go.Proofs.YtkdejfedigiohaaGreatDoorW.PrintLast Go.Proofs.YtkdejfedigiohaaGreatDoorW.PrintMore
set_option linter.unusedVariables false
set_option linter.unusedSimpArgs false


theorem blk_new2 (w w0 : World) (o : Obj) (h : w.heap.size = w0.heap.size) : (w.alloc o).heap[w0.heap.size]? = some o := h ▸ blk_new w o
theorem wrong_ok (w : World) : Calls Tryz.prog 108 #[.int .i64 0] w fun e w' => e = .returned .nilIface ∧ w = w' := by
  go_enter Tryz.func108, Tryz.ntmps108
  go_wp2
  go_ret
  exact ⟨rfl, rfl⟩
/-- s is a value of a kind. -/
def ValIs (s : ByteArray) (kind v : Int) : Prop :=
  ∀ w : World, Calls Tryz.prog 109 #[.string s, .int .i64 kind] w fun e w' => e = .returned (.tuple #[.int .i64 v, .int .i64 0]) ∧ Below w.heap.size w w'

set_option maxRecDepth 100000 in
set_option maxHeartbeats 2000000 in
theorem values_star (b g n : Nat) (t a be : ByteArray) (cut : Bool) (kind : Int) (W : World) (h0 : 0 ≤ kind) (h1 : kind ≤ 4)
    (hI : ItB W b t a be cut (.slice (some ⟨g, 0, none⟩) n n) kind 0 0 0) (hst : a.toList = [42]) :
    Calls Tryz.prog 74 #[.pointer (some ⟨b, 0, none⟩)] W fun e w' => e = .returned .nilIface ∧ KX b W w'
      ∧ ItB w' b t a be cut (.slice (some ⟨g, 0, none⟩) n n) kind (lexLo kind) (lexHi kind) 0 := by
  have hI0 := Lib.hid hI
  obtain ⟨⟨c0, c1, c2, c3, c4, c5, c6, c7, c8⟩, f0, f1, f2, f3, f4, f5, f6, f7, f8⟩ := hI.cells
  have hst' : (a.toList == [42]) = true := by simpa using hst
  clear hI hst
  go_enter Tryz.func74, Tryz.ntmps74
  go_wp2_with fail
  refine (limits_q kind _ h0 h1).mono ?_
  rintro e w1 ⟨rfl, rfl⟩
  go_wp2
  go_ret
  exact ⟨rfl, (KX.set _ 6 _).trans (KX.set _ 7 _), blk_put (blk_put hI0.out 6 _ rfl) 7 _ rfl⟩

set_option maxRecDepth 100000 in
set_option maxHeartbeats 2000000 in
theorem values_one (b g : Nat) (t a be e0 : ByteArray) (cut : Bool) (kind v : Int) (W : World) (h0 : 0 ≤ kind) (h1 : kind ≤ 4)
    (hI : ItB W b t a be cut (.slice (some ⟨g, 0, none⟩) 1 1) kind 0 0 0) (hg : W.heap[g]? = some (.cells #[.string e0] 9 (0, 0))) (hgb : g ≠ b) (hst : a.toList ≠ [42]) (hv : ValIs e0 kind v) :
    Calls Tryz.prog 74 #[.pointer (some ⟨b, 0, none⟩)] W fun e w' => e = .returned .nilIface ∧ KX b W w'
      ∧ ItB w' b t a be cut (.slice (some ⟨g, 0, none⟩) 1 1) kind v v 0 := by
  have hI0 := Lib.hid hI
  have hlb := blk_lt hI
  have hlg := blk_lt hg
  have hg0 := Lib.hid hg
  obtain ⟨⟨c0, c1, c2, c3, c4, c5, c6, c7, c8⟩, f0, f1, f2, f3, f4, f5, f6, f7, f8⟩ := hI.cells
  have d0 : W.cell? ⟨g, 0, none⟩ = some (.string e0) := blk_cell hg 0
  have hst' : (a.toList == [42]) = false := by simpa using hst
  have hv := Lib.hid hv
  clear hI hst hg
  go_enter Tryz.func74, Tryz.ntmps74
  go_wp2_with fail
  refine (limits_q kind _ h0 h1).mono ?_
  rintro e w1 ⟨rfl, rfl⟩
  go_wp2
  refine wp_loop_rounds 2 ?_
  rw [rounds_succ]
  go_wp2_with fail
  generalize hW : ((W.setCell ⟨b, 6, none⟩ (.int .i64 (lexLo kind))).setCell ⟨b, 7, none⟩ (.int .i64 (lexHi kind))).alloc (.cells #[.int .i64 0, .int .i64 0] 135) = W2
  have hK2 : KX b W W2 := by subst hW; exact ((KX.set _ 6 _).trans (KX.set _ 7 _)).trans (KX.alloc _ _)
  have hI2 : ItB W2 b t a be cut (.slice (some ⟨g, 0, none⟩) 1 1) kind (lexLo kind) (lexHi kind) 0 := by subst hW; exact blk_alloc (blk_put (blk_put hI0.out 6 _ rfl) 7 _ rfl) _
  have hB2 : W2.heap[W.heap.size]? = some (.cells #[.int .i64 0, .int .i64 0] 135 (0, 0)) := by subst hW; exact blk_new2 _ W _ (by simp [World.setCell])
  clear hW c0 c1 c2 c3 c4 c5 c6 c7 c8 f0 f1 f2 f3 f4 f5 f6 f7 f8 d0
  refine (hv.out _).mono ?_
  rintro e w1 ⟨rfl, hb3⟩
  have hK3 := hK2.trans (KX.of hb3)
  have hI3 : ItB w1 b t a be cut (.slice (some ⟨g, 0, none⟩) 1 1) kind (lexLo kind) (lexHi kind) 0 := blk_below hI2 hb3
  have hB3 := blk_below hB2 hb3
  have hlt3 : W.heap.size < w1.heap.size := blk_lt hB3
  clear hI2 hB2 hb3
  obtain ⟨⟨c0, c1, c2, c3, c4, c5, c6, c7, c8⟩, f0, f1, f2, f3, f4, f5, f6, f7, f8⟩ := hI3.cells
  have b0 : w1.cell? ⟨W.heap.size, 0, none⟩ = some (.int .i64 0) := blk_cell hB3 0
  have b1 : w1.cell? ⟨W.heap.size, 1, none⟩ = some (.int .i64 0) := blk_cell hB3 1
  have g0 := blk_frozen hB3 0
  have g1 := blk_frozen hB3 1
  have hI3 := Lib.hid hI3
  have hB3 := Lib.hid hB3
  go_wp2
  rw [rounds_succ]
  go_wp2
  generalize hW : (w1.setCell ⟨W.heap.size, 0, none⟩ (.int .i64 v)).setCell ⟨W.heap.size, 1, none⟩ (.int .i64 v) = W4
  have hne : b ≠ W.heap.size := by omega
  have hK4 : ∀ k, k < W.heap.size → k ≠ b → W4.heap[k]? = W.heap[k]? := fun k h1 h2 => by
    subst hW
    rw [Below.heap_setCell _ _ _ _ (by show k ≠ W.heap.size; omega), Below.heap_setCell _ _ _ _ (by show k ≠ W.heap.size; omega)]
    exact hK3.block k h1 h2
  have hX4 : KX b W W4 := ⟨by subst hW; exact hK3.os, by subst hW; exact hK3.tape, by subst hW; exact hK3.output, by subst hW; simp only [World.setCell, Array.size_modify]; exact hK3.size, hK4⟩
  have hI4 : ItB W4 b t a be cut (.slice (some ⟨g, 0, none⟩) 1 1) kind (lexLo kind) (lexHi kind) 0 := by subst hW; exact blk_far (blk_far hI3.out hne _) hne _
  have hB4 : W4.heap[W.heap.size]? = some (.cells #[.int .i64 v, .int .i64 v] 135 (0, 0)) := by subst hW; exact blk_put (blk_put hB3.out 0 _ rfl) 1 _ rfl
  clear hW c0 c1 c2 c3 c4 c5 c6 c7 c8 f0 f1 f2 f3 f4 f5 f6 f7 f8 b0 b1 g0 g1 hK4
  obtain ⟨⟨c0, c1, c2, c3, c4, c5, c6, c7, c8⟩, f0, f1, f2, f3, f4, f5, f6, f7, f8⟩ := hI4.cells
  have b0 : W4.cell? ⟨W.heap.size, 0, none⟩ = some (.int .i64 v) := blk_cell hB4 0
  have b1 : W4.cell? ⟨W.heap.size, 1, none⟩ = some (.int .i64 v) := blk_cell hB4 1
  have hI4 := Lib.hid hI4
  have hB4 := Lib.hid hB4
  go_region
  go_wp2
  generalize hW : ((W4.setCell ⟨b, 6, none⟩ (.int .i64 v)).setCell ⟨b, 7, none⟩ (.int .i64 v)).drew = W5
  have hX5 : KX b W W5 := by subst hW; exact ((hX4.trans (KX.set _ 6 _)).trans (KX.set _ 7 _)).trans (KX.of (Below.refl _ _).drew)
  have hI5 : ItB W5 b t a be cut (.slice (some ⟨g, 0, none⟩) 1 1) kind v v 0 := by subst hW; exact blk_drew (blk_put (blk_put hI4.out 6 _ rfl) 7 _ rfl)
  clear hW c0 c1 c2 c3 c4 c5 c6 c7 c8 f0 f1 f2 f3 f4 f5 f6 f7 f8 b0 b1
  obtain ⟨⟨c0, c1, c2, c3, c4, c5, c6, c7, c8⟩, f0, f1, f2, f3, f4, f5, f6, f7, f8⟩ := hI5.cells
  have hI5 := Lib.hid hI5
  go_quiet (fail)
  go_wp2
  go_ret
  exact ⟨rfl, hX5.trans (KX.of ((Below.refl _ _).drewN _)), blk_drewN hI5.out _⟩

set_option maxRecDepth 100000 in
set_option maxHeartbeats 2000000 in
theorem step_plain (b : Nat) (t a be : ByteArray) (ends : Value) (kind lo hi : Int) (W : World) (hI : ItB W b t a be false ends kind lo hi 0) :
    Calls Tryz.prog 75 #[.pointer (some ⟨b, 0, none⟩)] W fun e w' => e = .returned .nilIface ∧ KX b W w' ∧ ItB w' b t a be false ends kind lo hi 1 := by
  have hI0 := Lib.hid hI
  obtain ⟨⟨c0, c1, c2, c3, c4, c5, c6, c7, c8⟩, f0, f1, f2, f3, f4, f5, f6, f7, f8⟩ := hI.cells
  clear hI
  go_enter Tryz.func75, Tryz.ntmps75
  go_wp2
  go_ret
  exact ⟨rfl, KX.set _ 8 _, blk_put hI0.out 8 _ rfl⟩

set_option maxRecDepth 100000 in
set_option maxHeartbeats 2000000 in
theorem step_cut (b : Nat) (t a be : ByteArray) (ends : Value) (kind lo hi n : Int) (W : World) (hI : ItB W b t a be true ends kind lo hi 0) (hn : numL be.data.toList = (n, 0)) (hn0 : n ≠ 0) :
    Calls Tryz.prog 75 #[.pointer (some ⟨b, 0, none⟩)] W fun e w' => e = .returned .nilIface ∧ KX b W w' ∧ ItB w' b t a be true ends kind lo hi n := by
  have hI0 := Lib.hid hI
  have hlb := blk_lt hI
  obtain ⟨⟨c0, c1, c2, c3, c4, c5, c6, c7, c8⟩, f0, f1, f2, f3, f4, f5, f6, f7, f8⟩ := hI.cells
  have hnum := number_any be
  rw [hn] at hnum
  have hnum := fun w => Lib.hid (hnum w)
  have hb0 : (n == 0) = false := by simpa using hn0
  clear hI hn hn0
  go_enter Tryz.func75, Tryz.ntmps75
  go_wp2_with fail
  generalize hW : W.setCell ⟨b, 8, none⟩ (.int .i64 1) = W2
  have hK2 : KX b W W2 := by subst hW; exact KX.set _ 8 _
  have hI2 : ItB W2 b t a be true ends kind lo hi 1 := by subst hW; exact blk_put hI0.out 8 _ rfl
  clear hW c0 c1 c2 c3 c4 c5 c6 c7 c8 f0 f1 f2 f3 f4 f5 f6 f7 f8
  refine (hnum _).out.mono ?_
  rintro e w1 ⟨rfl, hb⟩
  have hK3 := hK2.trans (KX.of hb)
  have hI3 : ItB w1 b t a be true ends kind lo hi 1 := blk_below hI2 hb
  clear hb hI2
  obtain ⟨⟨c0, c1, c2, c3, c4, c5, c6, c7, c8⟩, f0, f1, f2, f3, f4, f5, f6, f7, f8⟩ := hI3.cells
  have hI3 := Lib.hid hI3
  have hw := wrong_ok
  go_wp2_with fail
  generalize hW : w1.setCell ⟨b, 8, none⟩ (.int .i64 n) = W4
  have hK4 : KX b W W4 := by subst hW; exact hK3.trans (KX.set _ 8 _)
  have hI4 : ItB W4 b t a be true ends kind lo hi n := by subst hW; exact blk_put hI3.out 8 _ rfl
  clear hW c0 c1 c2 c3 c4 c5 c6 c7 c8 f0 f1 f2 f3 f4 f5 f6 f7 f8
  refine (hw _).mono ?_
  rintro e w1 ⟨rfl, rfl⟩
  have hI4 := Lib.hid hI4
  go_wp2
  go_ret
  exact ⟨rfl, hK4, hI4.out⟩

end Go.Proofs.YtkdejfedigiohaaGreatDoor

/- (*item).values at an item of two ends. -/
namespace Go.Proofs.YtkdejfedigiohaaGreatDoor
open Go.RowKit Go.Proofs.YtkdejfedigiohaaGreatDoorW.PrintWords Go.Proofs.YtkdejfedigiohaaGreatDoorW.PrintLast Go.Proofs.YtkdejfedigiohaaGreatDoorW.PrintMore
set_option linter.unusedVariables false
set_option linter.unusedSimpArgs false


set_option maxRecDepth 100000 in
set_option maxHeartbeats 2000000 in
theorem values_two (b g : Nat) (t a be e0 e1 : ByteArray) (cut : Bool) (kind v v2 : Int) (W : World) (h0 : 0 ≤ kind) (h1 : kind ≤ 4)
    (hI : ItB W b t a be cut (.slice (some ⟨g, 0, none⟩) 2 2) kind 0 0 0) (hg : W.heap[g]? = some (.cells #[.string e0, .string e1] 9 (0, 0))) (hgb : g ≠ b) (hst : a.toList ≠ [42]) (hv : ValIs e0 kind v) (hv2 : ValIs e1 kind v2) (hord : v ≤ v2) :
    Calls Tryz.prog 74 #[.pointer (some ⟨b, 0, none⟩)] W fun e w' => e = .returned .nilIface ∧ KX b W w'
      ∧ ItB w' b t a be cut (.slice (some ⟨g, 0, none⟩) 2 2) kind v v2 0 := by
  have hI0 := Lib.hid hI
  have hlb := blk_lt hI
  have hlg := blk_lt hg
  have hg0 := Lib.hid hg
  obtain ⟨⟨c0, c1, c2, c3, c4, c5, c6, c7, c8⟩, f0, f1, f2, f3, f4, f5, f6, f7, f8⟩ := hI.cells
  have d0 : W.cell? ⟨g, 0, none⟩ = some (.string e0) := blk_cell hg 0
  have hst' : (a.toList == [42]) = false := by simpa using hst
  have hv := Lib.hid hv
  have hv2 := Lib.hid hv2
  clear hI hst hg
  go_enter Tryz.func74, Tryz.ntmps74
  go_wp2_with fail
  refine (limits_q kind _ h0 h1).mono ?_
  rintro e w1 ⟨rfl, rfl⟩
  go_wp2
  refine wp_loop_rounds 3 ?_
  rw [rounds_succ]
  go_wp2_with fail
  generalize hW : ((W.setCell ⟨b, 6, none⟩ (.int .i64 (lexLo kind))).setCell ⟨b, 7, none⟩ (.int .i64 (lexHi kind))).alloc (.cells #[.int .i64 0, .int .i64 0] 135) = W2
  have hK2 : KX b W W2 := by subst hW; exact ((KX.set _ 6 _).trans (KX.set _ 7 _)).trans (KX.alloc _ _)
  have hI2 : ItB W2 b t a be cut (.slice (some ⟨g, 0, none⟩) 2 2) kind (lexLo kind) (lexHi kind) 0 := by subst hW; exact blk_alloc (blk_put (blk_put hI0.out 6 _ rfl) 7 _ rfl) _
  have hB2 : W2.heap[W.heap.size]? = some (.cells #[.int .i64 0, .int .i64 0] 135 (0, 0)) := by subst hW; exact blk_new2 _ W _ (by simp [World.setCell])
  clear hW c0 c1 c2 c3 c4 c5 c6 c7 c8 f0 f1 f2 f3 f4 f5 f6 f7 f8 d0
  refine (hv.out _).mono ?_
  rintro e w1 ⟨rfl, hb3⟩
  have hK3 := hK2.trans (KX.of hb3)
  have hI3 : ItB w1 b t a be cut (.slice (some ⟨g, 0, none⟩) 2 2) kind (lexLo kind) (lexHi kind) 0 := blk_below hI2 hb3
  have hB3 := blk_below hB2 hb3
  have hlt3 : W.heap.size < w1.heap.size := blk_lt hB3
  clear hI2 hB2 hb3
  obtain ⟨⟨c0, c1, c2, c3, c4, c5, c6, c7, c8⟩, f0, f1, f2, f3, f4, f5, f6, f7, f8⟩ := hI3.cells
  have b0 : w1.cell? ⟨W.heap.size, 0, none⟩ = some (.int .i64 0) := blk_cell hB3 0
  have b1 : w1.cell? ⟨W.heap.size, 1, none⟩ = some (.int .i64 0) := blk_cell hB3 1
  have g0 := blk_frozen hB3 0
  have g1 := blk_frozen hB3 1
  have hI3 := Lib.hid hI3
  have hB3 := Lib.hid hB3
  go_wp2
  rw [rounds_succ]
  have hne : b ≠ W.heap.size := by omega
  have hng : g ≠ W.heap.size := by omega
  have d1 : ((w1.setCell ⟨W.heap.size, 0, none⟩ (.int .i64 v)).setCell ⟨W.heap.size, 1, none⟩ (.int .i64 v)).cell? ⟨g, 1, none⟩ = some (.string e1) :=
    blk_cell (blk_far (blk_far (hK3.blk hg0.out hgb) hng _) hng _) 1
  generalize hW : (w1.setCell ⟨W.heap.size, 0, none⟩ (.int .i64 v)).setCell ⟨W.heap.size, 1, none⟩ (.int .i64 v) = W4 at d1 ⊢
  have hK4 : ∀ k, k < W.heap.size → k ≠ b → W4.heap[k]? = W.heap[k]? := fun k h1 h2 => by
    subst hW
    rw [Below.heap_setCell _ _ _ _ (by show k ≠ W.heap.size; omega), Below.heap_setCell _ _ _ _ (by show k ≠ W.heap.size; omega)]
    exact hK3.block k h1 h2
  have hX4 : KX b W W4 := ⟨by subst hW; exact hK3.os, by subst hW; exact hK3.tape, by subst hW; exact hK3.output, by subst hW; simp only [World.setCell, Array.size_modify]; exact hK3.size, hK4⟩
  have hI4 : ItB W4 b t a be cut (.slice (some ⟨g, 0, none⟩) 2 2) kind (lexLo kind) (lexHi kind) 0 := by subst hW; exact blk_far (blk_far hI3.out hne _) hne _
  have hB4 : W4.heap[W.heap.size]? = some (.cells #[.int .i64 v, .int .i64 v] 135 (0, 0)) := by subst hW; exact blk_put (blk_put hB3.out 0 _ rfl) 1 _ rfl
  clear hW c0 c1 c2 c3 c4 c5 c6 c7 c8 f0 f1 f2 f3 f4 f5 f6 f7 f8 b0 b1 g0 g1 hK4 hK3 hI3 hB3
  obtain ⟨⟨c0, c1, c2, c3, c4, c5, c6, c7, c8⟩, f0, f1, f2, f3, f4, f5, f6, f7, f8⟩ := hI4.cells
  go_wp2_with fail
  refine (hv2.out _).mono ?_
  rintro e w5 ⟨rfl, hb5⟩
  have hX5 := hX4.trans (KX.of hb5)
  have hI5 : ItB w5 b t a be cut (.slice (some ⟨g, 0, none⟩) 2 2) kind (lexLo kind) (lexHi kind) 0 := blk_below hI4 hb5
  have hB5 := blk_below hB4 hb5
  have hlt5 : W.heap.size < w5.heap.size := blk_lt hB5
  clear hI4 hB4 hb5 hX4 c0 c1 c2 c3 c4 c5 c6 c7 c8 f0 f1 f2 f3 f4 f5 f6 f7 f8 d1
  obtain ⟨⟨c0, c1, c2, c3, c4, c5, c6, c7, c8⟩, f0, f1, f2, f3, f4, f5, f6, f7, f8⟩ := hI5.cells
  have b0 : w5.cell? ⟨W.heap.size, 0, none⟩ = some (.int .i64 v) := blk_cell hB5 0
  have b1 : w5.cell? ⟨W.heap.size, 1, none⟩ = some (.int .i64 v) := blk_cell hB5 1
  have g0 := blk_frozen hB5 0
  have g1 := blk_frozen hB5 1
  have hI5 := Lib.hid hI5
  have hB5 := Lib.hid hB5
  go_wp2
  rw [rounds_succ]
  go_wp2
  generalize hW : (w5.setCell ⟨W.heap.size, 1, none⟩ (.int .i64 v2)).setCell ⟨W.heap.size, 1, none⟩ (.int .i64 v2) = W6
  have hK6 : ∀ k, k < W.heap.size → k ≠ b → W6.heap[k]? = W.heap[k]? := fun k h1 h2 => by
    subst hW
    rw [Below.heap_setCell _ _ _ _ (by show k ≠ W.heap.size; omega), Below.heap_setCell _ _ _ _ (by show k ≠ W.heap.size; omega)]
    exact hX5.block k h1 h2
  have hX6 : KX b W W6 := ⟨by subst hW; exact hX5.os, by subst hW; exact hX5.tape, by subst hW; exact hX5.output, by subst hW; simp only [World.setCell, Array.size_modify]; exact hX5.size, hK6⟩
  have hI6 : ItB W6 b t a be cut (.slice (some ⟨g, 0, none⟩) 2 2) kind (lexLo kind) (lexHi kind) 0 := by subst hW; exact blk_far (blk_far hI5.out hne _) hne _
  have hB6 : W6.heap[W.heap.size]? = some (.cells #[.int .i64 v, .int .i64 v2] 135 (0, 0)) := by subst hW; exact blk_put (blk_put hB5.out 1 _ rfl) 1 _ rfl
  clear hW c0 c1 c2 c3 c4 c5 c6 c7 c8 f0 f1 f2 f3 f4 f5 f6 f7 f8 b0 b1 g0 g1 hK6 hX5 hI5 hB5
  obtain ⟨⟨c0, c1, c2, c3, c4, c5, c6, c7, c8⟩, f0, f1, f2, f3, f4, f5, f6, f7, f8⟩ := hI6.cells
  have b0 : W6.cell? ⟨W.heap.size, 0, none⟩ = some (.int .i64 v) := blk_cell hB6 0
  have b1 : W6.cell? ⟨W.heap.size, 1, none⟩ = some (.int .i64 v2) := blk_cell hB6 1
  have hI6 := Lib.hid hI6
  have hB6 := Lib.hid hB6
  go_region
  go_wp2
  generalize hW : ((W6.setCell ⟨b, 6, none⟩ (.int .i64 v)).setCell ⟨b, 7, none⟩ (.int .i64 v2)).drew = W7
  have hX7 : KX b W W7 := by subst hW; exact ((hX6.trans (KX.set _ 6 _)).trans (KX.set _ 7 _)).trans (KX.of (Below.refl _ _).drew)
  have hI7 : ItB W7 b t a be cut (.slice (some ⟨g, 0, none⟩) 2 2) kind v v2 0 := by subst hW; exact blk_drew (blk_put (blk_put hI6.out 6 _ rfl) 7 _ rfl)
  clear hW c0 c1 c2 c3 c4 c5 c6 c7 c8 f0 f1 f2 f3 f4 f5 f6 f7 f8 b0 b1
  obtain ⟨⟨c0, c1, c2, c3, c4, c5, c6, c7, c8⟩, f0, f1, f2, f3, f4, f5, f6, f7, f8⟩ := hI7.cells
  have hI7 := Lib.hid hI7
  have hnl : ¬ v2 < v := by omega
  go_quiet (fail)
  go_wp2
  go_ret
  exact ⟨rfl, hX7.trans (KX.of ((Below.refl _ _).drewN _)), blk_drewN hI7.out _⟩

end Go.Proofs.YtkdejfedigiohaaGreatDoor

/- The values of an item, one by one: the iterator's contract. -/
namespace Go.Proofs.YtkdejfedigiohaaGreatDoor
open Go.RowKit Go.Proofs.YtkdejfedigiohaaGreatDoorW.PrintWords Go.Proofs.YtkdejfedigiohaaGreatDoorW.PrintLast Go.Proofs.YtkdejfedigiohaaGreatDoorW.PrintMore
set_option linter.unusedVariables false
set_option linter.unusedSimpArgs false

attribute [local go_sem] Oper.semAt_some

def dayOf (kind v : Int) : Int := if kind = 4 then v % 7 else v
/-- The values from v on, at most k of them. -/
def valsF (kind hi st : Int) : Nat → Int → List Int
  | 0, _ => []
  | k + 1, v => if v ≤ hi then dayOf kind v :: valsF kind hi st k (v + st) else []
def valsI (kind lo hi st : Int) : List Int := valsF kind hi st 64 lo

def KpI (bi bp : Nat) (W W' : World) : Prop := W'.heap[bi]? = W.heap[bi]? ∧ W'.heap[bp]? = W.heap[bp]?
theorem kpI_t {bi bp : Nat} {A B C : World} (h : KpI bi bp A B) (k : KpI bi bp B C) : KpI bi bp A C := ⟨k.1.trans h.1, k.2.trans h.2⟩

theorem each_q (b : Nat) (W : World) :
    Calls Tryz.prog 77 #[.pointer (some ⟨b, 0, none⟩)] W fun e w' => e = .returned (.func (.func 112) #[] #[.pointer (some ⟨W.heap.size, 0, none⟩)])
      ∧ w' = W.alloc (.cells #[.pointer (some ⟨b, 0, none⟩)] 108) := by
  go_enter Tryz.func77, Tryz.ntmps77
  go_wp2
  go_ret
  exact ⟨rfl, rfl⟩

set_option maxRecDepth 100000 in
set_option maxHeartbeats 2000000 in
theorem each1_in (n : Nat) (hn : 1 ≤ n) (l bi bp : Nat) (t a be : ByteArray) (cut : Bool) (ends : Value) (kind lo hi st : Int) (h0 : 0 ≤ lo) (hh : hi ≤ 59) (hs : 1 ≤ st) (hs2 : st ≤ 9999) (J Jx : List Int → World → Prop)
    (hY : ∀ pre x W, J pre W → pre.length < (valsI kind lo hi st).length → YieldAt Fence.wide (n - 1) Tryz.prog l #[.int .i64 x] W fun e W' =>
      (e = .returned (.bool true) ∧ J (pre ++ [x]) W' ∧ KpI bi bp W W') ∨ (e = .returned (.bool false) ∧ Jx (pre ++ [x]) W'))
    (W : World) (hI : ItB W bi t a be cut ends kind lo hi st) (hP : W.heap[bp]? = some (.cells #[.pointer (some ⟨bi, 0, none⟩)] 108 (0, 0))) (hJ0 : J [] W) :
    CallsIn Fence.wide n Tryz.prog 112 #[.func (.yield l) #[] #[], .pointer (some ⟨bp, 0, none⟩)] W fun e W' => (∃ v, e = .returned v) ∧
      ((∃ ys, ys = valsI kind lo hi st ∧ J ys W') ∨ (∃ pre, pre <+: valsI kind lo hi st ∧ Jx pre W')) := by
  refine callsIn_of_wp Tryz.func112 rfl trivial ?_ rfl
  simp only [Tryz.ntmps112, List.size_toArray, List.length_cons, List.length_nil, Nat.reduceAdd, Nat.reduceSub, Array.replicate_succ, Array.replicate_zero, List.push_toArray, List.append_toArray, List.nil_append, List.cons_append]
  obtain ⟨⟨c0, c1, c2, c3, c4, c5, c6, c7, c8⟩, f0, f1, f2, f3, f4, f5, f6, f7, f8⟩ := hI.cells
  have p0 : W.cell? ⟨bp, 0, none⟩ = some (.pointer (some ⟨bi, 0, none⟩)) := blk_cell hP 0
  have hI0 := Lib.hid hI
  have hP0 := Lib.hid hP
  clear hI hP
  gi_wp2
  gi_loopw [3] (fun p wr => ∃ (pre : List Int) (k : Nat) (v : Int), p = .int .i64 v ∧ 0 ≤ v ∧ hi + 1 - v ≤ k ∧ Hid (valsI kind lo hi st = pre ++ valsF kind hi st k v) ∧ J pre wr ∧ Hid (ItB wr bi t a be cut ends kind lo hi st)
      ∧ Hid (wr.heap[bp]? = some (.cells #[.pointer (some ⟨bi, 0, none⟩)] 108 (0, 0)))) (fun p _ => (hi + 1 - intOf p).toNat)
  case atStart => exact ⟨[], 64, lo, rfl, h0, by omega, rfl, hJ0, hI0, hP0⟩
  case round =>
    obtain ⟨pre, k, v, rfl, hv0, hk, hE, hJ, hIr, hPr⟩ := hrel
    obtain ⟨⟨c0, c1, c2, c3, c4, c5, c6, c7, c8⟩, f0, f1, f2, f3, f4, f5, f6, f7, f8⟩ := ItB.cells hIr.out
    have p0 : wr.cell? ⟨bp, 0, none⟩ = some (.pointer (some ⟨bi, 0, none⟩)) := blk_cell hPr.out 0
    by_cases hle : v ≤ hi
    · obtain ⟨k, rfl⟩ : ∃ j, k = j + 1 := ⟨k - 1, by omega⟩
      have e1 : valsF kind hi st (k + 1) v = dayOf kind v :: valsF kind hi st k (v + st) := by simp only [valsF]; rw [if_pos hle]
      have hEo := hE.out
      rw [e1] at hEo
      have hlen := Lib.hid (show pre.length < (valsI kind lo hi st).length by rw [hEo]; simp)
      by_cases h4 : kind = 4
      · have ed : dayOf kind v = v % 7 := by unfold dayOf; rw [if_pos h4]
        rw [ed] at hEo
        have hE2 := Lib.hid (show valsI kind lo hi st = (pre ++ [v % 7]) ++ valsF kind hi st k (v + st) by rw [hEo]; simp)
        have hpf := Lib.hid (show (pre ++ [v % 7]) <+: valsI kind lo hi st from ⟨_, hE2.out.symm⟩)
        have h4b : (kind == 4) = true := by simpa using h4
        clear e1 hEo hE ed h4
        obtain ⟨fn, tmps, assign, body, hy, hR⟩ := hY pre (v % 7) wr hJ hlen.out
        gi_wp2
        refine hR.mono ?_
        rintro e W3 (⟨rfl, hJ3, hk3⟩ | ⟨rfl, hJx3⟩)
        · have hI3 : ItB W3 bi t a be cut ends kind lo hi st := hk3.1.trans hIr.out
          have hP3 := hk3.2.trans hPr.out
          have p3 : W3.cell? ⟨bp, 0, none⟩ = some (.pointer (some ⟨bi, 0, none⟩)) := blk_cell hP3 0
          have c8' : W3.cell? ⟨bi, 8, none⟩ = some (.int .i64 st) := blk_cell hI3 8
          have hI3 := Lib.hid hI3
          have hP3 := Lib.hid hP3
          clear hk3
          gi_wp2
          go_roundw
          case rel => exact ⟨pre ++ [v % 7], k, v + st, rfl, by omega, by omega, hE2, hJ3, hI3, hP3⟩
          case measure => simp [intOf]; omega
        · gi_wp2
          refine bodyPost_ret (results_none rfl _ _ _) rfl ?_
          exact ⟨⟨_, rfl⟩, .inr ⟨pre ++ [v % 7], hpf.out, hJx3⟩⟩
      · have ed : dayOf kind v = v := by unfold dayOf; rw [if_neg h4]
        rw [ed] at hEo
        have hE2 := Lib.hid (show valsI kind lo hi st = (pre ++ [v]) ++ valsF kind hi st k (v + st) by rw [hEo]; simp)
        have hpf := Lib.hid (show (pre ++ [v]) <+: valsI kind lo hi st from ⟨_, hE2.out.symm⟩)
        have h4b : (kind == 4) = false := by simpa using h4
        clear e1 hEo hE ed h4
        obtain ⟨fn, tmps, assign, body, hy, hR⟩ := hY pre (v) wr hJ hlen.out
        gi_wp2
        refine hR.mono ?_
        rintro e W3 (⟨rfl, hJ3, hk3⟩ | ⟨rfl, hJx3⟩)
        · have hI3 : ItB W3 bi t a be cut ends kind lo hi st := hk3.1.trans hIr.out
          have hP3 := hk3.2.trans hPr.out
          have p3 : W3.cell? ⟨bp, 0, none⟩ = some (.pointer (some ⟨bi, 0, none⟩)) := blk_cell hP3 0
          have c8' : W3.cell? ⟨bi, 8, none⟩ = some (.int .i64 st) := blk_cell hI3 8
          have hI3 := Lib.hid hI3
          have hP3 := Lib.hid hP3
          clear hk3
          gi_wp2
          go_roundw
          case rel => exact ⟨pre ++ [v], k, v + st, rfl, by omega, by omega, hE2, hJ3, hI3, hP3⟩
          case measure => simp [intOf]; omega
        · gi_wp2
          refine bodyPost_ret (results_none rfl _ _ _) rfl ?_
          exact ⟨⟨_, rfl⟩, .inr ⟨pre ++ [v], hpf.out, hJx3⟩⟩
    · have hEo := Lib.hid (show valsI kind lo hi st = pre by
        rw [hE.out]
        cases k with
        | zero => simp [valsF]
        | succ k => simp only [valsF]; rw [if_neg hle, List.append_nil])
      clear hE
      gi_wp2
      go_end0
      exact ⟨⟨_, rfl⟩, .inl (by rw [hEo.out]; first | exact hJ | exact ⟨pre, rfl, hJ⟩)⟩


theorem each1_stops (n : Nat) (hn : 1 ≤ n) (bi bp : Nat) (t a be : ByteArray) (cut : Bool) (ends : Value) (kind lo hi st : Int) (h0 : 0 ≤ lo) (hh : hi ≤ 59) (hs : 1 ≤ st) (hs2 : st ≤ 9999)
    (w : World) (hI : ItB w bi t a be cut ends kind lo hi st) (hP : w.heap[bp]? = some (.cells #[.pointer (some ⟨bi, 0, none⟩)] 108 (0, 0))) :
    SeqStopsK Fence.wide n Tryz.prog 112 #[.pointer (some ⟨bp, 0, none⟩)] (fun x : Int => #[.int .i64 x]) (KpI bi bp) (fun xs => xs = valsI kind lo hi st) (fun pre => pre <+: valsI kind lo hi st) (valsI kind lo hi st).length w :=
  fun l J Jx W hW _ _ hY hJ0 => each1_in n hn l bi bp t a be cut ends kind lo hi st h0 hh hs hs2 J Jx hY W (blk_below hI hW) (blk_below hP hW) hJ0

end Go.Proofs.YtkdejfedigiohaaGreatDoor

/- field.Parse at a text all of whose items are in order. -/
namespace Go.Proofs.YtkdejfedigiohaaGreatDoor
open Go.RowKit Go.Proofs.YtkdejfedigiohaaGreatDoorW.PrintWords Go.Proofs.YtkdejfedigiohaaGreatDoorW.PrintLast Go.Proofs.YtkdejfedigiohaaGreatDoorW.PrintMore
set_option linter.unusedVariables false
set_option linter.unusedSimpArgs false

attribute [local go_sem] Oper.semAt_some

/-- What an item's ends come to. -/
def ValsOk (kind : Int) (a : ByteArray) (n : Nat) (row : Array Value) (lo hi : Int) : Prop :=
  (a.toList = [42] ∧ lo = lexLo kind ∧ hi = lexHi kind) ∨ (a.toList ≠ [42] ∧ n = 1 ∧ hi = lo ∧ ∃ e0, row = #[.string e0] ∧ ValIs e0 kind lo)
  ∨ (a.toList ≠ [42] ∧ n = 2 ∧ lo ≤ hi ∧ ∃ e0 e1, row = #[.string e0, .string e1] ∧ ValIs e0 kind lo ∧ ValIs e1 kind hi)
def StepOk (be : ByteArray) (cut : Bool) (st : Int) : Prop := (cut = false ∧ st = 1) ∨ (cut = true ∧ numL be.data.toList = (st, 0) ∧ st ≠ 0)
/-- An item in order: it comes to the values from lo to hi, each st-th. -/
structure ItemOk (kind : Int) (t : ByteArray) (lo hi st : Int) : Prop where
  k0 : 0 ≤ kind
  k1 : kind ≤ 4
  lo0 : 0 ≤ lo
  hi1 : hi ≤ 59
  st0 : 1 ≤ st
  st1 : st ≤ 9999
  size : t.size < 4294967281
  ex : ∃ (a be : ByteArray) (cut : Bool) (n : Nat) (row : Array Value), Lib.cut t.data.toList [47] = (a.data.toList, be.data.toList, cut) ∧ a.size < 4294967281 ∧ be.size < 4294967281
    ∧ Lib.contains be.data.toList [47] = false ∧ Lib.countB a ⟨#[45]⟩ + 1 = n ∧ ((Lib.splitB ⟨#[45]⟩ 0 (Lib.countB a ⟨#[45]⟩) a).map Value.string).toArray = row ∧ n ≤ 2 ∧ (cut = true → a.toList ≠ [42] → n = 2)
    ∧ ValsOk kind a n row lo hi ∧ StepOk be cut st

def S0 (kind : Int) (t : ByteArray) (W : World) (b : Nat) : Prop := ItB W b t ⟨#[]⟩ ⟨#[]⟩ false (.slice none 0 0) kind 0 0 0
def S1 (kind : Int) (t : ByteArray) (lo hi st : Int) (W : World) (b : Nat) : Prop :=
  ∃ (a be : ByteArray) (cut : Bool) (g n : Nat) (row : Array Value), ItB W b t a be cut (.slice (some ⟨g, 0, none⟩) n n) kind 0 0 0 ∧ W.heap[g]? = some (.cells row 9 (0, 0)) ∧ g ≠ b ∧ ValsOk kind a n row lo hi ∧ StepOk be cut st
def S2 (kind : Int) (t : ByteArray) (lo hi st : Int) (W : World) (b : Nat) : Prop :=
  ∃ (a be : ByteArray) (cut : Bool) (ends : Value), ItB W b t a be cut ends kind lo hi 0 ∧ StepOk be cut st
def S3 (kind : Int) (t : ByteArray) (lo hi st : Int) (W : World) (b : Nat) : Prop :=
  ∃ (a be : ByteArray) (cut : Bool) (ends : Value), ItB W b t a be cut ends kind lo hi st

theorem read_split {kind : Int} {t : ByteArray} {lo hi st : Int} (h : ItemOk kind t lo hi st) (b : Nat) (W : World) (hE : Env W) (h8 : 8 ≤ b) (hS : S0 kind t W b) :
    Calls Tryz.prog 73 #[.pointer (some ⟨b, 0, none⟩)] W fun e w' => e = .returned .nilIface ∧ KX b W w' ∧ S1 kind t lo hi st w' b := by
  obtain ⟨a, be, cut, n, row, h1, h2, h3, h4, h5, h6, h7, h9, h10, h11⟩ := h.ex
  refine (split_ok b n row t a be cut kind W hE h8 hS h.size h1 h2 h3 h4 h5 h6 h7 h9).mono ?_
  rintro e w' ⟨rfl, g, hg, hK, hI, hr⟩
  exact ⟨rfl, hK, a, be, cut, g, n, row, hI, hr, by have := blk_lt (show W.heap[b]? = _ from hS); omega, h10, h11⟩

theorem read_values {kind : Int} {t : ByteArray} {lo hi st : Int} (h : ItemOk kind t lo hi st) (b : Nat) (W : World) (hS : S1 kind t lo hi st W b) :
    Calls Tryz.prog 74 #[.pointer (some ⟨b, 0, none⟩)] W fun e w' => e = .returned .nilIface ∧ KX b W w' ∧ S2 kind t lo hi st w' b := by
  obtain ⟨a, be, cut, g, n, row, hI, hr, hgb, hv, hst⟩ := hS
  rcases hv with ⟨h1, rfl, rfl⟩ | ⟨h1, rfl, rfl, e0, rfl, hv⟩ | ⟨h1, rfl, hord, e0, e1, rfl, hv, hv2⟩
  · refine (values_star b g n t a be cut kind W h.k0 h.k1 hI h1).mono ?_
    rintro e w' ⟨rfl, hK, hI'⟩
    exact ⟨rfl, hK, a, be, cut, _, hI', hst⟩
  · refine (values_one b g t a be e0 cut kind _ W h.k0 h.k1 hI hr hgb h1 hv).mono ?_
    rintro e w' ⟨rfl, hK, hI'⟩
    exact ⟨rfl, hK, a, be, cut, _, hI', hst⟩
  · refine (values_two b g t a be e0 e1 cut kind _ _ W h.k0 h.k1 hI hr hgb h1 hv hv2 hord).mono ?_
    rintro e w' ⟨rfl, hK, hI'⟩
    exact ⟨rfl, hK, a, be, cut, _, hI', hst⟩

theorem read_step {kind : Int} {t : ByteArray} {lo hi st : Int} (b : Nat) (W : World) (hS : S2 kind t lo hi st W b) :
    Calls Tryz.prog 75 #[.pointer (some ⟨b, 0, none⟩)] W fun e w' => e = .returned .nilIface ∧ KX b W w' ∧ S3 kind t lo hi st w' b := by
  obtain ⟨a, be, cut, ends, hI, hst⟩ := hS
  rcases hst with ⟨rfl, rfl⟩ | ⟨rfl, h1, h2⟩
  · refine (step_plain b t a be ends kind lo hi W hI).mono ?_
    rintro e w' ⟨rfl, hK, hI'⟩
    exact ⟨rfl, hK, a, be, _, _, hI'⟩
  · refine (step_cut b t a be ends kind lo hi st W hI h1 h2).mono ?_
    rintro e w' ⟨rfl, hK, hI'⟩
    exact ⟨rfl, hK, a, be, _, _, hI'⟩

theorem eg_sp (args : Array Value) (w : World) : (callFunc 73 args).run Tryz.prog w = .ok (.enter 73 args) w := by kernel_rfl
theorem eg_va (args : Array Value) (w : World) : (callFunc 74 args).run Tryz.prog w = .ok (.enter 74 args) w := by kernel_rfl
theorem eg_st (args : Array Value) (w : World) : (callFunc 75 args).run Tryz.prog w = .ok (.enter 75 args) w := by kernel_rfl
theorem eg_ea1 (args : Array Value) (w : World) : (callFunc 112 args).run Tryz.prog w = .ok (.enter 112 args) w := by kernel_rfl

theorem blk_new2' (w : World) (o : Obj) (k : Nat) (h : w.heap.size = k) : (w.alloc o).heap[k]? = some o := h ▸ blk_new w o
theorem flimits_q (kind : Int) (w : World) (h0 : 0 ≤ kind) (h1 : kind ≤ 4) :
    Calls Tryz.prog 70 #[.int .i64 kind] w fun e w' => e = .returned (.tuple #[.int .i64 (lexLo kind), .int .i64 (hiI kind), .int .i64 0]) ∧ w = w' := by
  by_cases h4 : kind = 4
  · subst h4
    go_enter Tryz.func70, Tryz.ntmps70
    go_wp2_with (go_at_call 104; refine (limits_q 4 _ (by decide) (by decide)).mono ?_; rintro e w' ⟨rfl, rfl⟩)
    go_ret3
    exact ⟨rfl, rfl⟩
  · have hb : (kind == 4) = false := by simpa using h4
    rw [show hiI kind = lexHi kind by unfold hiI lexHi; repeat' split <;> omega]
    go_enter Tryz.func70, Tryz.ntmps70
    go_wp2_with (go_at_call 104; refine (limits_q kind _ h0 h1).mono ?_; rintro e w' ⟨rfl, rfl⟩)
    go_ret3
    exact ⟨rfl, rfl⟩

/-- The bits of values. -/
def orB (b x : Int) : Int := bits .or .u64 b (IntKind.u64.wrap (2 ^ min (IntKind.u64.wrap x).toNat 64))
def bitsV (b : Int) (l : List Int) : Int := l.foldl orB b
abbrev It := ByteArray × Int × Int × Int
def bitsI (kind : Int) (b : Int) (L : List It) : Int := L.foldl (fun b x => bitsV b (valsI kind x.2.1 x.2.2.1 x.2.2.2)) b

/-- The marks that loops over functions leave: each an empty list of deferred calls. -/
def Marks (B : Nat) (ds : List Deferred) (W : World) : Prop := ds.Nodup ∧ ∀ d ∈ ds, ∃ r, d = { target := .collected r, args := #[] } ∧ B ≤ r ∧ W.heap[r]? = some (.deferred (some []))
theorem Marks.nil (B : Nat) (W : World) : Marks B [] W := ⟨List.nodup_nil, fun d h => by cases h⟩
theorem Marks.kx {B : Nat} {ds : List Deferred} {W W' : World} (h : Marks B ds W) (hk : ∀ r : Nat, W.heap[r]? = some (Obj.deferred (some [])) → W'.heap[r]? = some (Obj.deferred (some []))) : Marks B ds W' :=
  ⟨h.1, fun d hd => let ⟨r, e, hr, hw⟩ := h.2 d hd; ⟨r, e, hr, hk r hw⟩⟩
theorem Marks.cons {B D : Nat} {ds : List Deferred} {V W : World} (h : Marks B ds V) (hk : ∀ r : Nat, V.heap[r]? = some (Obj.deferred (some [])) → W.heap[r]? = some (Obj.deferred (some []))) (hB : B ≤ V.heap.size) (hD : V.heap.size ≤ D)
    (hW : W.heap[D]? = some (.deferred (some []))) : Marks B ({ target := .collected D, args := #[] } :: ds) W := by
  refine ⟨List.nodup_cons.2 ⟨fun hd => ?_, h.1⟩, fun d hd => ?_⟩
  · obtain ⟨r, e, _, hr⟩ := h.2 _ hd
    have := blk_lt hr
    injection e with e1 _
    injection e1 with e2
    omega
  · rcases List.mem_cons.1 hd with rfl | hd
    · exact ⟨D, rfl, by omega, hW⟩
    · exact (h.kx hk).2 d hd
theorem leaves_parse (w : World) (bs : Int) (star : Bool) (tmps : Array Value) (t4 : tmps[4]?.getD undef = .pointer (some ⟨w.heap.size, 0, none⟩)) (t5 : tmps[5]?.getD undef = .int .i64 0) : ∀ (ds : List Deferred) (W : World),
    Marks w.heap.size ds W → Below w.heap.size w W → W.heap[w.heap.size]? = some (.cells #[.int .u64 bs, .bool star] 24 (0, 0)) →
    LeavesInM Fence.wide 9 Tryz.prog Tryz.f33 tmps (fun e w' => e = .returned (.tuple #[.agg #[.int .u64 bs, .bool star], .int .i64 0]) ∧ Below w.heap.size w w') ds .returning W
  | [], W, _, hB, hR => by
    have c0 : W.cell? ⟨w.heap.size, 0, none⟩ = some (.int .u64 bs) := blk_cell hR 0
    have c1 : W.cell? ⟨w.heap.size, 1, none⟩ = some (.bool star) := blk_cell hR 1
    exact ⟨_, (by simp [results, Tryz.results33, go_sem, t4, t5, c0, c1]), rfl, hB⟩
  | d :: ds, W, hM, hB, hR => by
    obtain ⟨r, rfl, hr, hw⟩ := hM.2 d (by simp)
    have hne : r ≠ w.heap.size := by rintro rfl; rw [hw] at hR; cases hR
    refine ⟨by simp, .inl ⟨r, _, rfl, run_takeDeferred hw, leaves_parse w bs star tmps t4 t5 ds _ ⟨(List.nodup_cons.1 hM.1).2, fun d hd => ?_⟩ (hB.trans (belowK_b (w := w) (Nat.le_refl _) W r _ _ hr hw rfl rfl)) ((World.putObj_heap_other (Ne.symm hne)).trans hR)⟩⟩
    obtain ⟨r', rfl, hr', hw'⟩ := hM.2 d (by simp [hd])
    refine ⟨r', rfl, hr', (World.putObj_heap_other ?_).trans hw'⟩
    rintro rfl
    exact (List.nodup_cons.1 hM.1).1 hd

/-- What a round of the outer loop keeps, while the item's box bi is written. -/
structure InP (w : World) (sb bi : Nat) (star : Bool) (bs : Int) (row : Array Value) (ds : List Deferred) (V : World) : Prop where
  below : Below w.heap.size w V
  r : V.heap[w.heap.size]? = some (.cells #[.int .u64 0, .bool false] 24 (0, 0))
  f : V.heap[w.heap.size + 1]? = some (.cells #[.int .u64 bs, .bool star] 24 (0, 0))
  s : V.heap[sb]? = some (.cells row 9 (0, 0))
  m : Marks w.heap.size ds V
  c : ∃ cs t, V.heap[bi]? = some (.cells cs t (0, 0))
  fn : V.heap[bi + 1]? = some (.cells #[.func (.func 73) #[.pointer (some ⟨bi, 0, none⟩)] #[], .func (.func 74) #[.pointer (some ⟨bi, 0, none⟩)] #[], .func (.func 75) #[.pointer (some ⟨bi, 0, none⟩)] #[]] 111 (0, 0))
  env : Env V
  lo : w.heap.size + 1 < bi
  so : sb < bi
  g8 : 8 ≤ bi
theorem InP.kx {w : World} {sb bi : Nat} {star : Bool} {bs : Int} {row : Array Value} {ds : List Deferred} {V V1 : World} (h : InP w sb bi star bs row ds V) (hk : KX bi V V1)
    (hc : ∃ cs t, V1.heap[bi]? = some (.cells cs t (0, 0))) : InP w sb bi star bs row ds V1 where
  below := h.below.trans (hk.below (Nat.le_of_lt (Nat.lt_of_succ_lt h.lo)) h.below.size)
  r := hk.blk h.r (by have := h.lo; omega)
  f := hk.blk h.f (by have := h.lo; omega)
  s := hk.blk h.s (by have := h.so; omega)
  m := h.m.kx fun r hr => hk.blk hr (by rintro rfl; obtain ⟨cs, t, hc⟩ := h.c; rw [hc] at hr; cases hr)
  c := hc
  fn := hk.blk h.fn (by omega)
  env := h.env.kx hk h.g8
  lo := h.lo
  so := h.so
  g8 := h.g8

/-- What a round of the loop over the item's values keeps. -/
structure RngI (w V : World) (sb : Nat) (star : Bool) (bs : Int) (row : Array Value) (pre : List Int) (W : World) : Prop where
  below : Below w.heap.size w W
  size : V.heap.size ≤ W.heap.size
  r : W.heap[w.heap.size]? = some (.cells #[.int .u64 0, .bool false] 24 (0, 0))
  f : W.heap[w.heap.size + 1]? = some (.cells #[.int .u64 (bitsV bs pre), .bool star] 24 (0, 0))
  s : W.heap[sb]? = some (.cells row 9 (0, 0))
  m : ∀ r : Nat, V.heap[r]? = some (Obj.deferred (some [])) → W.heap[r]? = some (Obj.deferred (some []))
theorem rngI_own {w V : World} {sb : Nat} {star : Bool} {bs : Int} {row : Array Value} (h1 : w.heap.size + 1 < V.heap.size) (h2 : sb < V.heap.size) : OwnFrom V.heap.size (fun pre W => RngI w V sb star bs row pre W) := by
  intro pre W W' r hI hg hr
  have hb : ∀ (k : Nat) (o : Obj), k < V.heap.size → W.heap[k]? = some o → W'.heap[k]? = some o := fun k o hk ho => by
    rw [hg.block k (Nat.lt_of_lt_of_le hk hI.size) (by intro e; have := (hr k e.symm).1; omega), ho]
  exact ⟨hI.below.grown hg (Nat.le_trans (by omega) hI.size) (fun k e => Nat.le_trans (by omega) (hr k e).1), Nat.le_trans hI.size hg.size, hb _ _ (by omega) hI.r, hb _ _ h1 hI.f, hb _ _ h2 hI.s, fun k hk => hb k _ (blk_lt hk) (hI.m k hk)⟩

set_option maxRecDepth 100000 in
set_option maxHeartbeats 2000000 in
theorem parse_ok (s : ByteArray) (kind : Int) (w : World) (star : Bool) (L : List It) (h0 : 0 ≤ kind) (h1 : kind ≤ 4) (hE : Env w) (h8 : 8 ≤ w.heap.size) (hs : s.size < 4294967281) (hstar : (s.toList == [42]) = star)
    (hL : Lib.splitB ⟨#[44]⟩ 0 (Lib.countB s ⟨#[44]⟩) s = L.map (·.1)) (hn : Lib.countB s ⟨#[44]⟩ + 1 = L.length) (hlen : L.length < 4294967296) (hI : ∀ x ∈ L, ItemOk kind x.1 x.2.1 x.2.2.1 x.2.2.2) :
    Calls Tryz.prog 33 #[.string s, .int .i64 kind] w fun e w' => e = .returned (.tuple #[.agg #[.int .u64 (bitsI kind 0 L), .bool star], .int .i64 0]) ∧ Below w.heap.size w w' := by
  have hL0 := Lib.hid hL
  have hn0 := Lib.hid hn
  have hI0 := Lib.hid hI
  clear hL hn hI
  refine callsIn_wide.1 (callsIn_of_wp_marks (n := 9) Tryz.func33 rfl trivial ?_ rfl)
  refine wpIn_wide.2 ?_
  simp only [Tryz.ntmps33, List.size_toArray, List.length_cons, List.length_nil, Nat.reduceAdd, Nat.reduceSub, Array.replicate_succ, Array.replicate_zero, List.push_toArray, List.append_toArray, List.nil_append, List.cons_append]
  go_wp2_with fail
  refine (flimits_q kind _ h0 h1).mono ?_
  rintro e w1 ⟨rfl, rfl⟩
  go_wp2_with fail
  generalize hW : (w.alloc (.cells #[.int .u64 0, .bool false] 24)).alloc (.cells #[.int .u64 0, .bool star] 24) = W1
  have hb1 : Below w.heap.size w W1 := by subst hW; exact ((Below.refl _ _).alloc (Nat.le_refl _) _).alloc (by simp) _
  have hR1 : W1.heap[w.heap.size]? = some (.cells #[.int .u64 0, .bool false] 24 (0, 0)) := by subst hW; exact blk_alloc (blk_new _ _) _
  have hF1 : W1.heap[w.heap.size + 1]? = some (.cells #[.int .u64 0, .bool star] 24 (0, 0)) := by subst hW; exact blk_new2' _ _ _ (by simp)
  have hE1 := hE.below hb1
  clear hW
  obtain ⟨m, hm⟩ := hE1.maxLen
  have hsp := Tryz.strings_Split s ⟨#[44]⟩ m W1 hs hm (by decide)
  rw [hL0.out, hn0.out, List.map_map] at hsp
  refine hsp.mono ?_
  clear hm hsp
  rintro e w1 ⟨rfl, rfl⟩
  generalize hW : W1.alloc (.cells (List.map (Value.string ∘ fun x : It => x.1) L).toArray 9) = W2
  have hb2 : Below w.heap.size w W2 := by subst hW; exact hb1.alloc hb1.size _
  have hR2 : W2.heap[w.heap.size]? = some (.cells #[.int .u64 0, .bool false] 24 (0, 0)) := by subst hW; exact blk_alloc hR1 _
  have hF2 : W2.heap[w.heap.size + 1]? = some (.cells #[.int .u64 0, .bool star] 24 (0, 0)) := by subst hW; exact blk_alloc hF1 _
  have hS2 : W2.heap[W1.heap.size]? = some (.cells (List.map (Value.string ∘ fun x : It => x.1) L).toArray 9 (0, 0)) := by subst hW; exact blk_new _ _
  have hE2 := hE.below hb2
  have hlt1 := blk_lt hF1
  clear hW hR1 hF1 hE1 hb1
  go_wp2_with fail
  refine wp_loop (fun a W => ∃ (k : Nat) (ds : List Deferred) (u11 u12 u14 u15 u16 u34 u35 u36 u37 u38 u39 u40 u41 u42 u43 u44 u45 u46 u47 u48 u49 u50 u51 u52 u53 u54 u55 u56 u57 u58 u59 u60 u61 u62 u63 u64 u65 u66 u67 u68 u69 u70 u71 : Value), a = { tmps := #[.string s, .int .i64 kind, undef, undef, .pointer (some ⟨w.heap.size, 0, none⟩), .int .i64 0, .int .i64 (lexLo kind), .int .i64 (hiI kind), .int .i64 0, .pointer (some ⟨w.heap.size + 1, 0, none⟩), undef, u11, u12, undef, u14, u15, u16, .tuple #[.int .i64 (lexLo kind), .int .i64 (hiI kind), .int .i64 0], .int .i64 kind, .tuple #[.int .i64 (lexLo kind), .int .i64 (hiI kind), .int .i64 0], .int .i64 (lexLo kind), .int .i64 (hiI kind), .int .i64 0, .int .i64 0, .bool false, undef, undef, .string s, .bool star, .agg #[.int .u64 0, .bool star], .string s, .slice (some ⟨W1.heap.size, 0, none⟩) L.length L.length, .int .i64 L.length, .int .i64 k, u34, u35, u36, u37, u38, u39, u40, u41, u42, u43, u44, u45, u46, u47, u48, u49, u50, u51, u52, u53, u54, u55, u56, u57, u58, u59, u60, u61, u62, u63, u64, u65, u66, u67, u68, u69, u70, u71, undef], defers := ds } ∧ k ≤ L.length ∧ Marks w.heap.size ds W ∧ Below w.heap.size w W
      ∧ W.heap[w.heap.size]? = some (.cells #[.int .u64 0, .bool false] 24 (0, 0)) ∧ W.heap[w.heap.size + 1]? = some (.cells #[.int .u64 (bitsI kind 0 (L.take k)), .bool star] 24 (0, 0))
      ∧ W.heap[W1.heap.size]? = some (.cells (List.map (Value.string ∘ fun x : It => x.1) L).toArray 9 (0, 0))) (fun a _ => L.length - (intOf (a.tmps.getD 33 undef)).toNat) ?_ ?_
  · exact ⟨0, [], undef, undef, undef, undef, undef, undef, undef, undef, undef, undef, undef, undef, undef, undef, undef, undef, undef, undef, undef, undef, undef, undef, undef, undef, undef, undef, undef, undef, undef, undef, undef, undef, undef, undef, undef, undef, undef, undef, undef, undef, undef, undef, undef, rfl, Nat.zero_le _, Marks.nil _ _, hb2, hR2, hF2, hS2⟩
  · rintro a W ⟨k, ds, u11, u12, u14, u15, u16, u34, u35, u36, u37, u38, u39, u40, u41, u42, u43, u44, u45, u46, u47, u48, u49, u50, u51, u52, u53, u54, u55, u56, u57, u58, u59, u60, u61, u62, u63, u64, u65, u66, u67, u68, u69, u70, u71, rfl, hk, hM, hB, hR, hF, hS⟩
    by_cases hlt : k < L.length
    · have hlt' : (k : Int) < (L.length : Int) := by omega
      obtain ⟨x, hx⟩ : ∃ x, L[k]? = some x := ⟨_, List.getElem?_eq_getElem hlt⟩
      have hcell : W.cell? ⟨W1.heap.size, k, none⟩ = some (.string x.1) := by rw [blk_cell hS]; simp [hx]
      have hItem := hI0.out x (List.mem_of_getElem? hx)
      go_wp2_with fail
      generalize hV : (W.alloc _).alloc _ = V
      have hP : InP w W1.heap.size W.heap.size star (bitsI kind 0 (L.take k)) (List.map (Value.string ∘ fun x : It => x.1) L).toArray ds V := by
        subst hV
        exact ⟨(hB.alloc hB.size _).alloc (by have := hB.size; simp; omega) _, blk_alloc (blk_alloc hR _) _, blk_alloc (blk_alloc hF _) _, blk_alloc (blk_alloc hS _) _, hM.kx fun r h => blk_alloc (blk_alloc h _) _,
          ⟨_, _, blk_alloc (blk_new _ _) _⟩, blk_new2' _ _ _ (by simp), hE.below ((hB.alloc hB.size _).alloc (by have := hB.size; simp; omega) _), blk_lt hF, blk_lt hS, by have := blk_lt hF; omega⟩
      have hS0 : S0 kind x.1 V W.heap.size := by
        subst hV
        exact blk_alloc (blk_new _ _) _
      clear hV hB hR hF hS hM hcell hE2
      generalize W.heap.size = bi at hP hS0 ⊢
      generalize hsb : W1.heap.size = sb at hP ⊢
      refine wp_loop_rounds 4 ?_
      rw [rounds_succ]
      have p0 : V.cell? ⟨bi + 1, 0, none⟩ = some (.func (.func 73) #[.pointer (some ⟨bi, 0, none⟩)] #[]) := blk_cell hP.fn 0
      go_wp2_with fail
      refine (read_split hItem bi V hP.env hP.g8 hS0).mono ?_
      clear hS0 p0
      rintro e V1 ⟨rfl, hK, hS1⟩
      have hP1 := hP.kx hK (by obtain ⟨_, _, _, _, _, _, h, _⟩ := hS1; exact ⟨_, _, h⟩)
      clear hK hP
      have p0 : V1.cell? ⟨bi + 1, 1, none⟩ = some (.func (.func 74) #[.pointer (some ⟨bi, 0, none⟩)] #[]) := blk_cell hP1.fn 1
      go_wp2_with fail
      rw [rounds_succ]
      go_wp2_with fail
      refine (read_values hItem bi V1 hS1).mono ?_
      clear hS1 p0
      rintro e V2 ⟨rfl, hK, hS2⟩
      have hP2 := hP1.kx hK (by obtain ⟨_, _, _, _, h, _⟩ := hS2; exact ⟨_, _, h⟩)
      clear hK hP1
      have p0 : V2.cell? ⟨bi + 1, 2, none⟩ = some (.func (.func 75) #[.pointer (some ⟨bi, 0, none⟩)] #[]) := blk_cell hP2.fn 2
      go_wp2_with fail
      rw [rounds_succ]
      go_wp2_with fail
      refine (read_step bi V2 hS2).mono ?_
      clear hS2 p0
      rintro e V3 ⟨rfl, hK, a, be, cut, ends, hIt⟩
      have hP3 := hP2.kx hK ⟨_, _, hIt⟩
      clear hK hP2
      go_wp2_with fail
      rw [rounds_succ]
      go_wp2_with fail
      refine (each_q bi V3).mono ?_
      rintro e V4 ⟨rfl, hV⟩
      have hP4 := hP3.kx (hV ▸ KX.alloc V3 _) ⟨_, _, hV ▸ blk_alloc hIt _⟩
      have hIt4 : ItB V4 bi x.1 a be cut ends kind x.2.1 x.2.2.1 x.2.2.2 := hV ▸ blk_alloc hIt _
      have hbp : V4.heap[V3.heap.size]? = some (.cells #[.pointer (some ⟨bi, 0, none⟩)] 108 (0, 0)) := hV ▸ blk_new _ _
      have hbb := blk_lt hIt
      clear hV hIt hP3
      generalize V3.heap.size = bp at *
      clear V3
      have hbl := blk_lt hbp
      go_wp2_with fail
      refine wpIn_wide.1 (wpIn_rangeFunc_ownF (F := Fence.wide) (n := 9) rfl (by decide) (gf := 112) (lb := #[.pointer (some ⟨bp, 0, none⟩)]) rfl trivial eg_ea1
        (each1_stops (9 - 1) (by decide) bi bp x.1 a be cut ends kind x.2.1 x.2.2.1 x.2.2.2 hItem.lo0 hItem.hi1 hItem.st0 hItem.st1 V4 hIt4 hbp) kpI_t
        (fun W l o o' hl _ _ _ => ⟨World.putObj_heap_other (by omega), World.putObj_heap_other (by omega)⟩) (Below.refl _ _) (fun _ => rfl)
        (fun pre W => RngI w V4 sb star (bitsI kind 0 (L.take k)) (List.map (Value.string ∘ fun x : It => x.1) L).toArray pre W) (fun _ _ _ => False) (rngI_own (blk_lt hP4.f) (blk_lt hP4.s)) (fun _ _ _ _ _ hs _ _ => hs)
        ⟨hP4.below, Nat.le_refl _, hP4.r, hP4.f, hP4.s, fun _ h => h⟩
        (fun v => { tmps := #[Value.string s, Value.int IntKind.i64 kind, undef, undef, Value.pointer (some { block := w.heap.size, off := 0 }), Value.int IntKind.i64 0, Value.int IntKind.i64 (lexLo kind), Value.int IntKind.i64 (hiI kind), Value.int IntKind.i64 0, Value.pointer (some { block := w.heap.size + 1, off := 0 }), undef, Value.string x.fst, Value.pointer (some { block := bi, off := 0 }), undef, Value.func (.func 75) #[Value.pointer (some { block := bi, off := 0 })] #[], Value.nilIface, .int .i64 v, Value.tuple #[Value.int IntKind.i64 (lexLo kind), Value.int IntKind.i64 (hiI kind), Value.int IntKind.i64 0], Value.int IntKind.i64 kind, Value.tuple #[Value.int IntKind.i64 (lexLo kind), Value.int IntKind.i64 (hiI kind), Value.int IntKind.i64 0], Value.int IntKind.i64 (lexLo kind), Value.int IntKind.i64 (hiI kind), Value.int IntKind.i64 0, Value.int IntKind.i64 0, Value.bool false, undef, undef, Value.string s, Value.bool star, Value.agg #[Value.int IntKind.u64 0, Value.bool star], Value.string s, Value.slice (some { block := sb, off := 0 }) L.length L.length, Value.int IntKind.i64 ↑L.length, Value.int IntKind.i64 ↑k, Value.bool true, Value.pointer (some { block := sb, off := k }), Value.string x.fst, Value.string x.fst, Value.int IntKind.i64 kind, Value.agg #[Value.string x.fst, Value.string { data := #[] }, Value.string { data := #[] }, Value.bool false, Value.slice none 0 0, Value.int IntKind.i64 kind, Value.int IntKind.i64 0, Value.int IntKind.i64 0, Value.int IntKind.i64 0], Value.pointer (some { block := bi, off := 0 }), Value.pointer (some { block := bi, off := 0 }), Value.func (.func 73) #[Value.pointer (some { block := bi, off := 0 })] #[], Value.pointer (some { block := bi, off := 0 }), Value.func (.func 74) #[Value.pointer (some { block := bi, off := 0 })] #[], Value.pointer (some { block := bi, off := 0 }), Value.func (.func 75) #[Value.pointer (some { block := bi, off := 0 })] #[], Value.slice (some { block := bi + 1, off := 0 }) 3 3, Value.int IntKind.i64 3, Value.int IntKind.i64 3, Value.bool false, Value.pointer (some { block := bi + 1, off := 2 }), Value.func (.func 75) #[Value.pointer (some { block := bi, off := 0 })] #[], Value.func (.func 75) #[Value.pointer (some { block := bi, off := 0 })] #[], Value.nilIface, Value.nilIface, Value.bool false, u57, u58, u59, Value.int IntKind.i64 3, Value.pointer (some { block := bi, off := 0 }), Value.func (.func 112) #[] #[Value.pointer (some { block := bp, off := 0 })], .int .i64 v, u64, u65, u66, u67, u68, u69, u70, u71, undef], defers := [] }) ?assign ?body ?done ?stop)
      case assign =>
        intro l v W K hK
        gi_wp2
        exact hK
      case body =>
        rintro l pre v W hI _
        have q0 : W.cell? ⟨w.heap.size + 1, 0, none⟩ = some (.int .u64 (bitsV (bitsI kind 0 (L.take k)) pre)) := blk_cell hI.f 0
        have q1 : W.frozen? ⟨w.heap.size + 1, 0, none⟩ = false := blk_frozen hI.f 0
        gi_wp2
        refine ⟨KeepsOthers.setCell _ _ _, ⟨Below.heap_setCell _ _ _ _ ?_, Below.heap_setCell _ _ _ _ ?_⟩, hI.below.setCell (p := ⟨w.heap.size + 1, 0, none⟩) (by simp) _, by have := hI.size; simp [World.setCell]; omega, blk_far hI.r (by simp) _, ?_, blk_far hI.s ?_ _, fun r hr => (Below.heap_setCell _ _ _ _ ?_).trans (hI.m r hr)⟩
        · have := hP4.lo; simp; omega
        · have := hP4.lo; simp; omega
        · rw [show bitsV (bitsI kind 0 (L.take k)) (pre ++ [v]) = orB (bitsV (bitsI kind 0 (L.take k)) pre) v by simp [bitsV]]
          exact blk_put hI.f 0 _ rfl
        · have := hP4.r
          simp only
          rintro rfl
          exact absurd hlt1 (by omega)
        · rintro rfl
          have := hI.m _ hr
          rw [hI.f] at this
          cases this
      case stop =>
        rintro D c pre W hD _ h _
        exact h.elim
      case done =>
        rintro D ys W hD rfl hI hK
        subst hsb
        go_wp2
        go_roundw
        case rel =>
          refine ⟨k + 1, _, _, _, _, _, _, _, _, _, _, _, _, _, _, _, _, _, _, _, _, _, _, _, _, _, _, _, _, _, _, _, _, _, _, _, _, _, _, _, _, _, _, _, _, rfl, by omega, hP4.m.cons hI.m (by have := hP4.below.size; omega) hD hK, hI.below, hI.r, ?_, hI.s⟩
          rw [show bitsI kind 0 (L.take (k + 1)) = bitsV (bitsI kind 0 (L.take k)) (valsI kind x.2.1 x.2.2.1 x.2.2.2) by rw [List.take_add_one, hx]; simp [bitsI]]
          exact hI.f
        case measure => simp [intOf]; omega
    · obtain rfl : k = L.length := by omega
      rw [List.take_length] at hF
      have hlt' : ¬ ((L.length : Int) < (L.length : Int)) := by omega
      have f0 : W.cell? ⟨w.heap.size + 1, 0, none⟩ = some (.int .u64 (bitsI kind 0 L)) := blk_cell hF 0
      have f1 : W.cell? ⟨w.heap.size + 1, 1, none⟩ = some (.bool star) := blk_cell hF 1
      have r0 : W.frozen? ⟨w.heap.size, 0, none⟩ = false := blk_frozen hR 0
      have r1 : W.frozen? ⟨w.heap.size, 1, none⟩ = false := blk_frozen hR 1
      have s0 : W.cell? ⟨w.heap.size, 0, none⟩ = some (.int .u64 0) := blk_cell hR 0
      have s1 : W.cell? ⟨w.heap.size, 1, none⟩ = some (.bool false) := blk_cell hR 1
      go_wp2
      refine leaves_parse w (bitsI kind 0 L) star _ rfl rfl ds _ (hM.kx fun r hr => ?_) ((hB.setCell (p := ⟨w.heap.size, 0, none⟩) (Nat.le_refl _) _).setCell (p := ⟨w.heap.size, 1, none⟩) (Nat.le_refl _) _) (blk_put (blk_put hR 0 _ rfl) 1 _ rfl)
      have hne : r ≠ w.heap.size := by rintro rfl; rw [hR] at hr; cases hr
      exact (Below.heap_setCell _ _ _ _ hne).trans ((Below.heap_setCell _ _ _ _ hne).trans hr)

end Go.Proofs.YtkdejfedigiohaaGreatDoor

/- lex.Fields: the words of a text all of whose signs are known. -/
namespace Go.Proofs.YtkdejfedigiohaaGreatDoor
open Go.RowKit Go.Proofs.YtkdejfedigiohaaGreatDoorW.PrintWords Go.Proofs.YtkdejfedigiohaaGreatDoorW.PrintLast Go.Proofs.YtkdejfedigiohaaGreatDoorW.PrintMore
set_option linter.unusedVariables false
set_option linter.unusedSimpArgs false


def blankI (c : Int) : Bool := c == 32 || c == 9
def knownI (c : Int) : Bool := blankI c || digI c || (decide (97 ≤ c) && decide (c ≤ 122)) || (decide (65 ≤ c) && decide (c ≤ 90)) || c == 42 || c == 44 || c == 45 || c == 47
theorem blank_q (c : Int) (w : World) :
    Calls Tryz.prog 114 #[.int .i32 c] w fun e w' => e = .returned (.bool (blankI c)) ∧ w = w' := by
  unfold blankI
  cases h : c == 32
  all_goals
    go_enter Tryz.func114, Tryz.ntmps114
    go_wp2
    go_ret
    exact ⟨ret_bool (by simp), rfl⟩
theorem known_q (c : Int) (w : World) :
    Calls Tryz.prog 113 #[.int .i32 c] w fun e w' => e = .returned (.bool (knownI c)) ∧ w = w' := by
  have hb := fun w => Lib.hid (blank_q c w)
  have hd := fun w => Lib.hid (digit_q c w)
  unfold knownI
  cases h1 : blankI c
  · rw [h1] at hb
    cases h2 : digI c
    · rw [h2] at hd
      cases h3 : decide (97 ≤ c) <;> cases h4 : decide (c ≤ 122) <;> cases h5 : decide (65 ≤ c) <;> cases h6 : decide (c ≤ 90) <;> (try (exfalso; simp at h3 h4 h5 h6; omega)) <;> cases h7 : c == 42 <;> cases h8 : c == 44 <;> cases h9 : c == 45 <;> cases h10 : c == 47 <;> (try (exfalso; simp at h3 h4 h5 h6 h7 h8 h9 h10; omega))
      all_goals
        go_enter Tryz.func113, Tryz.ntmps113
        go_wp2_with (first | (go_at_call 114; refine (hb _).out.mono ?_; rintro e w' ⟨rfl, rfl⟩) | (go_at_call 136; refine (hd _).out.mono ?_; rintro e w' ⟨rfl, rfl⟩))
        go_ret
        exact ⟨ret_bool (by simp), rfl⟩
    · rw [h2] at hd
      go_enter Tryz.func113, Tryz.ntmps113
      go_wp2_with (first | (go_at_call 114; refine (hb _).out.mono ?_; rintro e w' ⟨rfl, rfl⟩) | (go_at_call 136; refine (hd _).out.mono ?_; rintro e w' ⟨rfl, rfl⟩))
      go_ret
      exact ⟨ret_bool (by simp), rfl⟩
  · rw [h1] at hb
    go_enter Tryz.func113, Tryz.ntmps113
    go_wp2_with (go_at_call 114; refine (hb _).out.mono ?_; rintro e w' ⟨rfl, rfl⟩)
    go_ret
    exact ⟨ret_bool (by simp), rfl⟩

theorem eg_lf1 (args : Array Value) (w : World) : (callFunc 116 args).run Tryz.prog w = .ok (.enter 116 args) w := by kernel_rfl
theorem lf1_q (c : Int) (b : Nat) (W : World) (h : W.cell? ⟨b, 0, none⟩ = some (.func (.func 114) #[] #[])) :
    Calls Tryz.prog 116 #[.int .i32 c, .pointer (some ⟨b, 0, none⟩)] W fun e w' => e = .returned (.bool (blankI c)) ∧ W = w' := by
  go_enter Tryz.func116, Tryz.ntmps116
  go_wp2_with (go_at_call 114; refine (blank_q _ _).mono ?_; rintro e w' ⟨rfl, rfl⟩)
  go_ret
  exact ⟨rfl, rfl⟩

/-- The words of a text. -/
def wordsL (s : ByteArray) : List ByteArray := Lib.goFieldsP (fun x => blankI x) s

set_option maxRecDepth 100000 in
set_option maxHeartbeats 2000000 in
theorem words_ok (s : ByteArray) (w : World) (hs : s.size ≤ 256) (hk : ∀ i (h : i < s.size), s[i].toNat < 128 ∧ knownI (s[i].toNat : Int) = true) (h5 : (wordsL s).length = 5) :
    Calls Tryz.prog 78 #[.string s] w fun e w' => ∃ A, e = .returned (.tuple #[.slice (some ⟨A, 0, none⟩) 5 5, .int .i64 0]) ∧ (∀ j, j < 5 → w'.cell? ⟨A, j, none⟩ = ((wordsL s).map Value.string)[j]?) ∧ A < w'.heap.size ∧ Below w.heap.size w w' := by
  have hs' : (s.size : Int) ≤ 256 := by omega
  have hk := Lib.hid hk
  have h5 := Lib.hid h5
  go_enter Tryz.func78, Tryz.ntmps78
  go_wp2
  go_loopw [5] (fun v w' => ∃ (pos : Nat), w' = w.iter s pos ∧ pos ≤ s.size) (fun _ w' => s.size - w'.iterPos w.heap.size)
  case atStart => exact ⟨0, rfl, by omega⟩
  case round =>
    obtain ⟨pos, rfl, hps⟩ := hrel
    by_cases hp : pos < s.size
    · have hnx : ∀ ty, (Instr.next (.pointer (some ⟨w.heap.size, 0, none⟩)) true ty).run Tryz.prog (w.iter s pos) = _ := fun ty => run_next_any w s pos ty hp
      obtain ⟨ha, hkn⟩ := hk.out pos hp
      rw [decode_ascii s pos hp ha] at hnx
      have hq := known_q (s[pos].toNat : Int)
      rw [hkn] at hq
      have hq := fun w => Lib.hid (hq w)
      clear hkn
      go_wp2_with (go_at_call 113; refine (hq _).out.mono ?_; rintro e w' ⟨rfl, rfl⟩)
      go_roundw
      case rel => exact ⟨pos + 1, rfl, by omega⟩
      case measure => simp; omega
    · have hnx : ∀ ty, (Instr.next (.pointer (some ⟨w.heap.size, 0, none⟩)) true ty).run Tryz.prog (w.iter s pos) = _ := fun ty => run_next_end w s pos ty hp
      have hbW : Below w.heap.size w (w.iter s pos) := (Below.refl _ _).alloc (Nat.le_refl _) _
      have hlW : w.heap.size + 1 = (w.iter s pos).heap.size := by simp [World.iter]
      generalize hW : w.iter s pos = W1 at *
      clear hW
      go_wp2_with fail
      generalize hV : W1.alloc (.cells #[.func (.func 114) #[] #[]] 141) = V
      have hbV : Below w.heap.size w V := hV ▸ hbW.alloc hbW.size _
      have hc : V.cell? ⟨W1.heap.size, 0, none⟩ = some (.func (.func 114) #[] #[]) := by subst hV; go_simp
      have hlt : W1.heap.size < V.heap.size := by subst hV; simp
      clear hV
      have hF : Calls Tryz.prog 115 #[.string s, .func (.func 116) #[] #[.pointer (some ⟨W1.heap.size, 0, none⟩)]] V fun e w' => ∃ A, e = .returned (.slice (some ⟨A, 0, none⟩) 5 5)
          ∧ Hid (∀ j, j < 5 → w'.cell? ⟨A, j, none⟩ = ((wordsL s).map Value.string)[j]?) ∧ A < w'.heap.size ∧ Below V.heap.size V w' := by
        refine (Tryz.strings_FieldsFunc_grows 116 #[.pointer (some ⟨W1.heap.size, 0, none⟩)] eg_lf1 (fun x => blankI x) s V (by omega) ?_).mono ?_
        · intro W x _ hb
          refine (lf1_q x W1.heap.size W ?_).mono ?_
          · exact (hb.cell (p := ⟨W1.heap.size, 0, none⟩) hlt).trans hc
          · rintro e w' ⟨rfl, rfl⟩
            exact ⟨rfl, Below.refl _ _⟩
        · rintro e W2 ⟨A, rfl, hA, hrow, hb2⟩
          rw [show Lib.goFieldsP (fun x : Nat => blankI (x : Int)) s = wordsL s from rfl, h5.out] at hrow ⊢
          have hcl : ∀ j, j < 5 → W2.cell? ⟨A, j, none⟩ = ((wordsL s).map Value.string)[j]? := fun j hj => hrow.cellAt j (by omega)
          have hc0 : W2.cell? ⟨A, 0, none⟩ = some (.string ((wordsL s)[0]'(by rw [h5.out]; decide))) := by rw [hcl 0 (by decide)]; simp
          have hAl : A < W2.heap.size := World.block_lt_of_cell? _ _ hc0
          exact ⟨A, rfl, hcl, hAl, hb2⟩
      refine hF.mono ?_
      clear hF
      rintro e W2 ⟨A, rfl, hcl, hAl, hb2⟩
      go_wp2
      go_ret2
      exact ⟨A, rfl, hcl.out, hAl, hbV.trans (hb2.mono hbV.size)⟩

end Go.Proofs.YtkdejfedigiohaaGreatDoor

/- spec.Parse at a text whose five words are in order. -/
namespace Go.Proofs.YtkdejfedigiohaaGreatDoor
open Go.RowKit Go.Proofs.YtkdejfedigiohaaGreatDoorW.PrintWords Go.Proofs.YtkdejfedigiohaaGreatDoorW.PrintLast Go.Proofs.YtkdejfedigiohaaGreatDoorW.PrintMore
set_option linter.unusedVariables false
set_option linter.unusedSimpArgs false


/-- A field's text in order. -/
structure PF (t : ByteArray) (kind : Int) (star : Bool) (L : List It) : Prop where
  size : t.size < 4294967281
  star : (t.toList == [42]) = star
  split : Lib.splitB ⟨#[44]⟩ 0 (Lib.countB t ⟨#[44]⟩) t = L.map (·.1)
  n : Lib.countB t ⟨#[44]⟩ + 1 = L.length
  len : L.length < 4294967296
  items : ∀ x ∈ L, ItemOk kind x.1 x.2.1 x.2.2.1 x.2.2.2
theorem PF.ok {t : ByteArray} {kind : Int} {star : Bool} {L : List It} (h : PF t kind star L) (w : World) (h0 : 0 ≤ kind) (h1 : kind ≤ 4) (hE : Env w) (h8 : 8 ≤ w.heap.size) :
    Calls Tryz.prog 33 #[.string t, .int .i64 kind] w fun e w' => e = .returned (.tuple #[.agg #[.int .u64 (bitsI kind 0 L), .bool star], .int .i64 0]) ∧ Below w.heap.size w w' :=
  parse_ok t kind w star L h0 h1 hE h8 h.size h.star h.split h.n h.len h.items

def sp0 : Sp := ⟨⟨0, false⟩, ⟨0, false⟩, ⟨0, false⟩, ⟨0, false⟩, ⟨0, false⟩⟩
/-- A spec's block. -/
def SpB (W : World) (b : Nat) (x : Sp) : Prop := W.heap[b]? = some (.cells #[.int .u64 x.m.b, .bool x.m.s, .int .u64 x.h.b, .bool x.h.s, .int .u64 x.d.b, .bool x.d.s, .int .u64 x.n.b, .bool x.n.s, .int .u64 x.w.b, .bool x.w.s] 26 (0, 0))
theorem SpB.spIn {W : World} {b : Nat} {x : Sp} (h : SpB W b x) : SpIn W b x := ⟨blk_cell h 0, blk_cell h 1, blk_cell h 2, blk_cell h 3, blk_cell h 4, blk_cell h 5, blk_cell h 6, blk_cell h 7, blk_cell h 8, blk_cell h 9⟩
def SpFz (W : World) (b : Nat) : Prop := W.frozen? ⟨b, 0, none⟩ = false ∧ W.frozen? ⟨b, 1, none⟩ = false ∧ W.frozen? ⟨b, 2, none⟩ = false ∧ W.frozen? ⟨b, 3, none⟩ = false ∧ W.frozen? ⟨b, 4, none⟩ = false ∧ W.frozen? ⟨b, 5, none⟩ = false ∧ W.frozen? ⟨b, 6, none⟩ = false ∧ W.frozen? ⟨b, 7, none⟩ = false ∧ W.frozen? ⟨b, 8, none⟩ = false ∧ W.frozen? ⟨b, 9, none⟩ = false
theorem SpB.fz {W : World} {b : Nat} {x : Sp} (h : SpB W b x) : SpFz W b := ⟨blk_frozen h 0, blk_frozen h 1, blk_frozen h 2, blk_frozen h 3, blk_frozen h 4, blk_frozen h 5, blk_frozen h 6, blk_frozen h 7, blk_frozen h 8, blk_frozen h 9⟩
theorem SpB.put0 {W : World} {b : Nat} {x : Sp} (h : SpB W b x) (u : Int) (s : Bool) : SpB ((W.setCell ⟨b, 0, none⟩ (.int .u64 u)).setCell ⟨b, 1, none⟩ (.bool s)) b { x with m := ⟨u, s⟩ } := blk_put (blk_put h 0 _ rfl) 1 _ rfl
theorem SpB.put1 {W : World} {b : Nat} {x : Sp} (h : SpB W b x) (u : Int) (s : Bool) : SpB ((W.setCell ⟨b, 2, none⟩ (.int .u64 u)).setCell ⟨b, 3, none⟩ (.bool s)) b { x with h := ⟨u, s⟩ } := blk_put (blk_put h 2 _ rfl) 3 _ rfl
theorem SpB.put2 {W : World} {b : Nat} {x : Sp} (h : SpB W b x) (u : Int) (s : Bool) : SpB ((W.setCell ⟨b, 4, none⟩ (.int .u64 u)).setCell ⟨b, 5, none⟩ (.bool s)) b { x with d := ⟨u, s⟩ } := blk_put (blk_put h 4 _ rfl) 5 _ rfl
theorem SpB.put3 {W : World} {b : Nat} {x : Sp} (h : SpB W b x) (u : Int) (s : Bool) : SpB ((W.setCell ⟨b, 6, none⟩ (.int .u64 u)).setCell ⟨b, 7, none⟩ (.bool s)) b { x with n := ⟨u, s⟩ } := blk_put (blk_put h 6 _ rfl) 7 _ rfl
theorem SpB.put4 {W : World} {b : Nat} {x : Sp} (h : SpB W b x) (u : Int) (s : Bool) : SpB ((W.setCell ⟨b, 8, none⟩ (.int .u64 u)).setCell ⟨b, 9, none⟩ (.bool s)) b { x with w := ⟨u, s⟩ } := blk_put (blk_put h 8 _ rfl) 9 _ rfl
theorem sfl0 (c : Addr) (b : Nat) (W : World) (hc : W.cell? c = some (.pointer (some ⟨b, 0, none⟩))) :
    Calls Tryz.prog 89 #[.pointer (some c)] W fun e w' => e = .returned (.pointer (some ⟨b, 0, none⟩)) ∧ W = w' := sf1_q c b 0 W hc
theorem sfl1 (c : Addr) (b : Nat) (W : World) (hc : W.cell? c = some (.pointer (some ⟨b, 0, none⟩))) :
    Calls Tryz.prog 90 #[.pointer (some c)] W fun e w' => e = .returned (.pointer (some ⟨b, 2, none⟩)) ∧ W = w' := sf2_q c b 0 W hc
theorem sfl2 (c : Addr) (b : Nat) (W : World) (hc : W.cell? c = some (.pointer (some ⟨b, 0, none⟩))) :
    Calls Tryz.prog 91 #[.pointer (some c)] W fun e w' => e = .returned (.pointer (some ⟨b, 4, none⟩)) ∧ W = w' := sf3_q c b 0 W hc
theorem sfl3 (c : Addr) (b : Nat) (W : World) (hc : W.cell? c = some (.pointer (some ⟨b, 0, none⟩))) :
    Calls Tryz.prog 92 #[.pointer (some c)] W fun e w' => e = .returned (.pointer (some ⟨b, 6, none⟩)) ∧ W = w' := sf4_q c b 0 W hc
theorem sfl4 (c : Addr) (b : Nat) (W : World) (hc : W.cell? c = some (.pointer (some ⟨b, 0, none⟩))) :
    Calls Tryz.prog 93 #[.pointer (some c)] W fun e w' => e = .returned (.pointer (some ⟨b, 8, none⟩)) ∧ W = w' := sf5_q c b 0 W hc

/-- While the five are parsed: the result's block, the spec's block xb, the words at A, the functions' block cb. -/
structure SpI (w : World) (A xb cb : Nat) (ws : List ByteArray) (x : Sp) (W : World) : Prop where
  below : Below w.heap.size w W
  r : SpB W w.heap.size sp0
  x : SpB W xb x
  c : W.cell? ⟨cb, 0, none⟩ = some (.pointer (some ⟨xb, 0, none⟩))
  ws : ∀ j, j < 5 → W.cell? ⟨A, j, none⟩ = (ws.map Value.string)[j]?
  env : Env W
  g8 : 8 ≤ W.heap.size
  lo : w.heap.size < xb
  x8 : 8 ≤ xb
  cx : cb ≠ xb
  ax : A ≠ xb
  al : A < W.heap.size
  cl : cb < W.heap.size
theorem SpI.on {w : World} {A xb cb : Nat} {ws : List ByteArray} {x : Sp} {W W' : World} (h : SpI w A xb cb ws x W) (hb : Below W.heap.size W W') : SpI w A xb cb ws x W' where
  below := h.below.trans (hb.mono h.below.size)
  r := blk_below h.r hb
  x := blk_below h.x hb
  c := (hb.cell (p := ⟨cb, 0, none⟩) h.cl).trans h.c
  ws := fun j hj => (hb.cell (p := ⟨A, j, none⟩) h.al).trans (h.ws j hj)
  env := h.env.below hb
  g8 := Nat.le_trans h.g8 hb.size
  lo := h.lo
  x8 := h.x8
  cx := h.cx
  ax := h.ax
  al := Nat.lt_of_lt_of_le h.al hb.size
  cl := Nat.lt_of_lt_of_le h.cl hb.size
theorem SpI.put {w : World} {A xb cb : Nat} {ws : List ByteArray} {x x' : Sp} {W : World} (h : SpI w A xb cb ws x W) (i j : Nat) (u v : Value) (hx : SpB ((W.setCell ⟨xb, i, none⟩ u).setCell ⟨xb, j, none⟩ v) xb x') :
    SpI w A xb cb ws x' ((W.setCell ⟨xb, i, none⟩ u).setCell ⟨xb, j, none⟩ v) := by
  have hK : KX xb W ((W.setCell ⟨xb, i, none⟩ u).setCell ⟨xb, j, none⟩ v) := (KX.set W i u).trans (KX.set _ j v)
  exact ⟨h.below.trans (hK.below (Nat.le_of_lt h.lo) h.below.size), hK.blk h.r (by have := h.lo; omega), hx, (World.cell?_of_block (w := W) (hK.block cb h.cl h.cx)).trans h.c,
    fun k hk => (World.cell?_of_block (w := W) (hK.block A h.al h.ax)).trans (h.ws k hk), h.env.kx hK h.x8, Nat.le_trans h.g8 hK.size, h.lo, h.x8, h.cx, h.ax, Nat.lt_of_lt_of_le h.al hK.size, Nat.lt_of_lt_of_le h.cl hK.size⟩

set_option maxRecDepth 100000 in
set_option maxHeartbeats 2000000 in
theorem specParse_ok (s : ByteArray) (w : World) (t0 t1 t2 t3 t4 : ByteArray) (s0 s1 s2 s3 s4 : Bool) (L0 L1 L2 L3 L4 : List It) (hE : Env w) (h8 : 8 ≤ w.heap.size) (hs : s.size ≤ 256)
    (hk : ∀ i (h : i < s.size), s[i].toNat < 128 ∧ knownI (s[i].toNat : Int) = true) (hw : wordsL s = [t0, t1, t2, t3, t4])
    (p0 : PF t0 0 s0 L0) (p1 : PF t1 1 s1 L1) (p2 : PF t2 2 s2 L2) (p3 : PF t3 3 s3 L3) (p4 : PF t4 4 s4 L4) :
    Calls Tryz.prog 34 #[.string s] w fun e w' => e = .returned (.tuple #[.agg #[.int .u64 (bitsI 0 0 L0), .bool s0, .int .u64 (bitsI 1 0 L1), .bool s1, .int .u64 (bitsI 2 0 L2), .bool s2, .int .u64 (bitsI 3 0 L3), .bool s3, .int .u64 (bitsI 4 0 L4), .bool s4], .int .i64 0, .int .i64 0])
      ∧ Below w.heap.size w w' := by
  have hwo := fun W => Lib.hid (words_ok s W hs hk (by rw [hw]; rfl))
  have hw := Lib.hid hw
  clear hk
  go_enter Tryz.func34, Tryz.ntmps34
  go_wp2_with fail
  refine (hwo _).out.mono ?_
  clear hwo
  rintro e w1 ⟨A, rfl, hcA, hlA, hb1⟩
  rw [hw.out] at hcA
  have hcB := Lib.hid hcA
  clear hcA
  have hr1 : SpB w1 w.heap.size sp0 := blk_below (w := w.alloc (.cells #[.int .u64 sp0.m.b, .bool sp0.m.s, .int .u64 sp0.h.b, .bool sp0.h.s, .int .u64 sp0.d.b, .bool sp0.d.s, .int .u64 sp0.n.b, .bool sp0.n.s, .int .u64 sp0.w.b, .bool sp0.w.s] 26)) (blk_new _ _) hb1
  have hB1 : Below w.heap.size w w1 := ((Below.refl _ _).alloc (Nat.le_refl _) _).trans (hb1.mono (by simp))
  have hlt1 := blk_lt hr1
  clear hb1
  go_wp2_with fail
  refine (fields_any _ _).mono ?_
  rintro e w2 ⟨rfl, hc, hsz, hb2⟩
  have hI : SpI w A w1.heap.size (w1.heap.size + 1) [t0, t1, t2, t3, t4] sp0 w2 := by
    have hb : Below w1.heap.size w1 (w1.alloc (.cells #[.int .u64 sp0.m.b, .bool sp0.m.s, .int .u64 sp0.h.b, .bool sp0.h.s, .int .u64 sp0.d.b, .bool sp0.d.s, .int .u64 sp0.n.b, .bool sp0.n.s, .int .u64 sp0.w.b, .bool sp0.w.s] 26)) := (Below.refl _ _).alloc (Nat.le_refl _) _
    have hb3 : Below w1.heap.size w1 w2 := hb.trans (hb2.mono (by simp))
    refine ⟨hB1.trans (hb3.mono hB1.size), blk_below hr1 hb3, blk_below (w := w1.alloc (.cells #[.int .u64 sp0.m.b, .bool sp0.m.s, .int .u64 sp0.h.b, .bool sp0.h.s, .int .u64 sp0.d.b, .bool sp0.d.s, .int .u64 sp0.n.b, .bool sp0.n.s, .int .u64 sp0.w.b, .bool sp0.w.s] 26)) (blk_new _ _) hb2, ?_, fun j hj => (hb3.cell (p := ⟨A, j, none⟩) hlA).trans (hcB.out j hj),
      (hE.below hB1).below hb3, by have := hb3.size; omega, hlt1, by omega, by omega, by omega, by have := hb3.size; omega, by simp at hsz; omega⟩
    simpa only [World.size_alloc] using hc
  simp only [World.size_alloc]
  clear hb2 hsz hc hcB hlA hr1 hB1 hlt1
  generalize w1.heap.size + 1 = cb at *
  generalize w1.heap.size = xb at *
  clear w1
  go_wp2_with fail
  refine wp_loop_rounds 6 ?_
  -- round 0
  rw [rounds_succ]
  have ix := sfi0
  have wk : w2.cell? ⟨A, 0, none⟩ = some (.string t0) := hI.ws 0 (by decide)
  go_wp2_with fail
  refine (p0.ok w2 (by decide) (by decide) hI.env hI.g8).mono ?_
  rintro e w3 ⟨rfl, hb3⟩
  clear wk
  go_wp2
  generalize hW : w3.alloc (.cells #[.int .u64 (bitsI 0 0 L0), .bool s0] 24) = w4
  have hI4 : SpI w A xb cb [t0, t1, t2, t3, t4] _ w4 := hW ▸ (hI.on hb3).on ((Below.refl _ _).alloc (Nat.le_refl _) _)
  have q0 : w4.cell? ⟨w3.heap.size, 0, none⟩ = some (.int .u64 (bitsI 0 0 L0)) := by subst hW; go_simp
  have q1 : w4.cell? ⟨w3.heap.size, 1, none⟩ = some (.bool s0) := by subst hW; go_simp
  have hcb : w4.drew.cell? ⟨cb, 0, none⟩ = some (.pointer (some ⟨xb, 0, none⟩)) := hI4.c
  have x0 := blk_cell hI4.x 0
  have x1 := blk_cell hI4.x 1
  have z0 := blk_frozen hI4.x 0
  have z1 := blk_frozen hI4.x 1
  simp only [List.getElem?_toArray, List.getElem?_cons_succ, List.getElem?_cons_zero] at x0 x1
  clear hI hb3 hW ix
  refine start_ (n := 5) (S := fun w' => w'.cell? ⟨w3.heap.size, 0, none⟩ = some (.int .u64 (bitsI 0 0 L0)) ∧ w'.cell? ⟨w3.heap.size, 1, none⟩ = some (.bool s0)) (ds := [4]) #[false, false, false, false, false] (by kernel_rfl) rfl rfl ⟨q0, q1⟩ (fun hHeld => ?_)
  refine pure_ (i := 0) (N := some 41) (v := ?_) (a' := ?_) #[true, false, false, false, false] rfl rfl (by kernel_rfl) (fun _ _ _ h => h) (Or.inl ⟨by rfl, ?_⟩) ?_ ?_
  rotate_left
  · intro w'
    go_simp
    with_reducible rfl
  rotate_left
  · simp only [Act.put, List.setIfInBounds_toArray, List.set_cons_zero, List.set_cons_succ, i64_w, i32_w]
    rfl
  refine take_ (i := 2) (N := some 43) (v := ?_) (a' := ?_) #[true, false, true, false, false] rfl rfl (by kernel_rfl) (fun _ _ _ h => h) (Or.inl ⟨by rfl, ?_⟩) hHeld ?_ ?_
  rotate_left
  · rintro w' ⟨s0, s1⟩
    go_simp
    with_reducible rfl
  rotate_left
  · simp only [Act.put, List.setIfInBounds_toArray, List.set_cons_zero, List.set_cons_succ, i64_w, i32_w]
    rfl
  refine one_ (i := 1) (N := some 42) #[true, true, true, false, false] rfl rfl (by kernel_rfl) (by decide) (fun K hK => ?_)
  refine call_ (89) #[.pointer (some ⟨cb, 0, none⟩)] (by rfl) rfl ?_ ?_
  · have he := eg_sf1
    go_simp
  with_reducible refine (sfl0 ⟨cb, 0, none⟩ xb _ hcb).mono ?_
  rintro e w5 ⟨rfl, rfl⟩
  refine ⟨_, rfl, ?_⟩
  refine hK.out _ _ ⟨q0, q1⟩ (fun hHeld => ?_)
  clear hK K
  refine norm_ (a' := ?_) ?_ ?_
  rotate_left
  · show Act.put _ (some 42) _ = _
    simp only [Act.put, List.setIfInBounds_toArray, List.set_cons_zero, List.set_cons_succ, i64_w, i32_w]
    rfl
  refine pure_ (i := 3) (N := some 44) (v := ?_) (a' := ?_) #[true, true, true, true, false] rfl rfl (by kernel_rfl) (fun _ _ _ h => h) (Or.inl ⟨by rfl, ?_⟩) ?_ ?_
  rotate_left
  · intro w'
    go_simp
    with_reducible rfl
  rotate_left
  · simp only [Act.put, List.setIfInBounds_toArray, List.set_cons_zero, List.set_cons_succ, i64_w, i32_w]
    rfl
  refine last_ (i := 4) (N := none) #[true, true, true, true, true] rfl rfl (by kernel_rfl) (by decide) (fun K hK => ?_)
  refine skip_ (w1 := ?_) (by rfl) rfl ?_ ?_
  rotate_left
  · go_simp
    rfl
  refine hK.out _ _ ?_
  clear hK K
  refine done_ (by kernel_rfl) ?_

  have hI5 := (hI4.put 0 1 _ _ (hI4.x.put0 (bitsI 0 0 L0) s0)).on (Below.drew (Below.refl _ _))
  clear hI4 q0 q1 hcb x0 x1 z0 z1 hHeld
  go_wp2_with fail
  generalize ((w4.setCell ⟨xb, 0, none⟩ _).setCell ⟨xb, 1, none⟩ _).drew = w2 at hI5 ⊢
  have hI := hI5
  clear hI5
  -- round 1
  rw [rounds_succ]
  have ix := sfi1
  have wk : w2.cell? ⟨A, 1, none⟩ = some (.string t1) := hI.ws 1 (by decide)
  go_wp2_with fail
  refine (p1.ok w2 (by decide) (by decide) hI.env hI.g8).mono ?_
  rintro e w3 ⟨rfl, hb3⟩
  clear wk
  go_wp2
  generalize hW : w3.alloc (.cells #[.int .u64 (bitsI 1 0 L1), .bool s1] 24) = w4
  have hI4 : SpI w A xb cb [t0, t1, t2, t3, t4] _ w4 := hW ▸ (hI.on hb3).on ((Below.refl _ _).alloc (Nat.le_refl _) _)
  have q0 : w4.cell? ⟨w3.heap.size, 0, none⟩ = some (.int .u64 (bitsI 1 0 L1)) := by subst hW; go_simp
  have q1 : w4.cell? ⟨w3.heap.size, 1, none⟩ = some (.bool s1) := by subst hW; go_simp
  have hcb : w4.drew.cell? ⟨cb, 0, none⟩ = some (.pointer (some ⟨xb, 0, none⟩)) := hI4.c
  have x0 := blk_cell hI4.x 2
  have x1 := blk_cell hI4.x 3
  have z0 := blk_frozen hI4.x 2
  have z1 := blk_frozen hI4.x 3
  simp only [List.getElem?_toArray, List.getElem?_cons_succ, List.getElem?_cons_zero] at x0 x1
  clear hI hb3 hW ix
  refine start_ (n := 5) (S := fun w' => w'.cell? ⟨w3.heap.size, 0, none⟩ = some (.int .u64 (bitsI 1 0 L1)) ∧ w'.cell? ⟨w3.heap.size, 1, none⟩ = some (.bool s1)) (ds := [4]) #[false, false, false, false, false] (by kernel_rfl) rfl rfl ⟨q0, q1⟩ (fun hHeld => ?_)
  refine pure_ (i := 0) (N := some 41) (v := ?_) (a' := ?_) #[true, false, false, false, false] rfl rfl (by kernel_rfl) (fun _ _ _ h => h) (Or.inl ⟨by rfl, ?_⟩) ?_ ?_
  rotate_left
  · intro w'
    go_simp
    with_reducible rfl
  rotate_left
  · simp only [Act.put, List.setIfInBounds_toArray, List.set_cons_zero, List.set_cons_succ, i64_w, i32_w]
    rfl
  refine take_ (i := 2) (N := some 43) (v := ?_) (a' := ?_) #[true, false, true, false, false] rfl rfl (by kernel_rfl) (fun _ _ _ h => h) (Or.inl ⟨by rfl, ?_⟩) hHeld ?_ ?_
  rotate_left
  · rintro w' ⟨s0, s1⟩
    go_simp
    with_reducible rfl
  rotate_left
  · simp only [Act.put, List.setIfInBounds_toArray, List.set_cons_zero, List.set_cons_succ, i64_w, i32_w]
    rfl
  refine one_ (i := 1) (N := some 42) #[true, true, true, false, false] rfl rfl (by kernel_rfl) (by decide) (fun K hK => ?_)
  refine call_ (90) #[.pointer (some ⟨cb, 0, none⟩)] (by rfl) rfl ?_ ?_
  · have he := eg_sf2
    go_simp
  with_reducible refine (sfl1 ⟨cb, 0, none⟩ xb _ hcb).mono ?_
  rintro e w5 ⟨rfl, rfl⟩
  refine ⟨_, rfl, ?_⟩
  refine hK.out _ _ ⟨q0, q1⟩ (fun hHeld => ?_)
  clear hK K
  refine norm_ (a' := ?_) ?_ ?_
  rotate_left
  · show Act.put _ (some 42) _ = _
    simp only [Act.put, List.setIfInBounds_toArray, List.set_cons_zero, List.set_cons_succ, i64_w, i32_w]
    rfl
  refine pure_ (i := 3) (N := some 44) (v := ?_) (a' := ?_) #[true, true, true, true, false] rfl rfl (by kernel_rfl) (fun _ _ _ h => h) (Or.inl ⟨by rfl, ?_⟩) ?_ ?_
  rotate_left
  · intro w'
    go_simp
    with_reducible rfl
  rotate_left
  · simp only [Act.put, List.setIfInBounds_toArray, List.set_cons_zero, List.set_cons_succ, i64_w, i32_w]
    rfl
  refine last_ (i := 4) (N := none) #[true, true, true, true, true] rfl rfl (by kernel_rfl) (by decide) (fun K hK => ?_)
  refine skip_ (w1 := ?_) (by rfl) rfl ?_ ?_
  rotate_left
  · go_simp
    rfl
  refine hK.out _ _ ?_
  clear hK K
  refine done_ (by kernel_rfl) ?_

  have hI5 := (hI4.put 2 3 _ _ (hI4.x.put1 (bitsI 1 0 L1) s1)).on (Below.drew (Below.refl _ _))
  clear hI4 q0 q1 hcb x0 x1 z0 z1 hHeld
  go_wp2_with fail
  generalize ((w4.setCell ⟨xb, 2, none⟩ _).setCell ⟨xb, 3, none⟩ _).drew = w2 at hI5 ⊢
  have hI := hI5
  clear hI5
  -- round 2
  rw [rounds_succ]
  have ix := sfi2
  have wk : w2.cell? ⟨A, 2, none⟩ = some (.string t2) := hI.ws 2 (by decide)
  go_wp2_with fail
  refine (p2.ok w2 (by decide) (by decide) hI.env hI.g8).mono ?_
  rintro e w3 ⟨rfl, hb3⟩
  clear wk
  go_wp2
  generalize hW : w3.alloc (.cells #[.int .u64 (bitsI 2 0 L2), .bool s2] 24) = w4
  have hI4 : SpI w A xb cb [t0, t1, t2, t3, t4] _ w4 := hW ▸ (hI.on hb3).on ((Below.refl _ _).alloc (Nat.le_refl _) _)
  have q0 : w4.cell? ⟨w3.heap.size, 0, none⟩ = some (.int .u64 (bitsI 2 0 L2)) := by subst hW; go_simp
  have q1 : w4.cell? ⟨w3.heap.size, 1, none⟩ = some (.bool s2) := by subst hW; go_simp
  have hcb : w4.drew.cell? ⟨cb, 0, none⟩ = some (.pointer (some ⟨xb, 0, none⟩)) := hI4.c
  have x0 := blk_cell hI4.x 4
  have x1 := blk_cell hI4.x 5
  have z0 := blk_frozen hI4.x 4
  have z1 := blk_frozen hI4.x 5
  simp only [List.getElem?_toArray, List.getElem?_cons_succ, List.getElem?_cons_zero] at x0 x1
  clear hI hb3 hW ix
  refine start_ (n := 5) (S := fun w' => w'.cell? ⟨w3.heap.size, 0, none⟩ = some (.int .u64 (bitsI 2 0 L2)) ∧ w'.cell? ⟨w3.heap.size, 1, none⟩ = some (.bool s2)) (ds := [4]) #[false, false, false, false, false] (by kernel_rfl) rfl rfl ⟨q0, q1⟩ (fun hHeld => ?_)
  refine pure_ (i := 0) (N := some 41) (v := ?_) (a' := ?_) #[true, false, false, false, false] rfl rfl (by kernel_rfl) (fun _ _ _ h => h) (Or.inl ⟨by rfl, ?_⟩) ?_ ?_
  rotate_left
  · intro w'
    go_simp
    with_reducible rfl
  rotate_left
  · simp only [Act.put, List.setIfInBounds_toArray, List.set_cons_zero, List.set_cons_succ, i64_w, i32_w]
    rfl
  refine take_ (i := 2) (N := some 43) (v := ?_) (a' := ?_) #[true, false, true, false, false] rfl rfl (by kernel_rfl) (fun _ _ _ h => h) (Or.inl ⟨by rfl, ?_⟩) hHeld ?_ ?_
  rotate_left
  · rintro w' ⟨s0, s1⟩
    go_simp
    with_reducible rfl
  rotate_left
  · simp only [Act.put, List.setIfInBounds_toArray, List.set_cons_zero, List.set_cons_succ, i64_w, i32_w]
    rfl
  refine one_ (i := 1) (N := some 42) #[true, true, true, false, false] rfl rfl (by kernel_rfl) (by decide) (fun K hK => ?_)
  refine call_ (91) #[.pointer (some ⟨cb, 0, none⟩)] (by rfl) rfl ?_ ?_
  · have he := eg_sf3
    go_simp
  with_reducible refine (sfl2 ⟨cb, 0, none⟩ xb _ hcb).mono ?_
  rintro e w5 ⟨rfl, rfl⟩
  refine ⟨_, rfl, ?_⟩
  refine hK.out _ _ ⟨q0, q1⟩ (fun hHeld => ?_)
  clear hK K
  refine norm_ (a' := ?_) ?_ ?_
  rotate_left
  · show Act.put _ (some 42) _ = _
    simp only [Act.put, List.setIfInBounds_toArray, List.set_cons_zero, List.set_cons_succ, i64_w, i32_w]
    rfl
  refine pure_ (i := 3) (N := some 44) (v := ?_) (a' := ?_) #[true, true, true, true, false] rfl rfl (by kernel_rfl) (fun _ _ _ h => h) (Or.inl ⟨by rfl, ?_⟩) ?_ ?_
  rotate_left
  · intro w'
    go_simp
    with_reducible rfl
  rotate_left
  · simp only [Act.put, List.setIfInBounds_toArray, List.set_cons_zero, List.set_cons_succ, i64_w, i32_w]
    rfl
  refine last_ (i := 4) (N := none) #[true, true, true, true, true] rfl rfl (by kernel_rfl) (by decide) (fun K hK => ?_)
  refine skip_ (w1 := ?_) (by rfl) rfl ?_ ?_
  rotate_left
  · go_simp
    rfl
  refine hK.out _ _ ?_
  clear hK K
  refine done_ (by kernel_rfl) ?_

  have hI5 := (hI4.put 4 5 _ _ (hI4.x.put2 (bitsI 2 0 L2) s2)).on (Below.drew (Below.refl _ _))
  clear hI4 q0 q1 hcb x0 x1 z0 z1 hHeld
  go_wp2_with fail
  generalize ((w4.setCell ⟨xb, 4, none⟩ _).setCell ⟨xb, 5, none⟩ _).drew = w2 at hI5 ⊢
  have hI := hI5
  clear hI5
  -- round 3
  rw [rounds_succ]
  have ix := sfi3
  have wk : w2.cell? ⟨A, 3, none⟩ = some (.string t3) := hI.ws 3 (by decide)
  go_wp2_with fail
  refine (p3.ok w2 (by decide) (by decide) hI.env hI.g8).mono ?_
  rintro e w3 ⟨rfl, hb3⟩
  clear wk
  go_wp2
  generalize hW : w3.alloc (.cells #[.int .u64 (bitsI 3 0 L3), .bool s3] 24) = w4
  have hI4 : SpI w A xb cb [t0, t1, t2, t3, t4] _ w4 := hW ▸ (hI.on hb3).on ((Below.refl _ _).alloc (Nat.le_refl _) _)
  have q0 : w4.cell? ⟨w3.heap.size, 0, none⟩ = some (.int .u64 (bitsI 3 0 L3)) := by subst hW; go_simp
  have q1 : w4.cell? ⟨w3.heap.size, 1, none⟩ = some (.bool s3) := by subst hW; go_simp
  have hcb : w4.drew.cell? ⟨cb, 0, none⟩ = some (.pointer (some ⟨xb, 0, none⟩)) := hI4.c
  have x0 := blk_cell hI4.x 6
  have x1 := blk_cell hI4.x 7
  have z0 := blk_frozen hI4.x 6
  have z1 := blk_frozen hI4.x 7
  simp only [List.getElem?_toArray, List.getElem?_cons_succ, List.getElem?_cons_zero] at x0 x1
  clear hI hb3 hW ix
  refine start_ (n := 5) (S := fun w' => w'.cell? ⟨w3.heap.size, 0, none⟩ = some (.int .u64 (bitsI 3 0 L3)) ∧ w'.cell? ⟨w3.heap.size, 1, none⟩ = some (.bool s3)) (ds := [4]) #[false, false, false, false, false] (by kernel_rfl) rfl rfl ⟨q0, q1⟩ (fun hHeld => ?_)
  refine pure_ (i := 0) (N := some 41) (v := ?_) (a' := ?_) #[true, false, false, false, false] rfl rfl (by kernel_rfl) (fun _ _ _ h => h) (Or.inl ⟨by rfl, ?_⟩) ?_ ?_
  rotate_left
  · intro w'
    go_simp
    with_reducible rfl
  rotate_left
  · simp only [Act.put, List.setIfInBounds_toArray, List.set_cons_zero, List.set_cons_succ, i64_w, i32_w]
    rfl
  refine take_ (i := 2) (N := some 43) (v := ?_) (a' := ?_) #[true, false, true, false, false] rfl rfl (by kernel_rfl) (fun _ _ _ h => h) (Or.inl ⟨by rfl, ?_⟩) hHeld ?_ ?_
  rotate_left
  · rintro w' ⟨s0, s1⟩
    go_simp
    with_reducible rfl
  rotate_left
  · simp only [Act.put, List.setIfInBounds_toArray, List.set_cons_zero, List.set_cons_succ, i64_w, i32_w]
    rfl
  refine one_ (i := 1) (N := some 42) #[true, true, true, false, false] rfl rfl (by kernel_rfl) (by decide) (fun K hK => ?_)
  refine call_ (92) #[.pointer (some ⟨cb, 0, none⟩)] (by rfl) rfl ?_ ?_
  · have he := eg_sf4
    go_simp
  with_reducible refine (sfl3 ⟨cb, 0, none⟩ xb _ hcb).mono ?_
  rintro e w5 ⟨rfl, rfl⟩
  refine ⟨_, rfl, ?_⟩
  refine hK.out _ _ ⟨q0, q1⟩ (fun hHeld => ?_)
  clear hK K
  refine norm_ (a' := ?_) ?_ ?_
  rotate_left
  · show Act.put _ (some 42) _ = _
    simp only [Act.put, List.setIfInBounds_toArray, List.set_cons_zero, List.set_cons_succ, i64_w, i32_w]
    rfl
  refine pure_ (i := 3) (N := some 44) (v := ?_) (a' := ?_) #[true, true, true, true, false] rfl rfl (by kernel_rfl) (fun _ _ _ h => h) (Or.inl ⟨by rfl, ?_⟩) ?_ ?_
  rotate_left
  · intro w'
    go_simp
    with_reducible rfl
  rotate_left
  · simp only [Act.put, List.setIfInBounds_toArray, List.set_cons_zero, List.set_cons_succ, i64_w, i32_w]
    rfl
  refine last_ (i := 4) (N := none) #[true, true, true, true, true] rfl rfl (by kernel_rfl) (by decide) (fun K hK => ?_)
  refine skip_ (w1 := ?_) (by rfl) rfl ?_ ?_
  rotate_left
  · go_simp
    rfl
  refine hK.out _ _ ?_
  clear hK K
  refine done_ (by kernel_rfl) ?_

  have hI5 := (hI4.put 6 7 _ _ (hI4.x.put3 (bitsI 3 0 L3) s3)).on (Below.drew (Below.refl _ _))
  clear hI4 q0 q1 hcb x0 x1 z0 z1 hHeld
  go_wp2_with fail
  generalize ((w4.setCell ⟨xb, 6, none⟩ _).setCell ⟨xb, 7, none⟩ _).drew = w2 at hI5 ⊢
  have hI := hI5
  clear hI5
  -- round 4
  rw [rounds_succ]
  have ix := sfi4
  have wk : w2.cell? ⟨A, 4, none⟩ = some (.string t4) := hI.ws 4 (by decide)
  go_wp2_with fail
  refine (p4.ok w2 (by decide) (by decide) hI.env hI.g8).mono ?_
  rintro e w3 ⟨rfl, hb3⟩
  clear wk
  go_wp2
  generalize hW : w3.alloc (.cells #[.int .u64 (bitsI 4 0 L4), .bool s4] 24) = w4
  have hI4 : SpI w A xb cb [t0, t1, t2, t3, t4] _ w4 := hW ▸ (hI.on hb3).on ((Below.refl _ _).alloc (Nat.le_refl _) _)
  have q0 : w4.cell? ⟨w3.heap.size, 0, none⟩ = some (.int .u64 (bitsI 4 0 L4)) := by subst hW; go_simp
  have q1 : w4.cell? ⟨w3.heap.size, 1, none⟩ = some (.bool s4) := by subst hW; go_simp
  have hcb : w4.drew.cell? ⟨cb, 0, none⟩ = some (.pointer (some ⟨xb, 0, none⟩)) := hI4.c
  have x0 := blk_cell hI4.x 8
  have x1 := blk_cell hI4.x 9
  have z0 := blk_frozen hI4.x 8
  have z1 := blk_frozen hI4.x 9
  simp only [List.getElem?_toArray, List.getElem?_cons_succ, List.getElem?_cons_zero] at x0 x1
  clear hI hb3 hW ix
  refine start_ (n := 5) (S := fun w' => w'.cell? ⟨w3.heap.size, 0, none⟩ = some (.int .u64 (bitsI 4 0 L4)) ∧ w'.cell? ⟨w3.heap.size, 1, none⟩ = some (.bool s4)) (ds := [4]) #[false, false, false, false, false] (by kernel_rfl) rfl rfl ⟨q0, q1⟩ (fun hHeld => ?_)
  refine pure_ (i := 0) (N := some 41) (v := ?_) (a' := ?_) #[true, false, false, false, false] rfl rfl (by kernel_rfl) (fun _ _ _ h => h) (Or.inl ⟨by rfl, ?_⟩) ?_ ?_
  rotate_left
  · intro w'
    go_simp
    with_reducible rfl
  rotate_left
  · simp only [Act.put, List.setIfInBounds_toArray, List.set_cons_zero, List.set_cons_succ, i64_w, i32_w]
    rfl
  refine take_ (i := 2) (N := some 43) (v := ?_) (a' := ?_) #[true, false, true, false, false] rfl rfl (by kernel_rfl) (fun _ _ _ h => h) (Or.inl ⟨by rfl, ?_⟩) hHeld ?_ ?_
  rotate_left
  · rintro w' ⟨s0, s1⟩
    go_simp
    with_reducible rfl
  rotate_left
  · simp only [Act.put, List.setIfInBounds_toArray, List.set_cons_zero, List.set_cons_succ, i64_w, i32_w]
    rfl
  refine one_ (i := 1) (N := some 42) #[true, true, true, false, false] rfl rfl (by kernel_rfl) (by decide) (fun K hK => ?_)
  refine call_ (93) #[.pointer (some ⟨cb, 0, none⟩)] (by rfl) rfl ?_ ?_
  · have he := eg_sf5
    go_simp
  with_reducible refine (sfl4 ⟨cb, 0, none⟩ xb _ hcb).mono ?_
  rintro e w5 ⟨rfl, rfl⟩
  refine ⟨_, rfl, ?_⟩
  refine hK.out _ _ ⟨q0, q1⟩ (fun hHeld => ?_)
  clear hK K
  refine norm_ (a' := ?_) ?_ ?_
  rotate_left
  · show Act.put _ (some 42) _ = _
    simp only [Act.put, List.setIfInBounds_toArray, List.set_cons_zero, List.set_cons_succ, i64_w, i32_w]
    rfl
  refine pure_ (i := 3) (N := some 44) (v := ?_) (a' := ?_) #[true, true, true, true, false] rfl rfl (by kernel_rfl) (fun _ _ _ h => h) (Or.inl ⟨by rfl, ?_⟩) ?_ ?_
  rotate_left
  · intro w'
    go_simp
    with_reducible rfl
  rotate_left
  · simp only [Act.put, List.setIfInBounds_toArray, List.set_cons_zero, List.set_cons_succ, i64_w, i32_w]
    rfl
  refine last_ (i := 4) (N := none) #[true, true, true, true, true] rfl rfl (by kernel_rfl) (by decide) (fun K hK => ?_)
  refine skip_ (w1 := ?_) (by rfl) rfl ?_ ?_
  rotate_left
  · go_simp
    rfl
  refine hK.out _ _ ?_
  clear hK K
  refine done_ (by kernel_rfl) ?_

  have hI5 := (hI4.put 8 9 _ _ (hI4.x.put4 (bitsI 4 0 L4) s4)).on (Below.drew (Below.refl _ _))
  clear hI4 q0 q1 hcb x0 x1 z0 z1 hHeld
  go_wp2_with fail
  generalize ((w4.setCell ⟨xb, 8, none⟩ _).setCell ⟨xb, 9, none⟩ _).drew = w2 at hI5 ⊢
  have hI := hI5
  clear hI5
  rw [rounds_succ]
  have hr := hI.r
  obtain ⟨c0, c1, c2, c3, c4, c5, c6, c7, c8, c9⟩ := hI.x.spIn
  obtain ⟨d0, d1, d2, d3, d4, d5, d6, d7, d8, d9⟩ := hr.spIn
  obtain ⟨z0, z1, z2, z3, z4, z5, z6, z7, z8, z9⟩ := hr.fz
  have hB := hI.below
  clear hI
  go_wp2
  have hB9 : Below w.heap.size w ((((((((((w2.setCell ⟨w.heap.size, 0, none⟩ (.int .u64 (bitsI 0 0 L0))).setCell ⟨w.heap.size, 1, none⟩ (.bool s0)).setCell ⟨w.heap.size, 2, none⟩ (.int .u64 (bitsI 1 0 L1))).setCell ⟨w.heap.size, 3, none⟩ (.bool s1)).setCell ⟨w.heap.size, 4, none⟩ (.int .u64 (bitsI 2 0 L2))).setCell ⟨w.heap.size, 5, none⟩ (.bool s2)).setCell ⟨w.heap.size, 6, none⟩ (.int .u64 (bitsI 3 0 L3))).setCell ⟨w.heap.size, 7, none⟩ (.bool s3)).setCell ⟨w.heap.size, 8, none⟩ (.int .u64 (bitsI 4 0 L4))).setCell ⟨w.heap.size, 9, none⟩ (.bool s4)) := ((((((((((hB.setCell (p := ⟨w.heap.size, 0, none⟩) (Nat.le_refl _) _).setCell (p := ⟨w.heap.size, 1, none⟩) (Nat.le_refl _) _).setCell (p := ⟨w.heap.size, 2, none⟩) (Nat.le_refl _) _).setCell (p := ⟨w.heap.size, 3, none⟩) (Nat.le_refl _) _).setCell (p := ⟨w.heap.size, 4, none⟩) (Nat.le_refl _) _).setCell (p := ⟨w.heap.size, 5, none⟩) (Nat.le_refl _) _).setCell (p := ⟨w.heap.size, 6, none⟩) (Nat.le_refl _) _).setCell (p := ⟨w.heap.size, 7, none⟩) (Nat.le_refl _) _).setCell (p := ⟨w.heap.size, 8, none⟩) (Nat.le_refl _) _).setCell (p := ⟨w.heap.size, 9, none⟩) (Nat.le_refl _) _)
  have hr9 : SpB ((((((((((w2.setCell ⟨w.heap.size, 0, none⟩ (.int .u64 (bitsI 0 0 L0))).setCell ⟨w.heap.size, 1, none⟩ (.bool s0)).setCell ⟨w.heap.size, 2, none⟩ (.int .u64 (bitsI 1 0 L1))).setCell ⟨w.heap.size, 3, none⟩ (.bool s1)).setCell ⟨w.heap.size, 4, none⟩ (.int .u64 (bitsI 2 0 L2))).setCell ⟨w.heap.size, 5, none⟩ (.bool s2)).setCell ⟨w.heap.size, 6, none⟩ (.int .u64 (bitsI 3 0 L3))).setCell ⟨w.heap.size, 7, none⟩ (.bool s3)).setCell ⟨w.heap.size, 8, none⟩ (.int .u64 (bitsI 4 0 L4))).setCell ⟨w.heap.size, 9, none⟩ (.bool s4)) w.heap.size ⟨⟨bitsI 0 0 L0, s0⟩, ⟨bitsI 1 0 L1, s1⟩, ⟨bitsI 2 0 L2, s2⟩, ⟨bitsI 3 0 L3, s3⟩, ⟨bitsI 4 0 L4, s4⟩⟩ := (((((hr.put0 (bitsI 0 0 L0) s0).put1 (bitsI 1 0 L1) s1).put2 (bitsI 2 0 L2) s2).put3 (bitsI 3 0 L3) s3).put4 (bitsI 4 0 L4) s4)
  clear c0 c1 c2 c3 c4 c5 c6 c7 c8 c9 d0 d1 d2 d3 d4 d5 d6 d7 d8 d9 z0 z1 z2 z3 z4 z5 z6 z7 z8 z9 hr hB
  generalize ((((((((((w2.setCell ⟨w.heap.size, 0, none⟩ (.int .u64 (bitsI 0 0 L0))).setCell ⟨w.heap.size, 1, none⟩ (.bool s0)).setCell ⟨w.heap.size, 2, none⟩ (.int .u64 (bitsI 1 0 L1))).setCell ⟨w.heap.size, 3, none⟩ (.bool s1)).setCell ⟨w.heap.size, 4, none⟩ (.int .u64 (bitsI 2 0 L2))).setCell ⟨w.heap.size, 5, none⟩ (.bool s2)).setCell ⟨w.heap.size, 6, none⟩ (.int .u64 (bitsI 3 0 L3))).setCell ⟨w.heap.size, 7, none⟩ (.bool s3)).setCell ⟨w.heap.size, 8, none⟩ (.int .u64 (bitsI 4 0 L4))).setCell ⟨w.heap.size, 9, none⟩ (.bool s4)) = w9 at *
  obtain ⟨c0, c1, c2, c3, c4, c5, c6, c7, c8, c9⟩ := hr9.spIn
  refine bodyPost_ret (v := .tuple #[.agg #[.int .u64 (bitsI 0 0 L0), .bool s0, .int .u64 (bitsI 1 0 L1), .bool s1, .int .u64 (bitsI 2 0 L2), .bool s2, .int .u64 (bitsI 3 0 L3), .bool s3, .int .u64 (bitsI 4 0 L4), .bool s4], .int .i64 0, .int .i64 0]) (by simp [results, Tryz.results34, go_sem, c0, c1, c2, c3, c4, c5, c6, c7, c8, c9]) rfl ⟨rfl, hB9⟩

end Go.Proofs.YtkdejfedigiohaaGreatDoor
