/-
  Contracts of Go's library at this seat's translation, laid by the kit's own command in its plain mode.
-/
import Derived.Test.YtgmhifafbebjfaaGreatDoorProg
import Derived.Shelf.Strings.Builder1
import Derived.Shelf.Strings.Builder2
import Derived.Shelf.Strings.OnBuilder
import Derived.Shelf.Strings.Trim
import Derived.Shelf.Small.Utf8
import Derived.Shelf.Small.Bits
import Derived.Shelf.Small.Strs
import Derived.Shelf.Small.Wraps
import Derived.Shelf.Strings.BuilderF
import Derived.Shelf.Strings.BuilderK
import Derived.Shelf.Strconv.Itoa0
import Derived.Shelf.Strconv.Itoa1
import Derived.Shelf.LaysM
import Derived.Shelf.Strconv.Itoa2
import Derived.Ground.MpProg
import Derived.Shelf.Pu.ParseUintPublic10
import Derived.Shelf.Strings.Search1
import Derived.Shelf.Strings.Search2
import Derived.Shelf.Strings.Search3
import Derived.Shelf.Strings.Cut
import Derived.Shelf.Strings.Shaped
import Derived.Shelf.Strings.Prefix
import Derived.Shelf.Strings.Runes
import Derived.Shelf.Strings.AsciiSet
import Derived.Shelf.Bits.Mul64
import Derived.Shelf.Strings.Repeat
import Derived.Shelf.Unicode.DecodeSlow
namespace Go.Proofs
open Go.Shelf
def Tryz.lays170_ren : Go.Shelf.Ren := ⟨fun | 170 => 149 | n => n, fun | 70 => 151 | 3 => 3 | 0 => 0 | 72 => 153 | 37 => 61 | 5 => 5 | n => n, fun | n => n⟩
theorem Tryz.lays170 : Go.Proofs.Lays.n170 Tryz.prog Tryz.lays170_ren := {
  mixed := by kernel_rfl
  f170 := Tryz.func149.trans (congrArg some (by kernel_rfl))
  t0 := Tryz.underlying0
  a0 := Tryz.isAgg0
  z0 := Tryz.sizeOf0
  v0 := Tryz.zeroValue0
  t3 := Tryz.underlying3
  a3 := Tryz.isAgg3
  z3 := Tryz.sizeOf3
  v3 := Tryz.zeroValue3
  t37 := Tryz.underlying61
  a37 := Tryz.isAgg61
  z37 := Tryz.sizeOf61
  v37 := Tryz.zeroValue61
  t70 := Tryz.underlying151
  a70 := Tryz.isAgg151
  z70 := Tryz.sizeOf151
  v70 := Tryz.zeroValue151
  t72 := Tryz.underlying153
  a72 := Tryz.isAgg153
  z72 := Tryz.sizeOf153
  v72 := Tryz.zeroValue153 }
def Tryz.lays169_ren : Go.Shelf.Ren := ⟨fun | 169 => 151 | n => n, fun | 70 => 151 | 9 => 9 | 0 => 0 | 72 => 153 | 37 => 61 | 127 => 193 | 3 => 3 | 5 => 5 | n => n, fun | n => n⟩
theorem Tryz.lays169 : Go.Proofs.Lays.n169 Tryz.prog Tryz.lays169_ren := {
  mixed := by kernel_rfl
  f169 := Tryz.func151.trans (congrArg some (by kernel_rfl))
  t0 := Tryz.underlying0
  a0 := Tryz.isAgg0
  z0 := Tryz.sizeOf0
  v0 := Tryz.zeroValue0
  t3 := Tryz.underlying3
  a3 := Tryz.isAgg3
  z3 := Tryz.sizeOf3
  v3 := Tryz.zeroValue3
  t9 := Tryz.underlying9
  a9 := Tryz.isAgg9
  z9 := Tryz.sizeOf9
  v9 := Tryz.zeroValue9
  t37 := Tryz.underlying61
  a37 := Tryz.isAgg61
  z37 := Tryz.sizeOf61
  v37 := Tryz.zeroValue61
  t70 := Tryz.underlying151
  a70 := Tryz.isAgg151
  z70 := Tryz.sizeOf151
  v70 := Tryz.zeroValue151
  t72 := Tryz.underlying153
  a72 := Tryz.isAgg153
  z72 := Tryz.sizeOf153
  v72 := Tryz.zeroValue153
  t127 := Tryz.underlying193
  a127 := Tryz.isAgg193
  z127 := Tryz.sizeOf193
  v127 := Tryz.zeroValue193 }
theorem Tryz.Builder_Extra_169 : Builder.Extra Tryz.prog Tryz.lays169_ren := {
  sizeBuilder := by kernel_rfl
  liesBuilder := by kernel_rfl
  t5 := Tryz.underlying5
  a5 := Tryz.isAgg5
  z5 := Tryz.sizeOf5
  v5 := Tryz.zeroValue5
  infoByte := by kernel_rfl
  cellsByte := by kernel_rfl
  sizeByte := by kernel_rfl
  neB5 := by decide }
def Tryz.lays156_ren : Go.Shelf.Ren := ⟨fun | 156 => 146 | 165 => 154 | 166 => 150 | 169 => 151 | 240 => 190 | 241 => 194 | 276 => 218 | 277 => 219 | n => n, fun | 31 => 44 | 9 => 9 | 3 => 3 | 4 => 4 | 0 => 0 | 20 => 20 | 72 => 153 | 76 => 159 | 70 => 151 | 37 => 61 | 75 => 158 | 127 => 193 | 164 => 220 | 5 => 5 | 80 => 161 | n => n, fun | n => n⟩
theorem Tryz.lays156 : Go.Proofs.Lays.n156 Tryz.prog Tryz.lays156_ren := {
  mixed := by kernel_rfl
  f156 := Tryz.func146.trans (congrArg some (by kernel_rfl))
  f165 := Tryz.func154.trans (congrArg some (by kernel_rfl))
  f166 := Tryz.func150.trans (congrArg some (by kernel_rfl))
  f169 := Tryz.func151.trans (congrArg some (by kernel_rfl))
  f240 := Tryz.func190.trans (congrArg some (by kernel_rfl))
  f241 := Tryz.func194.trans (congrArg some (by kernel_rfl))
  f276 := Tryz.func218.trans (congrArg some (by kernel_rfl))
  f277 := Tryz.func219.trans (congrArg some (by kernel_rfl))
  t0 := Tryz.underlying0
  a0 := Tryz.isAgg0
  z0 := Tryz.sizeOf0
  v0 := Tryz.zeroValue0
  t3 := Tryz.underlying3
  a3 := Tryz.isAgg3
  z3 := Tryz.sizeOf3
  v3 := Tryz.zeroValue3
  t4 := Tryz.underlying4
  a4 := Tryz.isAgg4
  z4 := Tryz.sizeOf4
  v4 := Tryz.zeroValue4
  t9 := Tryz.underlying9
  a9 := Tryz.isAgg9
  z9 := Tryz.sizeOf9
  v9 := Tryz.zeroValue9
  t20 := Tryz.underlying20
  a20 := Tryz.isAgg20
  z20 := Tryz.sizeOf20
  v20 := Tryz.zeroValue20
  t31 := Tryz.underlying44
  a31 := Tryz.isAgg44
  z31 := Tryz.sizeOf44
  v31 := Tryz.zeroValue44
  t37 := Tryz.underlying61
  a37 := Tryz.isAgg61
  z37 := Tryz.sizeOf61
  v37 := Tryz.zeroValue61
  t70 := Tryz.underlying151
  a70 := Tryz.isAgg151
  z70 := Tryz.sizeOf151
  v70 := Tryz.zeroValue151
  t72 := Tryz.underlying153
  a72 := Tryz.isAgg153
  z72 := Tryz.sizeOf153
  v72 := Tryz.zeroValue153
  t75 := Tryz.underlying158
  a75 := Tryz.isAgg158
  z75 := Tryz.sizeOf158
  v75 := Tryz.zeroValue158
  t76 := Tryz.underlying159
  a76 := Tryz.isAgg159
  z76 := Tryz.sizeOf159
  v76 := Tryz.zeroValue159
  t127 := Tryz.underlying193
  a127 := Tryz.isAgg193
  z127 := Tryz.sizeOf193
  v127 := Tryz.zeroValue193
  t164 := Tryz.underlying220
  a164 := Tryz.isAgg220
  z164 := Tryz.sizeOf220
  v164 := Tryz.zeroValue220 }
theorem Tryz.Builder_Extra_156 : Builder.Extra Tryz.prog Tryz.lays156_ren := {
  sizeBuilder := by kernel_rfl
  liesBuilder := by kernel_rfl
  t5 := Tryz.underlying5
  a5 := Tryz.isAgg5
  z5 := Tryz.sizeOf5
  v5 := Tryz.zeroValue5
  infoByte := by kernel_rfl
  cellsByte := by kernel_rfl
  sizeByte := by kernel_rfl
  neB5 := by decide }
open Go.RowKit in
/-- No element: the empty string; the world is as it was. (Whatever the slice's address and capacity: a nil slice too.) (LAID: no walk: one application.) -/
theorem Tryz.strings_Join_none (a : Option Addr) (c : Nat) (sep : ByteArray) (w : World) :
    Calls Tryz.prog 146 #[.slice a 0 c, .string sep] w fun e w' => e = .returned (.string ⟨#[]⟩) ∧ w' = w := Any.strings_Join_none Tryz.lays156 Tryz.Builder_Extra_156 a c sep w
open Go.RowKit in
/-- strings.Join: "Join concatenates the elements of its first argument to create a single string. The separator string sep is placed between elements in the resulting string.": HOWEVER MANY ELEMENTS. Below the heap's end the world is as it was. (LAID: no walk: one application.) -/
theorem Tryz.strings_Join (bk o c : Nat) (xs : List ByteArray) (sep : ByteArray) (w : World) (hcells : ∀ (j : Nat) x, xs[j]? = some x → w.cell? ⟨bk, o + j, none⟩ = some (.string x)) (hbk : bk < w.heap.size) (hN : xs.length ≤ 140737488355328) (hcap : xs.length ≤ c) (hlen : (Lib.join (xs.map (·.data.toList)) sep.data.toList).length ≤ 140737488355328) :
    Calls Tryz.prog 146 #[.slice (some ⟨bk, o, none⟩) xs.length c, .string sep] w fun e w' => e = .returned (.string ⟨(Lib.join (xs.map (·.data.toList)) sep.data.toList).toArray⟩) ∧ Below w.heap.size w w' := Any.strings_Join Tryz.lays156 Tryz.Builder_Extra_156 bk o c xs sep w hcells hbk hN hcap hlen
def Tryz.lays162_ren : Go.Shelf.Ren := ⟨fun | 162 => 159 | 232 => 200 | 227 => 201 | 234 => 202 | 236 => 203 | 228 => 228 | 271 => 229 | 151 => 230 | 120 => 259 | 197 => 213 | 152 => 260 | 260 => 243 | 137 => 272 | 119 => 273 | 224 => 216 | 225 => 215 | 217 => 214 | 266 => 244 | n => n, fun | 9 => 9 | 4 => 4 | 3 => 3 | 5 => 5 | 117 => 206 | 116 => 205 | 0 => 0 | 124 => 209 | 21 => 21 | 105 => 216 | 46 => 162 | 119 => 256 | 139 => 259 | 138 => 258 | n => n, fun | 3 => 4 | 4 => 5 | n => n⟩
theorem Tryz.lays162 : Go.Proofs.Lays.n162 Tryz.prog Tryz.lays162_ren := {
  mixed := by kernel_rfl
  f119 := Tryz.func273.trans (congrArg some (by kernel_rfl))
  f120 := Tryz.func259.trans (congrArg some (by kernel_rfl))
  f137 := Tryz.func272.trans (congrArg some (by kernel_rfl))
  f151 := Tryz.func230.trans (congrArg some (by kernel_rfl))
  f152 := Tryz.func260.trans (congrArg some (by kernel_rfl))
  f162 := Tryz.func159.trans (congrArg some (by kernel_rfl))
  f197 := Tryz.func213.trans (congrArg some (by kernel_rfl))
  f217 := Tryz.func214.trans (congrArg some (by kernel_rfl))
  f224 := Tryz.func216.trans (congrArg some (by kernel_rfl))
  f225 := Tryz.func215.trans (congrArg some (by kernel_rfl))
  f227 := Tryz.func201.trans (congrArg some (by kernel_rfl))
  f228 := Tryz.func228.trans (congrArg some (by kernel_rfl))
  f232 := Tryz.func200.trans (congrArg some (by kernel_rfl))
  f234 := Tryz.func202.trans (congrArg some (by kernel_rfl))
  f236 := Tryz.func203.trans (congrArg some (by kernel_rfl))
  f260 := Tryz.func243.trans (congrArg some (by kernel_rfl))
  f266 := Tryz.func244.trans (congrArg some (by kernel_rfl))
  f271 := Tryz.func229.trans (congrArg some (by kernel_rfl))
  t0 := Tryz.underlying0
  a0 := Tryz.isAgg0
  z0 := Tryz.sizeOf0
  v0 := Tryz.zeroValue0
  t3 := Tryz.underlying3
  a3 := Tryz.isAgg3
  z3 := Tryz.sizeOf3
  v3 := Tryz.zeroValue3
  t4 := Tryz.underlying4
  a4 := Tryz.isAgg4
  z4 := Tryz.sizeOf4
  v4 := Tryz.zeroValue4
  t5 := Tryz.underlying5
  a5 := Tryz.isAgg5
  z5 := Tryz.sizeOf5
  v5 := Tryz.zeroValue5
  t9 := Tryz.underlying9
  a9 := Tryz.isAgg9
  z9 := Tryz.sizeOf9
  v9 := Tryz.zeroValue9
  t21 := Tryz.underlying21
  a21 := Tryz.isAgg21
  z21 := Tryz.sizeOf21
  v21 := Tryz.zeroValue21
  t46 := Tryz.underlying162
  a46 := Tryz.isAgg162
  z46 := Tryz.sizeOf162
  v46 := Tryz.zeroValue162
  t105 := Tryz.underlying216
  a105 := Tryz.isAgg216
  z105 := Tryz.sizeOf216
  v105 := Tryz.zeroValue216
  t116 := Tryz.underlying205
  a116 := Tryz.isAgg205
  z116 := Tryz.sizeOf205
  t117 := Tryz.underlying206
  a117 := Tryz.isAgg206
  z117 := Tryz.sizeOf206
  v117 := Tryz.zeroValue206
  t119 := Tryz.underlying256
  a119 := Tryz.isAgg256
  z119 := Tryz.sizeOf256
  t124 := Tryz.underlying209
  a124 := Tryz.isAgg209
  z124 := Tryz.sizeOf209
  v124 := Tryz.zeroValue209
  t138 := Tryz.underlying258
  a138 := Tryz.isAgg258
  z138 := Tryz.sizeOf258
  v138 := Tryz.zeroValue258
  t139 := Tryz.underlying259
  a139 := Tryz.isAgg259
  z139 := Tryz.sizeOf259
  v139 := Tryz.zeroValue259
  g3 := by kernel_rfl
  g4 := by kernel_rfl }
open Go.RowKit in
/-- strings.TrimRight: "TrimRight returns a slice of the string s, with all trailing Unicode code points contained in cutset removed.": AT A cutset OF ONE ASCII BYTE. The world is as it was. (LAID: no walk: one application.) -/
theorem Tryz.strings_TrimRight_one (s : ByteArray) (c : UInt8) (hc : c.toNat < 128) (w : World) (hs : s.size ≤ 9223372036854775807) :
    Calls Tryz.prog 159 #[.string s, .string ⟨#[c]⟩] w fun e w' => e = .returned (.string ⟨(Lib.trimRightB s.data.toList c).toArray⟩) ∧ w' = w := Any.strings_TrimRight_one Tryz.lays162 s c hc w hs
def Tryz.lays160_ren : Go.Shelf.Ren := ⟨fun | 160 => 221 | 232 => 200 | 231 => 246 | 227 => 201 | 234 => 202 | 233 => 247 | 236 => 203 | 235 => 248 | 228 => 228 | 271 => 229 | 151 => 230 | 197 => 213 | 120 => 259 | 152 => 260 | 260 => 243 | 137 => 272 | 119 => 273 | 224 => 216 | 225 => 215 | 217 => 214 | 266 => 244 | n => n, fun | 9 => 9 | 4 => 4 | 3 => 3 | 5 => 5 | 117 => 206 | 116 => 205 | 0 => 0 | 124 => 209 | 21 => 21 | 105 => 216 | 46 => 162 | 119 => 256 | 139 => 259 | 138 => 258 | n => n, fun | 3 => 4 | 4 => 5 | n => n⟩
theorem Tryz.lays160 : Go.Proofs.Lays.n160 Tryz.prog Tryz.lays160_ren := {
  mixed := by kernel_rfl
  f119 := Tryz.func273.trans (congrArg some (by kernel_rfl))
  f120 := Tryz.func259.trans (congrArg some (by kernel_rfl))
  f137 := Tryz.func272.trans (congrArg some (by kernel_rfl))
  f151 := Tryz.func230.trans (congrArg some (by kernel_rfl))
  f152 := Tryz.func260.trans (congrArg some (by kernel_rfl))
  f160 := Tryz.func221.trans (congrArg some (by kernel_rfl))
  f197 := Tryz.func213.trans (congrArg some (by kernel_rfl))
  f217 := Tryz.func214.trans (congrArg some (by kernel_rfl))
  f224 := Tryz.func216.trans (congrArg some (by kernel_rfl))
  f225 := Tryz.func215.trans (congrArg some (by kernel_rfl))
  f227 := Tryz.func201.trans (congrArg some (by kernel_rfl))
  f228 := Tryz.func228.trans (congrArg some (by kernel_rfl))
  f231 := Tryz.func246.trans (congrArg some (by kernel_rfl))
  f232 := Tryz.func200.trans (congrArg some (by kernel_rfl))
  f233 := Tryz.func247.trans (congrArg some (by kernel_rfl))
  f234 := Tryz.func202.trans (congrArg some (by kernel_rfl))
  f235 := Tryz.func248.trans (congrArg some (by kernel_rfl))
  f236 := Tryz.func203.trans (congrArg some (by kernel_rfl))
  f260 := Tryz.func243.trans (congrArg some (by kernel_rfl))
  f266 := Tryz.func244.trans (congrArg some (by kernel_rfl))
  f271 := Tryz.func229.trans (congrArg some (by kernel_rfl))
  t0 := Tryz.underlying0
  a0 := Tryz.isAgg0
  z0 := Tryz.sizeOf0
  v0 := Tryz.zeroValue0
  t3 := Tryz.underlying3
  a3 := Tryz.isAgg3
  z3 := Tryz.sizeOf3
  v3 := Tryz.zeroValue3
  t4 := Tryz.underlying4
  a4 := Tryz.isAgg4
  z4 := Tryz.sizeOf4
  v4 := Tryz.zeroValue4
  t5 := Tryz.underlying5
  a5 := Tryz.isAgg5
  z5 := Tryz.sizeOf5
  v5 := Tryz.zeroValue5
  t9 := Tryz.underlying9
  a9 := Tryz.isAgg9
  z9 := Tryz.sizeOf9
  v9 := Tryz.zeroValue9
  t21 := Tryz.underlying21
  a21 := Tryz.isAgg21
  z21 := Tryz.sizeOf21
  v21 := Tryz.zeroValue21
  t46 := Tryz.underlying162
  a46 := Tryz.isAgg162
  z46 := Tryz.sizeOf162
  v46 := Tryz.zeroValue162
  t105 := Tryz.underlying216
  a105 := Tryz.isAgg216
  z105 := Tryz.sizeOf216
  v105 := Tryz.zeroValue216
  t116 := Tryz.underlying205
  a116 := Tryz.isAgg205
  z116 := Tryz.sizeOf205
  t117 := Tryz.underlying206
  a117 := Tryz.isAgg206
  z117 := Tryz.sizeOf206
  v117 := Tryz.zeroValue206
  t119 := Tryz.underlying256
  a119 := Tryz.isAgg256
  z119 := Tryz.sizeOf256
  t124 := Tryz.underlying209
  a124 := Tryz.isAgg209
  z124 := Tryz.sizeOf209
  v124 := Tryz.zeroValue209
  t138 := Tryz.underlying258
  a138 := Tryz.isAgg258
  z138 := Tryz.sizeOf258
  v138 := Tryz.zeroValue258
  t139 := Tryz.underlying259
  a139 := Tryz.isAgg259
  z139 := Tryz.sizeOf259
  v139 := Tryz.zeroValue259
  g3 := by kernel_rfl
  g4 := by kernel_rfl }
open Go.RowKit in
def Tryz.lays103_ren : Go.Shelf.Ren := ⟨fun | 103 => 195 | 210 => 220 | 206 => 193 | n => n, fun | 9 => 9 | 4 => 4 | 24 => 198 | 3 => 3 | n => n, fun | n => n⟩
theorem Tryz.lays103 : Go.Proofs.Lays.n103 Tryz.prog Tryz.lays103_ren := {
  mixed := by kernel_rfl
  f103 := Tryz.func195.trans (congrArg some (by kernel_rfl))
  f206 := Tryz.func193.trans (congrArg some (by kernel_rfl))
  f210 := Tryz.func220.trans (congrArg some (by kernel_rfl))
  t3 := Tryz.underlying3
  a3 := Tryz.isAgg3
  z3 := Tryz.sizeOf3
  v3 := Tryz.zeroValue3
  t4 := Tryz.underlying4
  a4 := Tryz.isAgg4
  z4 := Tryz.sizeOf4
  v4 := Tryz.zeroValue4
  t9 := Tryz.underlying9
  a9 := Tryz.isAgg9
  z9 := Tryz.sizeOf9
  v9 := Tryz.zeroValue9
  t24 := Tryz.underlying198
  a24 := Tryz.isAgg198
  z24 := Tryz.sizeOf198
  v24 := Tryz.zeroValue198 }
open Go.RowKit in
/-- strings.CutPrefix: "CutPrefix returns s without the provided leading prefix string and reports whether it found the prefix. If s doesn't start with prefix, CutPrefix returns s, false. If prefix is the empty string, CutPrefix returns s, true.": IT RETURNS '(Lib.trimPrefix s p, Lib.hasPrefix s p)'; the world is as it was. (LAID: no walk: one application.) -/
theorem Tryz.strings_CutPrefix (s p : ByteArray) (w : World) :
    Calls Tryz.prog 195 #[.string s, .string p] w fun e w' => e = .returned (.tuple #[.string ⟨(Lib.trimPrefix s.data.toList p.data.toList).toArray⟩, .bool (Lib.hasPrefix s.data.toList p.data.toList)]) ∧ w' = w := Any.strings_CutPrefix Tryz.lays103 s p w
open Go.RowKit in
/-- (*strings.Builder).Len: "Len returns the number of accumulated bytes; b.Len() == len(b.String()).": the world is as it was. (THE FORM '_f': 'Lib.IsBuilderF'.) (LAID: no walk: one application.) -/
theorem Tryz.Builder_Len_f (B b : Nat) (bs : List Value) (w : World) (h : Lib.IsBuilderF 153 5 B b bs w) :
    Calls Tryz.prog 149 #[.pointer (some ⟨b, 0, none⟩)] w fun e w' => e = .returned (.int .i64 bs.length) ∧ w' = w := Any.Builder_Len_f Tryz.lays170 B b bs w h
open Go.RowKit in
/-- (*strings.Builder).String: "String returns the accumulated string.": WHATEVER THE BUILDER HOLDS; THE FORM '_f': OF A BUILDER THAT MAY HAVE BEEN READ BEFORE; AND IT IS A BUILDER STILL, holding the same bytes: it can be written on. (LAID: no walk: one application.) -/
theorem Tryz.Builder_String_any_f (B b : Nat) (l : List UInt8) (w : World) (h : Lib.IsBuilderF 153 5 B b (Lib.byteCells l) w) (hBw : B ≤ w.heap.size) :
    Calls Tryz.prog 151 #[.pointer (some ⟨b, 0, none⟩)] w fun e w' => e = .returned (.string ⟨l.toArray⟩) ∧ (Lib.IsBuilderF 153 5 B b (Lib.byteCells l) w' ∧ Below B w w') := Any.Builder_String_any_f Tryz.lays169 Tryz.Builder_Extra_169 B b l w h hBw
def Tryz.lays283_ren : Go.Shelf.Ren := ⟨fun | 283 => 224 | n => n, fun | 3 => 3 | 9 => 9 | 4 => 4 | n => n, fun | n => n⟩
theorem Tryz.lays283 : Go.Proofs.Lays.n283 Tryz.prog Tryz.lays283_ren := {
  mixed := by kernel_rfl
  f283 := Tryz.func224.trans (congrArg some (by kernel_rfl))
  t3 := Tryz.underlying3
  a3 := Tryz.isAgg3
  z3 := Tryz.sizeOf3
  v3 := Tryz.zeroValue3
  t4 := Tryz.underlying4
  a4 := Tryz.isAgg4
  z4 := Tryz.sizeOf4
  v4 := Tryz.zeroValue4
  t9 := Tryz.underlying9
  a9 := Tryz.isAgg9
  z9 := Tryz.sizeOf9
  v9 := Tryz.zeroValue9 }
open Go.Lib in
/-- internal/strconv.small: "small returns the string for an i with 0 <= i < nSmalls.": i's decimal numeral. The world is as it was. (LAID: no walk: one application.) -/
theorem Tryz.internal_strconv_small (i : Nat) (h : i < 100) (w : World) :
    Calls Tryz.prog 224 #[.int .i64 i] w fun e w' => e = .returned (.string ⟨(Lib.decDigits i).toArray⟩) ∧ w' = w := Any.internal_strconv_small Tryz.lays283 i h w
def Tryz.laysM284_ren : Go.Shelf.Ren := ⟨fun | 284 => 225 | 129 => 231 | 317 => 255 | 318 => 256 | n => n, fun | 53 => 119 | 3 => 3 | 212 => 246 | 0 => 0 | 4 => 4 | 46 => 162 | 5 => 5 | 9 => 9 | n => n, fun | 17 => 3 | n => n⟩
theorem Tryz.laysM284 : Go.Proofs.LaysM.n284 Tryz.prog Tryz.laysM284_ren := {
  mixed := by kernel_rfl
  f129 := Tryz.func231.trans (congrArg some (by kernel_rfl))
  f284 := Tryz.func225.trans (congrArg some (by kernel_rfl))
  f317 := Tryz.func255.trans (congrArg some (by kernel_rfl))
  f318 := Tryz.func256.trans (congrArg some (by kernel_rfl))
  t0 := Tryz.underlying0
  a0 := Tryz.isAgg0
  z0 := Tryz.sizeOf0
  v0 := Tryz.zeroValue0
  t3 := Tryz.underlying3
  a3 := Tryz.isAgg3
  z3 := Tryz.sizeOf3
  v3 := Tryz.zeroValue3
  t4 := Tryz.underlying4
  a4 := Tryz.isAgg4
  z4 := Tryz.sizeOf4
  v4 := Tryz.zeroValue4
  t5 := Tryz.underlying5
  a5 := Tryz.isAgg5
  z5 := Tryz.sizeOf5
  v5 := Tryz.zeroValue5
  t9 := Tryz.underlying9
  a9 := Tryz.isAgg9
  z9 := Tryz.sizeOf9
  v9 := Tryz.zeroValue9
  t46 := Tryz.underlying162
  a46 := Tryz.isAgg162
  z46 := Tryz.sizeOf162
  v46 := Tryz.zeroValue162
  t53 := Tryz.underlying119
  a53 := Tryz.isAgg119
  z53 := Tryz.sizeOf119
  v53 := Tryz.zeroValue119
  t212 := Tryz.underlying246
  a212 := Tryz.isAgg246
  z212 := Tryz.sizeOf246
  v212 := Tryz.zeroValue246
  g17 := by kernel_rfl
  i0 := by kernel_rfl
  i3 := by kernel_rfl
  i4 := by kernel_rfl
  i5 := by kernel_rfl
  i9 := by kernel_rfl
  i46 := by kernel_rfl
  i53 := by kernel_rfl
  i212 := by kernel_rfl
  m17 := by kernel_rfl }
open Go.Lib in
/-- internal/strconv.numDigits, at a d that is not 0: THE NUMBER OF d's DECIMAL DIGITS. The world is as it was. (LAID: no walk: one application.) -/
theorem Tryz.internal_strconv_numDigits (u : Nat) (h1 : 1 ≤ u) (h2 : u < 18446744073709551616) (w : World) (htab : Lib.TabIs Tryz.prog w "internal/strconv.uint64pow10" .u64 Lib.pow10Tab) :
    Calls Tryz.prog 225 #[.int .u64 u] w fun e w' => e = .returned (.int .i64 (Lib.nDigits u)) ∧ w' = w := Any.internal_strconv_numDigits Tryz.laysM284 u h1 h2 w htab
def Tryz.lays285_ren : Go.Shelf.Ren := ⟨fun | 285 => 226 | n => n, fun | 37 => 61 | 53 => 119 | 3 => 3 | 4 => 4 | 51 => 194 | 9 => 9 | 5 => 5 | 0 => 0 | n => n, fun | n => n⟩
theorem Tryz.lays285 : Go.Proofs.Lays.n285 Tryz.prog Tryz.lays285_ren := {
  mixed := by kernel_rfl
  f285 := Tryz.func226.trans (congrArg some (by kernel_rfl))
  t0 := Tryz.underlying0
  a0 := Tryz.isAgg0
  z0 := Tryz.sizeOf0
  v0 := Tryz.zeroValue0
  t3 := Tryz.underlying3
  a3 := Tryz.isAgg3
  z3 := Tryz.sizeOf3
  v3 := Tryz.zeroValue3
  t4 := Tryz.underlying4
  a4 := Tryz.isAgg4
  z4 := Tryz.sizeOf4
  v4 := Tryz.zeroValue4
  t5 := Tryz.underlying5
  a5 := Tryz.isAgg5
  z5 := Tryz.sizeOf5
  v5 := Tryz.zeroValue5
  t9 := Tryz.underlying9
  a9 := Tryz.isAgg9
  z9 := Tryz.sizeOf9
  v9 := Tryz.zeroValue9
  t37 := Tryz.underlying61
  a37 := Tryz.isAgg61
  z37 := Tryz.sizeOf61
  v37 := Tryz.zeroValue61
  t51 := Tryz.underlying194
  a51 := Tryz.isAgg194
  z51 := Tryz.sizeOf194
  v51 := Tryz.zeroValue194
  t53 := Tryz.underlying119
  a53 := Tryz.isAgg119
  z53 := Tryz.sizeOf119
  v53 := Tryz.zeroValue119 }
open Go.RowKit Go.Sort Go.Lib in
/-- internal/strconv.formatBase10: "formatBase10 formats the decimal representation of u into a. The caller is responsible for ensuring that a is big enough to hold u. If a is too big, leading zeros will be filled in as needed.": THE ROW HOLDS u's DIGITS ('FmtInv .. 0 ..': every place t holds 'dg u (len - 1 - t)'); all else is as it was but for the count of draws. (LAID: no walk: one application.) -/
theorem Tryz.internal_strconv_formatBase10 (blk off cap : Nat) (u : Nat) (d : Array UInt8) (w : World) (hH : Holds (fun (b : UInt8) => Value.int .u8 (b.toNat : Int)) w blk off d) (hu : u < 10 ^ d.size) (hu64 : u < 18446744073709551616) (hsz : d.size < 4611686018427387904) :
    Calls Tryz.prog 226 #[.slice (some ⟨blk, off, none⟩) d.size cap, .int .u64 u] w fun e w' =>
      e = .returned (.tuple #[]) ∧ ∃ (n v' : Nat) (dk : Array UInt8), w' = (putRow (fun (b : UInt8) => Value.int .u8 (b.toNat : Int)) w blk off dk).drewN n ∧ FmtInv d.size u 0 v' dk := Any.internal_strconv_formatBase10 Tryz.lays285 blk off cap u d w hH hu hu64 hsz
def Tryz.laysPu14_ren : Go.Shelf.Ren := ⟨fun | 14 => 197 | 16 => 222 | 17 => 223 | 19 => 249 | 20 => 250 | 21 => 251 | 22 => 252 | 23 => 253 | 24 => 254 | 25 => 267 | 27 => 269 | 26 => 268 | 28 => 275 | 29 => 276 | 30 => 224 | 31 => 225 | 32 => 226 | 33 => 227 | 35 => 231 | 34 => 255 | 36 => 256 | 37 => 257 | 38 => 258 | 39 => 270 | 40 => 271 | n => n, fun | 9 => 9 | 3 => 3 | 22 => 119 | 24 => 158 | 25 => 201 | 4 => 4 | 34 => 241 | 5 => 5 | 36 => 162 | 37 => 61 | 0 => 0 | 39 => 243 | 21 => 21 | 44 => 261 | 47 => 193 | 50 => 269 | 48 => 267 | 2 => 2 | 52 => 225 | 55 => 227 | 59 => 246 | 60 => 194 | 20 => 20 | 61 => 247 | 65 => 270 | 66 => 271 | 67 => 161 | n => n, fun | 0 => 6 | 1 => 7 | 2 => 3 | 3 => 8 | 4 => 9 | n => n⟩
theorem Tryz.laysPu14 : Go.Proofs.LaysPu.n14 Tryz.prog Tryz.laysPu14_ren := {
  mixed := by kernel_rfl
  f14 := Tryz.func197.trans (congrArg some (by kernel_rfl))
  f16 := Tryz.func222.trans (congrArg some (by kernel_rfl))
  f17 := Tryz.func223.trans (congrArg some (by kernel_rfl))
  f19 := Tryz.func249.trans (congrArg some (by kernel_rfl))
  f20 := Tryz.func250.trans (congrArg some (by kernel_rfl))
  f21 := Tryz.func251.trans (congrArg some (by kernel_rfl))
  f22 := Tryz.func252.trans (congrArg some (by kernel_rfl))
  f23 := Tryz.func253.trans (congrArg some (by kernel_rfl))
  f24 := Tryz.func254.trans (congrArg some (by kernel_rfl))
  f25 := Tryz.func267.trans (congrArg some (by kernel_rfl))
  f26 := Tryz.func268.trans (congrArg some (by kernel_rfl))
  f27 := Tryz.func269.trans (congrArg some (by kernel_rfl))
  f28 := Tryz.func275.trans (congrArg some (by kernel_rfl))
  f29 := Tryz.func276.trans (congrArg some (by kernel_rfl))
  f30 := Tryz.func224.trans (congrArg some (by kernel_rfl))
  f31 := Tryz.func225.trans (congrArg some (by kernel_rfl))
  f32 := Tryz.func226.trans (congrArg some (by kernel_rfl))
  f33 := Tryz.func227.trans (congrArg some (by kernel_rfl))
  f34 := Tryz.func255.trans (congrArg some (by kernel_rfl))
  f35 := Tryz.func231.trans (congrArg some (by kernel_rfl))
  f36 := Tryz.func256.trans (congrArg some (by kernel_rfl))
  f37 := Tryz.func257.trans (congrArg some (by kernel_rfl))
  f38 := Tryz.func258.trans (congrArg some (by kernel_rfl))
  f39 := Tryz.func270.trans (congrArg some (by kernel_rfl))
  f40 := Tryz.func271.trans (congrArg some (by kernel_rfl))
  t0 := Tryz.underlying0
  a0 := Tryz.isAgg0
  z0 := Tryz.sizeOf0
  v0 := Tryz.zeroValue0
  i0 := by kernel_rfl
  t2 := Tryz.underlying2
  a2 := Tryz.isAgg2
  z2 := Tryz.sizeOf2
  v2 := Tryz.zeroValue2
  i2 := by kernel_rfl
  t3 := Tryz.underlying3
  a3 := Tryz.isAgg3
  z3 := Tryz.sizeOf3
  v3 := Tryz.zeroValue3
  i3 := by kernel_rfl
  t4 := Tryz.underlying4
  a4 := Tryz.isAgg4
  z4 := Tryz.sizeOf4
  v4 := Tryz.zeroValue4
  i4 := by kernel_rfl
  t5 := Tryz.underlying5
  a5 := Tryz.isAgg5
  z5 := Tryz.sizeOf5
  v5 := Tryz.zeroValue5
  i5 := by kernel_rfl
  t9 := Tryz.underlying9
  a9 := Tryz.isAgg9
  z9 := Tryz.sizeOf9
  v9 := Tryz.zeroValue9
  i9 := by kernel_rfl
  t20 := Tryz.underlying20
  a20 := Tryz.isAgg20
  z20 := Tryz.sizeOf20
  v20 := Tryz.zeroValue20
  i20 := by kernel_rfl
  t21 := Tryz.underlying21
  a21 := Tryz.isAgg21
  z21 := Tryz.sizeOf21
  v21 := Tryz.zeroValue21
  i21 := by kernel_rfl
  t22 := Tryz.underlying119
  a22 := Tryz.isAgg119
  z22 := Tryz.sizeOf119
  v22 := Tryz.zeroValue119
  i22 := by kernel_rfl
  t24 := Tryz.underlying158
  a24 := Tryz.isAgg158
  z24 := Tryz.sizeOf158
  v24 := Tryz.zeroValue158
  i24 := by kernel_rfl
  t25 := Tryz.underlying201
  a25 := Tryz.isAgg201
  z25 := Tryz.sizeOf201
  v25 := Tryz.zeroValue201
  i25 := by kernel_rfl
  t34 := Tryz.underlying241
  a34 := Tryz.isAgg241
  z34 := Tryz.sizeOf241
  v34 := Tryz.zeroValue241
  i34 := by kernel_rfl
  c34 := by kernel_rfl
  t36 := Tryz.underlying162
  a36 := Tryz.isAgg162
  z36 := Tryz.sizeOf162
  v36 := Tryz.zeroValue162
  i36 := by kernel_rfl
  t37 := Tryz.underlying61
  a37 := Tryz.isAgg61
  z37 := Tryz.sizeOf61
  v37 := Tryz.zeroValue61
  i37 := by kernel_rfl
  t39 := Tryz.underlying243
  a39 := Tryz.isAgg243
  z39 := Tryz.sizeOf243
  v39 := Tryz.zeroValue243
  i39 := by kernel_rfl
  t44 := Tryz.underlying261
  a44 := Tryz.isAgg261
  z44 := Tryz.sizeOf261
  v44 := Tryz.zeroValue261
  i44 := by kernel_rfl
  t47 := Tryz.underlying193
  a47 := Tryz.isAgg193
  z47 := Tryz.sizeOf193
  v47 := Tryz.zeroValue193
  i47 := by kernel_rfl
  t48 := Tryz.underlying267
  a48 := Tryz.isAgg267
  z48 := Tryz.sizeOf267
  v48 := Tryz.zeroValue267
  i48 := by kernel_rfl
  t50 := Tryz.underlying269
  a50 := Tryz.isAgg269
  z50 := Tryz.sizeOf269
  v50 := Tryz.zeroValue269
  i50 := by kernel_rfl
  t52 := Tryz.underlying225
  a52 := Tryz.isAgg225
  z52 := Tryz.sizeOf225
  v52 := Tryz.zeroValue225
  i52 := by kernel_rfl
  t55 := Tryz.underlying227
  a55 := Tryz.isAgg227
  z55 := Tryz.sizeOf227
  v55 := Tryz.zeroValue227
  i55 := by kernel_rfl
  t59 := Tryz.underlying246
  a59 := Tryz.isAgg246
  z59 := Tryz.sizeOf246
  v59 := Tryz.zeroValue246
  i59 := by kernel_rfl
  t60 := Tryz.underlying194
  a60 := Tryz.isAgg194
  z60 := Tryz.sizeOf194
  v60 := Tryz.zeroValue194
  i60 := by kernel_rfl
  t61 := Tryz.underlying247
  a61 := Tryz.isAgg247
  z61 := Tryz.sizeOf247
  t65 := Tryz.underlying270
  a65 := Tryz.isAgg270
  z65 := Tryz.sizeOf270
  v65 := Tryz.zeroValue270
  i65 := by kernel_rfl
  t66 := Tryz.underlying271
  a66 := Tryz.isAgg271
  z66 := Tryz.sizeOf271
  v66 := Tryz.zeroValue271
  i66 := by kernel_rfl
  t67 := Tryz.underlying161
  a67 := Tryz.isAgg161
  z67 := Tryz.sizeOf161
  v67 := Tryz.zeroValue161
  i67 := by kernel_rfl
  g0 := by kernel_rfl
  m0 := by kernel_rfl
  g1 := by kernel_rfl
  m1 := by kernel_rfl
  g2 := by kernel_rfl
  m2 := by kernel_rfl
  g3 := by kernel_rfl
  m3 := by kernel_rfl
  g4 := by kernel_rfl
  m4 := by kernel_rfl }
open Go.RowKit in
/-- strconv.ParseUint(s, 10, 64), AT EVERY STRING THAT SPELLS A uint64 ('Lib.parseUintB 64 s.data.toList = .ok u'): u, AND NO ERROR. (LAID: no walk: one application.) -/
theorem Tryz.strconv_ParseUint_10_at64_ok (s : ByteArray) (hmax : s.size ≤ 9223372036854775806) (u : Nat) (h : Lib.parseUintB 64 s.data.toList = .ok u) (w : World) :
    Calls Tryz.prog 197 #[.string s, .int .i64 10, .int .i64 64] w fun e w' => e = .returned (.tuple #[.int .u64 u, .nilIface]) ∧ (w' = w ∨ w' = Lib.bytesWorld w 5 s) := Any.strconv_ParseUint_10_at64_ok Tryz.laysPu14 s hmax u h w
def Tryz.lays219_ren : Go.Shelf.Ren := ⟨fun | 219 => 188 | 217 => 214 | 225 => 215 | 224 => 216 | 267 => 217 | 266 => 244 | 314 => 245 | n => n, fun | 9 => 9 | 3 => 3 | 4 => 4 | 5 => 5 | 46 => 162 | 146 => 195 | 51 => 194 | n => n, fun | 1 => 2 | n => n⟩
theorem Tryz.lays219 : Go.Proofs.Lays.n219 Tryz.prog Tryz.lays219_ren := {
  mixed := by kernel_rfl
  f217 := Tryz.func214.trans (congrArg some (by kernel_rfl))
  f219 := Tryz.func188.trans (congrArg some (by kernel_rfl))
  f224 := Tryz.func216.trans (congrArg some (by kernel_rfl))
  f225 := Tryz.func215.trans (congrArg some (by kernel_rfl))
  f266 := Tryz.func244.trans (congrArg some (by kernel_rfl))
  f267 := Tryz.func217.trans (congrArg some (by kernel_rfl))
  f314 := Tryz.func245.trans (congrArg some (by kernel_rfl))
  t3 := Tryz.underlying3
  a3 := Tryz.isAgg3
  z3 := Tryz.sizeOf3
  v3 := Tryz.zeroValue3
  t4 := Tryz.underlying4
  a4 := Tryz.isAgg4
  z4 := Tryz.sizeOf4
  v4 := Tryz.zeroValue4
  t5 := Tryz.underlying5
  a5 := Tryz.isAgg5
  z5 := Tryz.sizeOf5
  v5 := Tryz.zeroValue5
  t9 := Tryz.underlying9
  a9 := Tryz.isAgg9
  z9 := Tryz.sizeOf9
  v9 := Tryz.zeroValue9
  t46 := Tryz.underlying162
  a46 := Tryz.isAgg162
  z46 := Tryz.sizeOf162
  v46 := Tryz.zeroValue162
  t51 := Tryz.underlying194
  a51 := Tryz.isAgg194
  z51 := Tryz.sizeOf194
  v51 := Tryz.zeroValue194
  t146 := Tryz.underlying195
  a146 := Tryz.isAgg195
  z146 := Tryz.sizeOf195
  v146 := Tryz.zeroValue195
  g1 := by kernel_rfl }
open Go.RowKit Go.Lib in
/-- internal/stringslite.Index (what strings.Index calls) AT A substr OF ONE BYTE c: IT RETURNS 'Lib.indexByte s c'; the world is as it was. (LAID: no walk: one application.) -/
theorem Tryz.stringslite_Index_one (s : ByteArray) (c : UInt8) (w : World) :
    Calls Tryz.prog 188 #[.string s, .string ⟨#[c]⟩] w fun e w' => e = .returned (.int .i64 (Lib.indexByte s.data.toList c)) ∧ w' = w := Any.stringslite_Index_one Tryz.lays219 s c w
def Tryz.lays143_ren : Go.Shelf.Ren := ⟨fun | 143 => 147 | 219 => 188 | 217 => 214 | 225 => 215 | 224 => 216 | 267 => 217 | 266 => 244 | 314 => 245 | n => n, fun | 9 => 9 | 3 => 3 | 4 => 4 | 5 => 5 | 46 => 162 | 146 => 195 | 51 => 194 | n => n, fun | 1 => 2 | n => n⟩
theorem Tryz.lays143 : Go.Proofs.Lays.n143 Tryz.prog Tryz.lays143_ren := {
  mixed := by kernel_rfl
  f143 := Tryz.func147.trans (congrArg some (by kernel_rfl))
  f217 := Tryz.func214.trans (congrArg some (by kernel_rfl))
  f219 := Tryz.func188.trans (congrArg some (by kernel_rfl))
  f224 := Tryz.func216.trans (congrArg some (by kernel_rfl))
  f225 := Tryz.func215.trans (congrArg some (by kernel_rfl))
  f266 := Tryz.func244.trans (congrArg some (by kernel_rfl))
  f267 := Tryz.func217.trans (congrArg some (by kernel_rfl))
  f314 := Tryz.func245.trans (congrArg some (by kernel_rfl))
  t3 := Tryz.underlying3
  a3 := Tryz.isAgg3
  z3 := Tryz.sizeOf3
  v3 := Tryz.zeroValue3
  t4 := Tryz.underlying4
  a4 := Tryz.isAgg4
  z4 := Tryz.sizeOf4
  v4 := Tryz.zeroValue4
  t5 := Tryz.underlying5
  a5 := Tryz.isAgg5
  z5 := Tryz.sizeOf5
  v5 := Tryz.zeroValue5
  t9 := Tryz.underlying9
  a9 := Tryz.isAgg9
  z9 := Tryz.sizeOf9
  v9 := Tryz.zeroValue9
  t46 := Tryz.underlying162
  a46 := Tryz.isAgg162
  z46 := Tryz.sizeOf162
  v46 := Tryz.zeroValue162
  t51 := Tryz.underlying194
  a51 := Tryz.isAgg194
  z51 := Tryz.sizeOf194
  v51 := Tryz.zeroValue194
  t146 := Tryz.underlying195
  a146 := Tryz.isAgg195
  z146 := Tryz.sizeOf195
  v146 := Tryz.zeroValue195
  g1 := by kernel_rfl }
open Go.RowKit Go.Lib in
/-- strings.Index: "Index returns the index of the first instance of substr in s, or -1 if substr is not present in s.": IT RETURNS 'Lib.index s substr'; the world is as it was. (LAID: no walk: one application.) -/
theorem Tryz.strings_Index (s sub : ByteArray) (m : Int) (w : World) (hs : s.size < 4294967281) (hm : w.cell? ⟨2, 0, none⟩ = some (.int .i64 m)) :
    Calls Tryz.prog 147 #[.string s, .string sub] w fun e w' => e = .returned (.int .i64 (Lib.index s.data.toList sub.data.toList)) ∧ w' = w := Any.strings_Index Tryz.lays143 s sub m w hs hm
def Tryz.lays145_ren : Go.Shelf.Ren := ⟨fun | 145 => 148 | 220 => 189 | 219 => 188 | 217 => 214 | 225 => 215 | 224 => 216 | 267 => 217 | 266 => 244 | 314 => 245 | n => n, fun | 9 => 9 | 4 => 4 | 59 => 154 | 3 => 3 | 5 => 5 | 46 => 162 | 146 => 195 | 51 => 194 | n => n, fun | 1 => 2 | n => n⟩
theorem Tryz.lays145 : Go.Proofs.Lays.n145 Tryz.prog Tryz.lays145_ren := {
  mixed := by kernel_rfl
  f145 := Tryz.func148.trans (congrArg some (by kernel_rfl))
  f217 := Tryz.func214.trans (congrArg some (by kernel_rfl))
  f219 := Tryz.func188.trans (congrArg some (by kernel_rfl))
  f220 := Tryz.func189.trans (congrArg some (by kernel_rfl))
  f224 := Tryz.func216.trans (congrArg some (by kernel_rfl))
  f225 := Tryz.func215.trans (congrArg some (by kernel_rfl))
  f266 := Tryz.func244.trans (congrArg some (by kernel_rfl))
  f267 := Tryz.func217.trans (congrArg some (by kernel_rfl))
  f314 := Tryz.func245.trans (congrArg some (by kernel_rfl))
  t3 := Tryz.underlying3
  a3 := Tryz.isAgg3
  z3 := Tryz.sizeOf3
  v3 := Tryz.zeroValue3
  t4 := Tryz.underlying4
  a4 := Tryz.isAgg4
  z4 := Tryz.sizeOf4
  v4 := Tryz.zeroValue4
  t5 := Tryz.underlying5
  a5 := Tryz.isAgg5
  z5 := Tryz.sizeOf5
  v5 := Tryz.zeroValue5
  t9 := Tryz.underlying9
  a9 := Tryz.isAgg9
  z9 := Tryz.sizeOf9
  v9 := Tryz.zeroValue9
  t46 := Tryz.underlying162
  a46 := Tryz.isAgg162
  z46 := Tryz.sizeOf162
  v46 := Tryz.zeroValue162
  t51 := Tryz.underlying194
  a51 := Tryz.isAgg194
  z51 := Tryz.sizeOf194
  v51 := Tryz.zeroValue194
  t59 := Tryz.underlying154
  a59 := Tryz.isAgg154
  z59 := Tryz.sizeOf154
  v59 := Tryz.zeroValue154
  t146 := Tryz.underlying195
  a146 := Tryz.isAgg195
  z146 := Tryz.sizeOf195
  v146 := Tryz.zeroValue195
  g1 := by kernel_rfl }
open Go.RowKit Go.Lib in
/-- strings.Cut: "Cut slices s around the first instance of sep, returning the text before and after sep. The found result reports whether sep appears in s. If sep does not appear in s, cut returns s, "", false.": IT RETURNS 'Lib.cut s sep'; the world is as it was but for the count of draws. (LAID: no walk: one application.) -/
theorem Tryz.strings_Cut (s sep : ByteArray) (m : Int) (w : World) (hs : s.size < 4294967281) (hm : w.cell? ⟨2, 0, none⟩ = some (.int .i64 m)) :
    Calls Tryz.prog 148 #[.string s, .string sep] w fun e w' => e = .returned (.tuple #[.string ⟨(Lib.cut s.data.toList sep.data.toList).1.toArray⟩, .string ⟨(Lib.cut s.data.toList sep.data.toList).2.1.toArray⟩, .bool (Lib.cut s.data.toList sep.data.toList).2.2]) ∧ ∃ n, w' = w.drewN n := Any.strings_Cut Tryz.lays145 s sep m w hs hm
open Go.RowKit Go.Lib in
def Tryz.lays105_ren : Go.Shelf.Ren := ⟨fun | 105 => 77 | 212 => 152 | 99 => 153 | 165 => 154 | 166 => 150 | 170 => 149 | 169 => 151 | 263 => 191 | 264 => 192 | 206 => 193 | 240 => 190 | 241 => 194 | 276 => 218 | 277 => 219 | n => n, fun | 9 => 9 | 3 => 3 | 4 => 4 | 20 => 20 | 0 => 0 | 46 => 162 | 109 => 163 | 5 => 5 | 72 => 153 | 76 => 159 | 51 => 194 | 146 => 195 | 53 => 119 | 148 => 177 | 70 => 151 | 37 => 61 | 75 => 158 | 127 => 193 | 164 => 220 | 80 => 161 | n => n, fun | n => n⟩
theorem Tryz.lays105 : Go.Proofs.Lays.n105 Tryz.prog Tryz.lays105_ren := {
  mixed := by kernel_rfl
  f99 := Tryz.func153.trans (congrArg some (by kernel_rfl))
  f105 := Tryz.func77.trans (congrArg some (by kernel_rfl))
  f165 := Tryz.func154.trans (congrArg some (by kernel_rfl))
  f166 := Tryz.func150.trans (congrArg some (by kernel_rfl))
  f169 := Tryz.func151.trans (congrArg some (by kernel_rfl))
  f170 := Tryz.func149.trans (congrArg some (by kernel_rfl))
  f206 := Tryz.func193.trans (congrArg some (by kernel_rfl))
  f212 := Tryz.func152.trans (congrArg some (by kernel_rfl))
  f240 := Tryz.func190.trans (congrArg some (by kernel_rfl))
  f241 := Tryz.func194.trans (congrArg some (by kernel_rfl))
  f263 := Tryz.func191.trans (congrArg some (by kernel_rfl))
  f264 := Tryz.func192.trans (congrArg some (by kernel_rfl))
  f276 := Tryz.func218.trans (congrArg some (by kernel_rfl))
  f277 := Tryz.func219.trans (congrArg some (by kernel_rfl))
  t0 := Tryz.underlying0
  a0 := Tryz.isAgg0
  z0 := Tryz.sizeOf0
  v0 := Tryz.zeroValue0
  t3 := Tryz.underlying3
  a3 := Tryz.isAgg3
  z3 := Tryz.sizeOf3
  v3 := Tryz.zeroValue3
  t4 := Tryz.underlying4
  a4 := Tryz.isAgg4
  z4 := Tryz.sizeOf4
  v4 := Tryz.zeroValue4
  t5 := Tryz.underlying5
  a5 := Tryz.isAgg5
  z5 := Tryz.sizeOf5
  v5 := Tryz.zeroValue5
  t9 := Tryz.underlying9
  a9 := Tryz.isAgg9
  z9 := Tryz.sizeOf9
  v9 := Tryz.zeroValue9
  t20 := Tryz.underlying20
  a20 := Tryz.isAgg20
  z20 := Tryz.sizeOf20
  v20 := Tryz.zeroValue20
  t37 := Tryz.underlying61
  a37 := Tryz.isAgg61
  z37 := Tryz.sizeOf61
  v37 := Tryz.zeroValue61
  t46 := Tryz.underlying162
  a46 := Tryz.isAgg162
  z46 := Tryz.sizeOf162
  v46 := Tryz.zeroValue162
  t51 := Tryz.underlying194
  a51 := Tryz.isAgg194
  z51 := Tryz.sizeOf194
  v51 := Tryz.zeroValue194
  t53 := Tryz.underlying119
  a53 := Tryz.isAgg119
  z53 := Tryz.sizeOf119
  v53 := Tryz.zeroValue119
  t70 := Tryz.underlying151
  a70 := Tryz.isAgg151
  z70 := Tryz.sizeOf151
  v70 := Tryz.zeroValue151
  t72 := Tryz.underlying153
  a72 := Tryz.isAgg153
  z72 := Tryz.sizeOf153
  v72 := Tryz.zeroValue153
  t75 := Tryz.underlying158
  a75 := Tryz.isAgg158
  z75 := Tryz.sizeOf158
  v75 := Tryz.zeroValue158
  t76 := Tryz.underlying159
  a76 := Tryz.isAgg159
  z76 := Tryz.sizeOf159
  v76 := Tryz.zeroValue159
  t109 := Tryz.underlying163
  a109 := Tryz.isAgg163
  z109 := Tryz.sizeOf163
  v109 := Tryz.zeroValue163
  t127 := Tryz.underlying193
  a127 := Tryz.isAgg193
  z127 := Tryz.sizeOf193
  v127 := Tryz.zeroValue193
  t146 := Tryz.underlying195
  a146 := Tryz.isAgg195
  z146 := Tryz.sizeOf195
  v146 := Tryz.zeroValue195
  t148 := Tryz.underlying177
  a148 := Tryz.isAgg177
  z148 := Tryz.sizeOf177
  v148 := Tryz.zeroValue177
  t164 := Tryz.underlying220
  a164 := Tryz.isAgg220
  z164 := Tryz.sizeOf220
  v164 := Tryz.zeroValue220 }
theorem Tryz.Builder_Extra_105 : Builder.Extra Tryz.prog Tryz.lays105_ren := {
  sizeBuilder := by kernel_rfl
  liesBuilder := by kernel_rfl
  t5 := Tryz.underlying5
  a5 := Tryz.isAgg5
  z5 := Tryz.sizeOf5
  v5 := Tryz.zeroValue5
  infoByte := by kernel_rfl
  cellsByte := by kernel_rfl
  sizeByte := by kernel_rfl
  neB5 := by decide }
open Go.RowKit Go.Lib in
/-- **strings.Repeat: count ≥ 0, the result within one allocation: count copies of s.** (LAID: no walk: one application.) -/
theorem Tryz.strings_Repeat (s : ByteArray) (c : Nat) (w : World) (hc : c ≤ 9223372036854775807) (hlen : s.size * c ≤ 140737488355328) :
    Calls Tryz.prog 77 #[.string s, .int .i64 c] w fun e w' => e = .returned (.string ⟨(Lib.repeatL s.data.toList c).toArray⟩) ∧ Below w.heap.size w w' := Any.strings_Repeat Tryz.lays105 Tryz.Builder_Extra_105 s c w hc hlen
end Go.Proofs
