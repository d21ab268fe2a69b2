/-
  Contracts of Go's library at this seat's translation, laid by the kit's own command in its plain mode.
-/
import Derived.Test.YtiekhbagpmnboaaGreatDoorProg
import Derived.Shelf.Strings.Builder1
import Derived.Shelf.Strings.Trim
import Derived.Shelf.Small.Utf8
import Derived.Shelf.Small.Strs
import Derived.Shelf.Small.Wraps
import Derived.Shelf.Strings.BuilderF
import Derived.Shelf.Strings.BuilderK
import Derived.Shelf.Strconv.Itoa0
import Derived.Shelf.Strconv.Itoa1
import Derived.Shelf.LaysM
import Derived.Shelf.Strconv.Itoa2
import Derived.Shelf.Strconv.Itoa3
import Derived.Ground.MpProg
import Derived.Shelf.Pu.ParseUintPublic10
import Derived.Shelf.Strings.Search1
import Derived.Shelf.Strings.Search2
import Derived.Shelf.Strings.Cut
import Derived.Shelf.Strings.Shaped
import Derived.Shelf.Strings.Prefix
import Derived.Shelf.Strings.Runes
import Derived.Shelf.Strings.AsciiSet
import Derived.Shelf.Unicode.DecodeSlow
namespace Go.Proofs
open Go.Shelf
def Tryz.lays161_ren : Go.Shelf.Ren := ⟨fun | 161 => 20 | 231 => 40 | 227 => 41 | 233 => 42 | 235 => 43 | 228 => 73 | 197 => 74 | 151 => 75 | 260 => 102 | 152 => 103 | 137 => 86 | 119 => 123 | 224 => 124 | 225 => 125 | 217 => 109 | 266 => 137 | n => n, fun | 9 => 9 | 4 => 4 | 3 => 3 | 5 => 5 | 117 => 86 | 116 => 85 | 0 => 0 | 124 => 89 | 105 => 117 | 21 => 21 | 119 => 151 | 46 => 152 | 139 => 155 | 138 => 154 | n => n, fun | 3 => 0 | 4 => 1 | n => n⟩
theorem Tryz.lays161 : Go.Proofs.Lays.n161 Tryz.prog Tryz.lays161_ren := {
  mixed := by kernel_rfl
  f119 := Tryz.func123.trans (congrArg some (by kernel_rfl))
  f137 := Tryz.func86.trans (congrArg some (by kernel_rfl))
  f151 := Tryz.func75.trans (congrArg some (by kernel_rfl))
  f152 := Tryz.func103.trans (congrArg some (by kernel_rfl))
  f161 := Tryz.func20.trans (congrArg some (by kernel_rfl))
  f197 := Tryz.func74.trans (congrArg some (by kernel_rfl))
  f217 := Tryz.func109.trans (congrArg some (by kernel_rfl))
  f224 := Tryz.func124.trans (congrArg some (by kernel_rfl))
  f225 := Tryz.func125.trans (congrArg some (by kernel_rfl))
  f227 := Tryz.func41.trans (congrArg some (by kernel_rfl))
  f228 := Tryz.func73.trans (congrArg some (by kernel_rfl))
  f231 := Tryz.func40.trans (congrArg some (by kernel_rfl))
  f233 := Tryz.func42.trans (congrArg some (by kernel_rfl))
  f235 := Tryz.func43.trans (congrArg some (by kernel_rfl))
  f260 := Tryz.func102.trans (congrArg some (by kernel_rfl))
  f266 := Tryz.func137.trans (congrArg some (by kernel_rfl))
  t0 := Tryz.underlying0
  a0 := Tryz.isAgg0
  z0 := Tryz.sizeOf0
  v0 := Tryz.zeroValue0
  t3 := Tryz.underlying3
  a3 := Tryz.isAgg3
  z3 := Tryz.sizeOf3
  v3 := Tryz.zeroValue3
  t4 := Tryz.underlying4
  a4 := Tryz.isAgg4
  z4 := Tryz.sizeOf4
  v4 := Tryz.zeroValue4
  t5 := Tryz.underlying5
  a5 := Tryz.isAgg5
  z5 := Tryz.sizeOf5
  v5 := Tryz.zeroValue5
  t9 := Tryz.underlying9
  a9 := Tryz.isAgg9
  z9 := Tryz.sizeOf9
  v9 := Tryz.zeroValue9
  t21 := Tryz.underlying21
  a21 := Tryz.isAgg21
  z21 := Tryz.sizeOf21
  v21 := Tryz.zeroValue21
  t46 := Tryz.underlying152
  a46 := Tryz.isAgg152
  z46 := Tryz.sizeOf152
  v46 := Tryz.zeroValue152
  t105 := Tryz.underlying117
  a105 := Tryz.isAgg117
  z105 := Tryz.sizeOf117
  v105 := Tryz.zeroValue117
  t116 := Tryz.underlying85
  a116 := Tryz.isAgg85
  z116 := Tryz.sizeOf85
  t117 := Tryz.underlying86
  a117 := Tryz.isAgg86
  z117 := Tryz.sizeOf86
  v117 := Tryz.zeroValue86
  t119 := Tryz.underlying151
  a119 := Tryz.isAgg151
  z119 := Tryz.sizeOf151
  t124 := Tryz.underlying89
  a124 := Tryz.isAgg89
  z124 := Tryz.sizeOf89
  v124 := Tryz.zeroValue89
  t138 := Tryz.underlying154
  a138 := Tryz.isAgg154
  z138 := Tryz.sizeOf154
  v138 := Tryz.zeroValue154
  t139 := Tryz.underlying155
  a139 := Tryz.isAgg155
  z139 := Tryz.sizeOf155
  v139 := Tryz.zeroValue155
  g3 := by kernel_rfl
  g4 := by kernel_rfl }
def Tryz.lays160_ren : Go.Shelf.Ren := ⟨fun | 160 => 104 | 232 => 126 | 231 => 40 | 227 => 41 | 234 => 127 | 233 => 42 | 236 => 128 | 235 => 43 | 228 => 73 | 271 => 144 | 151 => 75 | 197 => 74 | 120 => 149 | 152 => 103 | 260 => 102 | 137 => 86 | 119 => 123 | 224 => 124 | 225 => 125 | 217 => 109 | 266 => 137 | n => n, fun | 9 => 9 | 4 => 4 | 3 => 3 | 5 => 5 | 117 => 86 | 116 => 85 | 0 => 0 | 124 => 89 | 21 => 21 | 105 => 117 | 46 => 152 | 119 => 151 | 139 => 155 | 138 => 154 | n => n, fun | 3 => 0 | 4 => 1 | n => n⟩
theorem Tryz.lays160 : Go.Proofs.Lays.n160 Tryz.prog Tryz.lays160_ren := {
  mixed := by kernel_rfl
  f119 := Tryz.func123.trans (congrArg some (by kernel_rfl))
  f120 := Tryz.func149.trans (congrArg some (by kernel_rfl))
  f137 := Tryz.func86.trans (congrArg some (by kernel_rfl))
  f151 := Tryz.func75.trans (congrArg some (by kernel_rfl))
  f152 := Tryz.func103.trans (congrArg some (by kernel_rfl))
  f160 := Tryz.func104.trans (congrArg some (by kernel_rfl))
  f197 := Tryz.func74.trans (congrArg some (by kernel_rfl))
  f217 := Tryz.func109.trans (congrArg some (by kernel_rfl))
  f224 := Tryz.func124.trans (congrArg some (by kernel_rfl))
  f225 := Tryz.func125.trans (congrArg some (by kernel_rfl))
  f227 := Tryz.func41.trans (congrArg some (by kernel_rfl))
  f228 := Tryz.func73.trans (congrArg some (by kernel_rfl))
  f231 := Tryz.func40.trans (congrArg some (by kernel_rfl))
  f232 := Tryz.func126.trans (congrArg some (by kernel_rfl))
  f233 := Tryz.func42.trans (congrArg some (by kernel_rfl))
  f234 := Tryz.func127.trans (congrArg some (by kernel_rfl))
  f235 := Tryz.func43.trans (congrArg some (by kernel_rfl))
  f236 := Tryz.func128.trans (congrArg some (by kernel_rfl))
  f260 := Tryz.func102.trans (congrArg some (by kernel_rfl))
  f266 := Tryz.func137.trans (congrArg some (by kernel_rfl))
  f271 := Tryz.func144.trans (congrArg some (by kernel_rfl))
  t0 := Tryz.underlying0
  a0 := Tryz.isAgg0
  z0 := Tryz.sizeOf0
  v0 := Tryz.zeroValue0
  t3 := Tryz.underlying3
  a3 := Tryz.isAgg3
  z3 := Tryz.sizeOf3
  v3 := Tryz.zeroValue3
  t4 := Tryz.underlying4
  a4 := Tryz.isAgg4
  z4 := Tryz.sizeOf4
  v4 := Tryz.zeroValue4
  t5 := Tryz.underlying5
  a5 := Tryz.isAgg5
  z5 := Tryz.sizeOf5
  v5 := Tryz.zeroValue5
  t9 := Tryz.underlying9
  a9 := Tryz.isAgg9
  z9 := Tryz.sizeOf9
  v9 := Tryz.zeroValue9
  t21 := Tryz.underlying21
  a21 := Tryz.isAgg21
  z21 := Tryz.sizeOf21
  v21 := Tryz.zeroValue21
  t46 := Tryz.underlying152
  a46 := Tryz.isAgg152
  z46 := Tryz.sizeOf152
  v46 := Tryz.zeroValue152
  t105 := Tryz.underlying117
  a105 := Tryz.isAgg117
  z105 := Tryz.sizeOf117
  v105 := Tryz.zeroValue117
  t116 := Tryz.underlying85
  a116 := Tryz.isAgg85
  z116 := Tryz.sizeOf85
  t117 := Tryz.underlying86
  a117 := Tryz.isAgg86
  z117 := Tryz.sizeOf86
  v117 := Tryz.zeroValue86
  t119 := Tryz.underlying151
  a119 := Tryz.isAgg151
  z119 := Tryz.sizeOf151
  t124 := Tryz.underlying89
  a124 := Tryz.isAgg89
  z124 := Tryz.sizeOf89
  v124 := Tryz.zeroValue89
  t138 := Tryz.underlying154
  a138 := Tryz.isAgg154
  z138 := Tryz.sizeOf154
  v138 := Tryz.zeroValue154
  t139 := Tryz.underlying155
  a139 := Tryz.isAgg155
  z139 := Tryz.sizeOf155
  v139 := Tryz.zeroValue155
  g3 := by kernel_rfl
  g4 := by kernel_rfl }
def Tryz.lays137_ren : Go.Shelf.Ren := ⟨fun | 137 => 86 | 217 => 109 | 266 => 137 | n => n, fun | 9 => 9 | 5 => 5 | 3 => 3 | n => n, fun | n => n⟩
theorem Tryz.lays137 : Go.Proofs.Lays.n137 Tryz.prog Tryz.lays137_ren := {
  mixed := by kernel_rfl
  f137 := Tryz.func86.trans (congrArg some (by kernel_rfl))
  f217 := Tryz.func109.trans (congrArg some (by kernel_rfl))
  f266 := Tryz.func137.trans (congrArg some (by kernel_rfl))
  t3 := Tryz.underlying3
  a3 := Tryz.isAgg3
  z3 := Tryz.sizeOf3
  v3 := Tryz.zeroValue3
  t5 := Tryz.underlying5
  a5 := Tryz.isAgg5
  z5 := Tryz.sizeOf5
  v5 := Tryz.zeroValue5
  t9 := Tryz.underlying9
  a9 := Tryz.isAgg9
  z9 := Tryz.sizeOf9
  v9 := Tryz.zeroValue9 }
open Go.RowKit in
/-- strings.IndexByte: "IndexByte returns the index of the first instance of c in s, or -1 if c is not present in s.": IT RETURNS 'Lib.indexByte s c'; the world is as it was. (LAID: no walk: one application.) -/
theorem Tryz.strings_IndexByte (s : ByteArray) (c : Int) (w : World) :
    Calls Tryz.prog 86 #[.string s, .int .u8 c] w fun e w' => e = .returned (.int .i64 (Lib.indexByte s.data.toList c.toNat.toUInt8)) ∧ w' = w := Any.strings_IndexByte Tryz.lays137 s c w
def Tryz.lays103_ren : Go.Shelf.Ren := ⟨fun | 103 => 19 | 210 => 39 | 206 => 72 | n => n, fun | 9 => 9 | 4 => 4 | 24 => 55 | 3 => 3 | n => n, fun | n => n⟩
theorem Tryz.lays103 : Go.Proofs.Lays.n103 Tryz.prog Tryz.lays103_ren := {
  mixed := by kernel_rfl
  f103 := Tryz.func19.trans (congrArg some (by kernel_rfl))
  f206 := Tryz.func72.trans (congrArg some (by kernel_rfl))
  f210 := Tryz.func39.trans (congrArg some (by kernel_rfl))
  t3 := Tryz.underlying3
  a3 := Tryz.isAgg3
  z3 := Tryz.sizeOf3
  v3 := Tryz.zeroValue3
  t4 := Tryz.underlying4
  a4 := Tryz.isAgg4
  z4 := Tryz.sizeOf4
  v4 := Tryz.zeroValue4
  t9 := Tryz.underlying9
  a9 := Tryz.isAgg9
  z9 := Tryz.sizeOf9
  v9 := Tryz.zeroValue9
  t24 := Tryz.underlying55
  a24 := Tryz.isAgg55
  z24 := Tryz.sizeOf55
  v24 := Tryz.zeroValue55 }
open Go.RowKit in
/-- strings.CutPrefix: "CutPrefix returns s without the provided leading prefix string and reports whether it found the prefix. If s doesn't start with prefix, CutPrefix returns s, false. If prefix is the empty string, CutPrefix returns s, true.": IT RETURNS '(Lib.trimPrefix s p, Lib.hasPrefix s p)'; the world is as it was. (LAID: no walk: one application.) -/
theorem Tryz.strings_CutPrefix (s p : ByteArray) (w : World) :
    Calls Tryz.prog 19 #[.string s, .string p] w fun e w' => e = .returned (.tuple #[.string ⟨(Lib.trimPrefix s.data.toList p.data.toList).toArray⟩, .bool (Lib.hasPrefix s.data.toList p.data.toList)]) ∧ w' = w := Any.strings_CutPrefix Tryz.lays103 s p w
open Go.Lib in
open Go.Lib in
open Go.RowKit Go.Sort Go.Lib in
def Tryz.laysPu14_ren : Go.Shelf.Ren := ⟨fun | 14 => 77 | 16 => 105 | 17 => 106 | 19 => 129 | 20 => 130 | 21 => 131 | 22 => 132 | 23 => 133 | 24 => 134 | 25 => 145 | 27 => 147 | 26 => 146 | 28 => 150 | 29 => 151 | 30 => 152 | 31 => 153 | 32 => 154 | 33 => 155 | 35 => 157 | 34 => 156 | 36 => 158 | 37 => 159 | 38 => 160 | 39 => 161 | 40 => 162 | n => n, fun | 9 => 9 | 3 => 3 | 22 => 120 | 24 => 122 | 25 => 123 | 4 => 4 | 34 => 157 | 5 => 5 | 36 => 152 | 37 => 128 | 0 => 0 | 39 => 159 | 21 => 21 | 44 => 169 | 47 => 146 | 50 => 176 | 48 => 174 | 2 => 2 | 52 => 178 | 55 => 181 | 59 => 184 | 60 => 171 | 20 => 20 | 61 => 185 | 65 => 189 | 66 => 190 | 67 => 131 | n => n, fun | 0 => 3 | 1 => 4 | 2 => 5 | 3 => 6 | 4 => 7 | n => n⟩
theorem Tryz.laysPu14 : Go.Proofs.LaysPu.n14 Tryz.prog Tryz.laysPu14_ren := {
  mixed := by kernel_rfl
  f14 := Tryz.func77.trans (congrArg some (by kernel_rfl))
  f16 := Tryz.func105.trans (congrArg some (by kernel_rfl))
  f17 := Tryz.func106.trans (congrArg some (by kernel_rfl))
  f19 := Tryz.func129.trans (congrArg some (by kernel_rfl))
  f20 := Tryz.func130.trans (congrArg some (by kernel_rfl))
  f21 := Tryz.func131.trans (congrArg some (by kernel_rfl))
  f22 := Tryz.func132.trans (congrArg some (by kernel_rfl))
  f23 := Tryz.func133.trans (congrArg some (by kernel_rfl))
  f24 := Tryz.func134.trans (congrArg some (by kernel_rfl))
  f25 := Tryz.func145.trans (congrArg some (by kernel_rfl))
  f26 := Tryz.func146.trans (congrArg some (by kernel_rfl))
  f27 := Tryz.func147.trans (congrArg some (by kernel_rfl))
  f28 := Tryz.func150.trans (congrArg some (by kernel_rfl))
  f29 := Tryz.func151.trans (congrArg some (by kernel_rfl))
  f30 := Tryz.func152.trans (congrArg some (by kernel_rfl))
  f31 := Tryz.func153.trans (congrArg some (by kernel_rfl))
  f32 := Tryz.func154.trans (congrArg some (by kernel_rfl))
  f33 := Tryz.func155.trans (congrArg some (by kernel_rfl))
  f34 := Tryz.func156.trans (congrArg some (by kernel_rfl))
  f35 := Tryz.func157.trans (congrArg some (by kernel_rfl))
  f36 := Tryz.func158.trans (congrArg some (by kernel_rfl))
  f37 := Tryz.func159.trans (congrArg some (by kernel_rfl))
  f38 := Tryz.func160.trans (congrArg some (by kernel_rfl))
  f39 := Tryz.func161.trans (congrArg some (by kernel_rfl))
  f40 := Tryz.func162.trans (congrArg some (by kernel_rfl))
  t0 := Tryz.underlying0
  a0 := Tryz.isAgg0
  z0 := Tryz.sizeOf0
  v0 := Tryz.zeroValue0
  i0 := by kernel_rfl
  t2 := Tryz.underlying2
  a2 := Tryz.isAgg2
  z2 := Tryz.sizeOf2
  v2 := Tryz.zeroValue2
  i2 := by kernel_rfl
  t3 := Tryz.underlying3
  a3 := Tryz.isAgg3
  z3 := Tryz.sizeOf3
  v3 := Tryz.zeroValue3
  i3 := by kernel_rfl
  t4 := Tryz.underlying4
  a4 := Tryz.isAgg4
  z4 := Tryz.sizeOf4
  v4 := Tryz.zeroValue4
  i4 := by kernel_rfl
  t5 := Tryz.underlying5
  a5 := Tryz.isAgg5
  z5 := Tryz.sizeOf5
  v5 := Tryz.zeroValue5
  i5 := by kernel_rfl
  t9 := Tryz.underlying9
  a9 := Tryz.isAgg9
  z9 := Tryz.sizeOf9
  v9 := Tryz.zeroValue9
  i9 := by kernel_rfl
  t20 := Tryz.underlying20
  a20 := Tryz.isAgg20
  z20 := Tryz.sizeOf20
  v20 := Tryz.zeroValue20
  i20 := by kernel_rfl
  t21 := Tryz.underlying21
  a21 := Tryz.isAgg21
  z21 := Tryz.sizeOf21
  v21 := Tryz.zeroValue21
  i21 := by kernel_rfl
  t22 := Tryz.underlying120
  a22 := Tryz.isAgg120
  z22 := Tryz.sizeOf120
  v22 := Tryz.zeroValue120
  i22 := by kernel_rfl
  t24 := Tryz.underlying122
  a24 := Tryz.isAgg122
  z24 := Tryz.sizeOf122
  v24 := Tryz.zeroValue122
  i24 := by kernel_rfl
  t25 := Tryz.underlying123
  a25 := Tryz.isAgg123
  z25 := Tryz.sizeOf123
  v25 := Tryz.zeroValue123
  i25 := by kernel_rfl
  t34 := Tryz.underlying157
  a34 := Tryz.isAgg157
  z34 := Tryz.sizeOf157
  v34 := Tryz.zeroValue157
  i34 := by kernel_rfl
  c34 := by kernel_rfl
  t36 := Tryz.underlying152
  a36 := Tryz.isAgg152
  z36 := Tryz.sizeOf152
  v36 := Tryz.zeroValue152
  i36 := by kernel_rfl
  t37 := Tryz.underlying128
  a37 := Tryz.isAgg128
  z37 := Tryz.sizeOf128
  v37 := Tryz.zeroValue128
  i37 := by kernel_rfl
  t39 := Tryz.underlying159
  a39 := Tryz.isAgg159
  z39 := Tryz.sizeOf159
  v39 := Tryz.zeroValue159
  i39 := by kernel_rfl
  t44 := Tryz.underlying169
  a44 := Tryz.isAgg169
  z44 := Tryz.sizeOf169
  v44 := Tryz.zeroValue169
  i44 := by kernel_rfl
  t47 := Tryz.underlying146
  a47 := Tryz.isAgg146
  z47 := Tryz.sizeOf146
  v47 := Tryz.zeroValue146
  i47 := by kernel_rfl
  t48 := Tryz.underlying174
  a48 := Tryz.isAgg174
  z48 := Tryz.sizeOf174
  v48 := Tryz.zeroValue174
  i48 := by kernel_rfl
  t50 := Tryz.underlying176
  a50 := Tryz.isAgg176
  z50 := Tryz.sizeOf176
  v50 := Tryz.zeroValue176
  i50 := by kernel_rfl
  t52 := Tryz.underlying178
  a52 := Tryz.isAgg178
  z52 := Tryz.sizeOf178
  v52 := Tryz.zeroValue178
  i52 := by kernel_rfl
  t55 := Tryz.underlying181
  a55 := Tryz.isAgg181
  z55 := Tryz.sizeOf181
  v55 := Tryz.zeroValue181
  i55 := by kernel_rfl
  t59 := Tryz.underlying184
  a59 := Tryz.isAgg184
  z59 := Tryz.sizeOf184
  v59 := Tryz.zeroValue184
  i59 := by kernel_rfl
  t60 := Tryz.underlying171
  a60 := Tryz.isAgg171
  z60 := Tryz.sizeOf171
  v60 := Tryz.zeroValue171
  i60 := by kernel_rfl
  t61 := Tryz.underlying185
  a61 := Tryz.isAgg185
  z61 := Tryz.sizeOf185
  t65 := Tryz.underlying189
  a65 := Tryz.isAgg189
  z65 := Tryz.sizeOf189
  v65 := Tryz.zeroValue189
  i65 := by kernel_rfl
  t66 := Tryz.underlying190
  a66 := Tryz.isAgg190
  z66 := Tryz.sizeOf190
  v66 := Tryz.zeroValue190
  i66 := by kernel_rfl
  t67 := Tryz.underlying131
  a67 := Tryz.isAgg131
  z67 := Tryz.sizeOf131
  v67 := Tryz.zeroValue131
  i67 := by kernel_rfl
  g0 := by kernel_rfl
  m0 := by kernel_rfl
  g1 := by kernel_rfl
  m1 := by kernel_rfl
  g2 := by kernel_rfl
  m2 := by kernel_rfl
  g3 := by kernel_rfl
  m3 := by kernel_rfl
  g4 := by kernel_rfl
  m4 := by kernel_rfl }
open Go.RowKit in
/-- strconv.ParseUint(s, 10, 64), AT EVERY STRING THAT SPELLS A uint64 ('Lib.parseUintB 64 s.data.toList = .ok u'): u, AND NO ERROR. (LAID: no walk: one application.) -/
theorem Tryz.strconv_ParseUint_10_at64_ok (s : ByteArray) (hmax : s.size ≤ 9223372036854775806) (u : Nat) (h : Lib.parseUintB 64 s.data.toList = .ok u) (w : World) :
    Calls Tryz.prog 77 #[.string s, .int .i64 10, .int .i64 64] w fun e w' => e = .returned (.tuple #[.int .u64 u, .nilIface]) ∧ (w' = w ∨ w' = Lib.bytesWorld w 5 s) := Any.strconv_ParseUint_10_at64_ok Tryz.laysPu14 s hmax u h w
def Tryz.lays219_ren : Go.Shelf.Ren := ⟨fun | 219 => 108 | 217 => 109 | 225 => 125 | 224 => 124 | 267 => 136 | 266 => 137 | 314 => 148 | n => n, fun | 9 => 9 | 3 => 3 | 4 => 4 | 5 => 5 | 46 => 152 | 146 => 172 | 51 => 171 | n => n, fun | 1 => 2 | n => n⟩
theorem Tryz.lays219 : Go.Proofs.Lays.n219 Tryz.prog Tryz.lays219_ren := {
  mixed := by kernel_rfl
  f217 := Tryz.func109.trans (congrArg some (by kernel_rfl))
  f219 := Tryz.func108.trans (congrArg some (by kernel_rfl))
  f224 := Tryz.func124.trans (congrArg some (by kernel_rfl))
  f225 := Tryz.func125.trans (congrArg some (by kernel_rfl))
  f266 := Tryz.func137.trans (congrArg some (by kernel_rfl))
  f267 := Tryz.func136.trans (congrArg some (by kernel_rfl))
  f314 := Tryz.func148.trans (congrArg some (by kernel_rfl))
  t3 := Tryz.underlying3
  a3 := Tryz.isAgg3
  z3 := Tryz.sizeOf3
  v3 := Tryz.zeroValue3
  t4 := Tryz.underlying4
  a4 := Tryz.isAgg4
  z4 := Tryz.sizeOf4
  v4 := Tryz.zeroValue4
  t5 := Tryz.underlying5
  a5 := Tryz.isAgg5
  z5 := Tryz.sizeOf5
  v5 := Tryz.zeroValue5
  t9 := Tryz.underlying9
  a9 := Tryz.isAgg9
  z9 := Tryz.sizeOf9
  v9 := Tryz.zeroValue9
  t46 := Tryz.underlying152
  a46 := Tryz.isAgg152
  z46 := Tryz.sizeOf152
  v46 := Tryz.zeroValue152
  t51 := Tryz.underlying171
  a51 := Tryz.isAgg171
  z51 := Tryz.sizeOf171
  v51 := Tryz.zeroValue171
  t146 := Tryz.underlying172
  a146 := Tryz.isAgg172
  z146 := Tryz.sizeOf172
  v146 := Tryz.zeroValue172
  g1 := by kernel_rfl }
open Go.RowKit Go.Lib in
/-- internal/stringslite.Index (what strings.Index calls) AT A substr OF ONE BYTE c: IT RETURNS 'Lib.indexByte s c'; the world is as it was. (LAID: no walk: one application.) -/
theorem Tryz.stringslite_Index_one (s : ByteArray) (c : UInt8) (w : World) :
    Calls Tryz.prog 108 #[.string s, .string ⟨#[c]⟩] w fun e w' => e = .returned (.int .i64 (Lib.indexByte s.data.toList c)) ∧ w' = w := Any.stringslite_Index_one Tryz.lays219 s c w
def Tryz.lays99_ren : Go.Shelf.Ren := ⟨fun | 99 => 85 | 206 => 72 | n => n, fun | 9 => 9 | 4 => 4 | 3 => 3 | n => n, fun | n => n⟩
theorem Tryz.lays99 : Go.Proofs.Lays.n99 Tryz.prog Tryz.lays99_ren := {
  mixed := by kernel_rfl
  f99 := Tryz.func85.trans (congrArg some (by kernel_rfl))
  f206 := Tryz.func72.trans (congrArg some (by kernel_rfl))
  t3 := Tryz.underlying3
  a3 := Tryz.isAgg3
  z3 := Tryz.sizeOf3
  v3 := Tryz.zeroValue3
  t4 := Tryz.underlying4
  a4 := Tryz.isAgg4
  z4 := Tryz.sizeOf4
  v4 := Tryz.zeroValue4
  t9 := Tryz.underlying9
  a9 := Tryz.isAgg9
  z9 := Tryz.sizeOf9
  v9 := Tryz.zeroValue9 }
open Go.RowKit Go.Lib in
/-- strings.HasPrefix: "HasPrefix reports whether the string s begins with prefix.": IT RETURNS 'Lib.hasPrefix s prefix'; the world is as it was. (LAID: no walk: one application.) -/
theorem Tryz.strings_HasPrefix (s p : ByteArray) (w : World) :
    Calls Tryz.prog 85 #[.string s, .string p] w fun e w' => e = .returned (.bool (Lib.hasPrefix s.data.toList p.data.toList)) ∧ w' = w := Any.strings_HasPrefix Tryz.lays99 s p w
end Go.Proofs
