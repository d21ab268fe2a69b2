/-
  Contracts of Go's library at this seat's translation, laid by the kit's own command in its plain mode.
-/
import Derived.Shelf.Strings.Trim
import Derived.Shelf.Small.Utf8
import Derived.Shelf.Small.Bits
import Derived.Shelf.Small.Strs
import Derived.Shelf.Small.Wraps
import Derived.Shelf.Strconv.Itoa0
import Derived.Shelf.Strconv.Itoa1
import Derived.Shelf.LaysM
import Derived.Shelf.Strconv.Itoa2
import Derived.Ground.MpProg
import Derived.Shelf.Pu.ParseUintPublic10
import Derived.Shelf.Strings.Search1
import Derived.Shelf.Strings.Search2
import Derived.Shelf.Strings.Cut
import Derived.Shelf.Strings.Shaped
import Derived.Shelf.Strings.Prefix
import Derived.Shelf.Strings.Runes
import Derived.Shelf.Strings.AsciiSet
import Derived.Shelf.Bits.Mul64
import Derived.Shelf.Unicode.DecodeSlow
import Derived.Test.YtjnjklcnccfgaaaDoorProg
namespace Go.Proofs
open Go.Shelf
def Tryd.lays162_ren : Go.Shelf.Ren := ⟨fun | 162 => 94 | 232 => 118 | 227 => 119 | 234 => 120 | 236 => 121 | 228 => 143 | 271 => 144 | 151 => 145 | 120 => 159 | 197 => 151 | 152 => 160 | 260 => 163 | 137 => 167 | 119 => 168 | 224 => 149 | 225 => 148 | 217 => 147 | 266 => 161 | n => n, fun | 9 => 9 | 4 => 4 | 3 => 3 | 5 => 5 | 117 => 110 | 116 => 109 | 0 => 0 | 124 => 113 | 21 => 21 | 105 => 127 | 46 => 94 | 119 => 150 | 139 => 153 | 138 => 152 | n => n, fun | 3 => 6 | 4 => 7 | n => n⟩
theorem Tryd.lays162 : Go.Proofs.Lays.n162 Tryd.prog Tryd.lays162_ren := {
  mixed := by kernel_rfl
  f119 := Tryd.func168.trans (congrArg some (by kernel_rfl))
  f120 := Tryd.func159.trans (congrArg some (by kernel_rfl))
  f137 := Tryd.func167.trans (congrArg some (by kernel_rfl))
  f151 := Tryd.func145.trans (congrArg some (by kernel_rfl))
  f152 := Tryd.func160.trans (congrArg some (by kernel_rfl))
  f162 := Tryd.func94.trans (congrArg some (by kernel_rfl))
  f197 := Tryd.func151.trans (congrArg some (by kernel_rfl))
  f217 := Tryd.func147.trans (congrArg some (by kernel_rfl))
  f224 := Tryd.func149.trans (congrArg some (by kernel_rfl))
  f225 := Tryd.func148.trans (congrArg some (by kernel_rfl))
  f227 := Tryd.func119.trans (congrArg some (by kernel_rfl))
  f228 := Tryd.func143.trans (congrArg some (by kernel_rfl))
  f232 := Tryd.func118.trans (congrArg some (by kernel_rfl))
  f234 := Tryd.func120.trans (congrArg some (by kernel_rfl))
  f236 := Tryd.func121.trans (congrArg some (by kernel_rfl))
  f260 := Tryd.func163.trans (congrArg some (by kernel_rfl))
  f266 := Tryd.func161.trans (congrArg some (by kernel_rfl))
  f271 := Tryd.func144.trans (congrArg some (by kernel_rfl))
  t0 := Tryd.underlying0
  a0 := Tryd.isAgg0
  z0 := Tryd.sizeOf0
  v0 := Tryd.zeroValue0
  t3 := Tryd.underlying3
  a3 := Tryd.isAgg3
  z3 := Tryd.sizeOf3
  v3 := Tryd.zeroValue3
  t4 := Tryd.underlying4
  a4 := Tryd.isAgg4
  z4 := Tryd.sizeOf4
  v4 := Tryd.zeroValue4
  t5 := Tryd.underlying5
  a5 := Tryd.isAgg5
  z5 := Tryd.sizeOf5
  v5 := Tryd.zeroValue5
  t9 := Tryd.underlying9
  a9 := Tryd.isAgg9
  z9 := Tryd.sizeOf9
  v9 := Tryd.zeroValue9
  t21 := Tryd.underlying21
  a21 := Tryd.isAgg21
  z21 := Tryd.sizeOf21
  v21 := Tryd.zeroValue21
  t46 := Tryd.underlying94
  a46 := Tryd.isAgg94
  z46 := Tryd.sizeOf94
  v46 := Tryd.zeroValue94
  t105 := Tryd.underlying127
  a105 := Tryd.isAgg127
  z105 := Tryd.sizeOf127
  v105 := Tryd.zeroValue127
  t116 := Tryd.underlying109
  a116 := Tryd.isAgg109
  z116 := Tryd.sizeOf109
  t117 := Tryd.underlying110
  a117 := Tryd.isAgg110
  z117 := Tryd.sizeOf110
  v117 := Tryd.zeroValue110
  t119 := Tryd.underlying150
  a119 := Tryd.isAgg150
  z119 := Tryd.sizeOf150
  t124 := Tryd.underlying113
  a124 := Tryd.isAgg113
  z124 := Tryd.sizeOf113
  v124 := Tryd.zeroValue113
  t138 := Tryd.underlying152
  a138 := Tryd.isAgg152
  z138 := Tryd.sizeOf152
  v138 := Tryd.zeroValue152
  t139 := Tryd.underlying153
  a139 := Tryd.isAgg153
  z139 := Tryd.sizeOf153
  v139 := Tryd.zeroValue153
  g3 := by kernel_rfl
  g4 := by kernel_rfl }
open Go.RowKit in
/-- strings.TrimRight: "TrimRight returns a slice of the string s, with all trailing Unicode code points contained in cutset removed.": AT A cutset OF ONE ASCII BYTE. The world is as it was. (LAID: no walk: one application.) -/
theorem Tryd.strings_TrimRight_one (s : ByteArray) (c : UInt8) (hc : c.toNat < 128) (w : World) (hs : s.size ≤ 9223372036854775807) :
    Calls Tryd.prog 94 #[.string s, .string ⟨#[c]⟩] w fun e w' => e = .returned (.string ⟨(Lib.trimRightB s.data.toList c).toArray⟩) ∧ w' = w := Any.strings_TrimRight_one Tryd.lays162 s c hc w hs
def Tryd.lays160_ren : Go.Shelf.Ren := ⟨fun | 160 => 113 | 232 => 118 | 231 => 130 | 227 => 119 | 234 => 120 | 233 => 131 | 236 => 121 | 235 => 132 | 228 => 143 | 271 => 144 | 151 => 145 | 197 => 151 | 120 => 159 | 152 => 160 | 260 => 163 | 137 => 167 | 119 => 168 | 224 => 149 | 225 => 148 | 217 => 147 | 266 => 161 | n => n, fun | 9 => 9 | 4 => 4 | 3 => 3 | 5 => 5 | 117 => 110 | 116 => 109 | 0 => 0 | 124 => 113 | 21 => 21 | 105 => 127 | 46 => 94 | 119 => 150 | 139 => 153 | 138 => 152 | n => n, fun | 3 => 6 | 4 => 7 | n => n⟩
theorem Tryd.lays160 : Go.Proofs.Lays.n160 Tryd.prog Tryd.lays160_ren := {
  mixed := by kernel_rfl
  f119 := Tryd.func168.trans (congrArg some (by kernel_rfl))
  f120 := Tryd.func159.trans (congrArg some (by kernel_rfl))
  f137 := Tryd.func167.trans (congrArg some (by kernel_rfl))
  f151 := Tryd.func145.trans (congrArg some (by kernel_rfl))
  f152 := Tryd.func160.trans (congrArg some (by kernel_rfl))
  f160 := Tryd.func113.trans (congrArg some (by kernel_rfl))
  f197 := Tryd.func151.trans (congrArg some (by kernel_rfl))
  f217 := Tryd.func147.trans (congrArg some (by kernel_rfl))
  f224 := Tryd.func149.trans (congrArg some (by kernel_rfl))
  f225 := Tryd.func148.trans (congrArg some (by kernel_rfl))
  f227 := Tryd.func119.trans (congrArg some (by kernel_rfl))
  f228 := Tryd.func143.trans (congrArg some (by kernel_rfl))
  f231 := Tryd.func130.trans (congrArg some (by kernel_rfl))
  f232 := Tryd.func118.trans (congrArg some (by kernel_rfl))
  f233 := Tryd.func131.trans (congrArg some (by kernel_rfl))
  f234 := Tryd.func120.trans (congrArg some (by kernel_rfl))
  f235 := Tryd.func132.trans (congrArg some (by kernel_rfl))
  f236 := Tryd.func121.trans (congrArg some (by kernel_rfl))
  f260 := Tryd.func163.trans (congrArg some (by kernel_rfl))
  f266 := Tryd.func161.trans (congrArg some (by kernel_rfl))
  f271 := Tryd.func144.trans (congrArg some (by kernel_rfl))
  t0 := Tryd.underlying0
  a0 := Tryd.isAgg0
  z0 := Tryd.sizeOf0
  v0 := Tryd.zeroValue0
  t3 := Tryd.underlying3
  a3 := Tryd.isAgg3
  z3 := Tryd.sizeOf3
  v3 := Tryd.zeroValue3
  t4 := Tryd.underlying4
  a4 := Tryd.isAgg4
  z4 := Tryd.sizeOf4
  v4 := Tryd.zeroValue4
  t5 := Tryd.underlying5
  a5 := Tryd.isAgg5
  z5 := Tryd.sizeOf5
  v5 := Tryd.zeroValue5
  t9 := Tryd.underlying9
  a9 := Tryd.isAgg9
  z9 := Tryd.sizeOf9
  v9 := Tryd.zeroValue9
  t21 := Tryd.underlying21
  a21 := Tryd.isAgg21
  z21 := Tryd.sizeOf21
  v21 := Tryd.zeroValue21
  t46 := Tryd.underlying94
  a46 := Tryd.isAgg94
  z46 := Tryd.sizeOf94
  v46 := Tryd.zeroValue94
  t105 := Tryd.underlying127
  a105 := Tryd.isAgg127
  z105 := Tryd.sizeOf127
  v105 := Tryd.zeroValue127
  t116 := Tryd.underlying109
  a116 := Tryd.isAgg109
  z116 := Tryd.sizeOf109
  t117 := Tryd.underlying110
  a117 := Tryd.isAgg110
  z117 := Tryd.sizeOf110
  v117 := Tryd.zeroValue110
  t119 := Tryd.underlying150
  a119 := Tryd.isAgg150
  z119 := Tryd.sizeOf150
  t124 := Tryd.underlying113
  a124 := Tryd.isAgg113
  z124 := Tryd.sizeOf113
  v124 := Tryd.zeroValue113
  t138 := Tryd.underlying152
  a138 := Tryd.isAgg152
  z138 := Tryd.sizeOf152
  v138 := Tryd.zeroValue152
  t139 := Tryd.underlying153
  a139 := Tryd.isAgg153
  z139 := Tryd.sizeOf153
  v139 := Tryd.zeroValue153
  g3 := by kernel_rfl
  g4 := by kernel_rfl }
open Go.RowKit in
/-- strings.Trim: "Trim returns a slice of the string s with all leading and trailing Unicode code points contained in cutset removed.": AT A cutset OF ONE ASCII BYTE. THE WORLD BEHIND IT: as it was, or (where s is not empty) with ONE DRAW MORE off the tape: the statement 'return trimLeftByte(trimRightByte(s, c), c)' draws its order of evaluation. (LAID: no walk: one application.) -/
theorem Tryd.strings_Trim_one (s : ByteArray) (c : UInt8) (hc : c.toNat < 128) (w : World) (hs : s.size ≤ 9223372036854775807) :
    Calls Tryd.prog 113 #[.string s, .string ⟨#[c]⟩] w fun e w' => e = .returned (.string ⟨(Lib.trimB s.data.toList c).toArray⟩) ∧ (w' = w ∨ w' = w.drew) := Any.strings_Trim_one Tryd.lays160 s c hc w hs
def Tryd.lays134_ren : Go.Shelf.Ren := ⟨fun | 134 => 122 | 129 => 146 | n => n, fun | 53 => 77 | 3 => 3 | 4 => 4 | 46 => 94 | 5 => 5 | 9 => 9 | n => n, fun | n => n⟩
theorem Tryd.lays134 : Go.Proofs.Lays.n134 Tryd.prog Tryd.lays134_ren := {
  mixed := by kernel_rfl
  f129 := Tryd.func146.trans (congrArg some (by kernel_rfl))
  f134 := Tryd.func122.trans (congrArg some (by kernel_rfl))
  t3 := Tryd.underlying3
  a3 := Tryd.isAgg3
  z3 := Tryd.sizeOf3
  v3 := Tryd.zeroValue3
  t4 := Tryd.underlying4
  a4 := Tryd.isAgg4
  z4 := Tryd.sizeOf4
  v4 := Tryd.zeroValue4
  t5 := Tryd.underlying5
  a5 := Tryd.isAgg5
  z5 := Tryd.sizeOf5
  v5 := Tryd.zeroValue5
  t9 := Tryd.underlying9
  a9 := Tryd.isAgg9
  z9 := Tryd.sizeOf9
  v9 := Tryd.zeroValue9
  t46 := Tryd.underlying94
  a46 := Tryd.isAgg94
  z46 := Tryd.sizeOf94
  v46 := Tryd.zeroValue94
  t53 := Tryd.underlying77
  a53 := Tryd.isAgg77
  z53 := Tryd.sizeOf77
  v53 := Tryd.zeroValue77 }
/-- bits.LeadingZeros64: "LeadingZeros64 returns the number of leading zero bits in x; the result is 64 for x == 0.": IT RETURNS '64 - Lib.bitLen x'; the world is as it was. ITS CALLEE bits.Len64 IS MET BY ITS OWN CONTRACT OFF THE SHELF (lay that first): entered in place it sends the kernel out of memory. (LAID: no walk: one application.) -/
theorem Tryd.bits_LeadingZeros64 (x : Int) (w : World) (h0 : 0 ≤ x) (h1 : x ≤ 18446744073709551615) :
    Calls Tryd.prog 122 #[.int .u64 x] w fun e w' => e = .returned (.int .i64 (64 - (Lib.bitLen x.toNat : Int))) ∧ w' = w := Any.bits_LeadingZeros64 Tryd.lays134 x w h0 h1
def Tryd.lays106_ren : Go.Shelf.Ren := ⟨fun | 106 => 79 | 213 => 110 | 265 => 127 | n => n, fun | 9 => 9 | 3 => 3 | n => n, fun | n => n⟩
theorem Tryd.lays106 : Go.Proofs.Lays.n106 Tryd.prog Tryd.lays106_ren := {
  mixed := by kernel_rfl
  f106 := Tryd.func79.trans (congrArg some (by kernel_rfl))
  f213 := Tryd.func110.trans (congrArg some (by kernel_rfl))
  f265 := Tryd.func127.trans (congrArg some (by kernel_rfl))
  t3 := Tryd.underlying3
  a3 := Tryd.isAgg3
  z3 := Tryd.sizeOf3
  v3 := Tryd.zeroValue3
  t9 := Tryd.underlying9
  a9 := Tryd.isAgg9
  z9 := Tryd.sizeOf9
  v9 := Tryd.zeroValue9 }
open Go.RowKit in
/-- strings.Compare: "Compare returns an integer comparing two strings lexicographically. The result will be 0 if a == b, -1 if a < b, and +1 if a > b.": IT RETURNS 'Lib.compareBytes a b'; the world is as it was. (LAID: no walk: one application.) -/
theorem Tryd.strings_Compare (a b : ByteArray) (w : World) :
    Calls Tryd.prog 79 #[.string a, .string b] w fun e w' => e = .returned (.int .i64 (Lib.compareBytes a.data.toList b.data.toList)) ∧ w' = w := Any.strings_Compare Tryd.lays106 a b w
def Tryd.lays103_ren : Go.Shelf.Ren := ⟨fun | 103 => 85 | 210 => 111 | 206 => 128 | n => n, fun | 9 => 9 | 4 => 4 | 24 => 72 | 3 => 3 | n => n, fun | n => n⟩
theorem Tryd.lays103 : Go.Proofs.Lays.n103 Tryd.prog Tryd.lays103_ren := {
  mixed := by kernel_rfl
  f103 := Tryd.func85.trans (congrArg some (by kernel_rfl))
  f206 := Tryd.func128.trans (congrArg some (by kernel_rfl))
  f210 := Tryd.func111.trans (congrArg some (by kernel_rfl))
  t3 := Tryd.underlying3
  a3 := Tryd.isAgg3
  z3 := Tryd.sizeOf3
  v3 := Tryd.zeroValue3
  t4 := Tryd.underlying4
  a4 := Tryd.isAgg4
  z4 := Tryd.sizeOf4
  v4 := Tryd.zeroValue4
  t9 := Tryd.underlying9
  a9 := Tryd.isAgg9
  z9 := Tryd.sizeOf9
  v9 := Tryd.zeroValue9
  t24 := Tryd.underlying72
  a24 := Tryd.isAgg72
  z24 := Tryd.sizeOf72
  v24 := Tryd.zeroValue72 }
open Go.RowKit in
/-- strings.CutPrefix: "CutPrefix returns s without the provided leading prefix string and reports whether it found the prefix. If s doesn't start with prefix, CutPrefix returns s, false. If prefix is the empty string, CutPrefix returns s, true.": IT RETURNS '(Lib.trimPrefix s p, Lib.hasPrefix s p)'; the world is as it was. (LAID: no walk: one application.) -/
theorem Tryd.strings_CutPrefix (s p : ByteArray) (w : World) :
    Calls Tryd.prog 85 #[.string s, .string p] w fun e w' => e = .returned (.tuple #[.string ⟨(Lib.trimPrefix s.data.toList p.data.toList).toArray⟩, .bool (Lib.hasPrefix s.data.toList p.data.toList)]) ∧ w' = w := Any.strings_CutPrefix Tryd.lays103 s p w
def Tryd.lays283_ren : Go.Shelf.Ren := ⟨fun | 283 => 139 | n => n, fun | 3 => 3 | 9 => 9 | 4 => 4 | n => n, fun | n => n⟩
theorem Tryd.lays283 : Go.Proofs.Lays.n283 Tryd.prog Tryd.lays283_ren := {
  mixed := by kernel_rfl
  f283 := Tryd.func139.trans (congrArg some (by kernel_rfl))
  t3 := Tryd.underlying3
  a3 := Tryd.isAgg3
  z3 := Tryd.sizeOf3
  v3 := Tryd.zeroValue3
  t4 := Tryd.underlying4
  a4 := Tryd.isAgg4
  z4 := Tryd.sizeOf4
  v4 := Tryd.zeroValue4
  t9 := Tryd.underlying9
  a9 := Tryd.isAgg9
  z9 := Tryd.sizeOf9
  v9 := Tryd.zeroValue9 }
open Go.Lib in
/-- internal/strconv.small: "small returns the string for an i with 0 <= i < nSmalls.": i's decimal numeral. The world is as it was. (LAID: no walk: one application.) -/
theorem Tryd.internal_strconv_small (i : Nat) (h : i < 100) (w : World) :
    Calls Tryd.prog 139 #[.int .i64 i] w fun e w' => e = .returned (.string ⟨(Lib.decDigits i).toArray⟩) ∧ w' = w := Any.internal_strconv_small Tryd.lays283 i h w
def Tryd.laysM284_ren : Go.Shelf.Ren := ⟨fun | 284 => 140 | 129 => 146 | 317 => 155 | 318 => 156 | n => n, fun | 53 => 77 | 3 => 3 | 212 => 136 | 0 => 0 | 4 => 4 | 46 => 94 | 5 => 5 | 9 => 9 | n => n, fun | 17 => 5 | n => n⟩
theorem Tryd.laysM284 : Go.Proofs.LaysM.n284 Tryd.prog Tryd.laysM284_ren := {
  mixed := by kernel_rfl
  f129 := Tryd.func146.trans (congrArg some (by kernel_rfl))
  f284 := Tryd.func140.trans (congrArg some (by kernel_rfl))
  f317 := Tryd.func155.trans (congrArg some (by kernel_rfl))
  f318 := Tryd.func156.trans (congrArg some (by kernel_rfl))
  t0 := Tryd.underlying0
  a0 := Tryd.isAgg0
  z0 := Tryd.sizeOf0
  v0 := Tryd.zeroValue0
  t3 := Tryd.underlying3
  a3 := Tryd.isAgg3
  z3 := Tryd.sizeOf3
  v3 := Tryd.zeroValue3
  t4 := Tryd.underlying4
  a4 := Tryd.isAgg4
  z4 := Tryd.sizeOf4
  v4 := Tryd.zeroValue4
  t5 := Tryd.underlying5
  a5 := Tryd.isAgg5
  z5 := Tryd.sizeOf5
  v5 := Tryd.zeroValue5
  t9 := Tryd.underlying9
  a9 := Tryd.isAgg9
  z9 := Tryd.sizeOf9
  v9 := Tryd.zeroValue9
  t46 := Tryd.underlying94
  a46 := Tryd.isAgg94
  z46 := Tryd.sizeOf94
  v46 := Tryd.zeroValue94
  t53 := Tryd.underlying77
  a53 := Tryd.isAgg77
  z53 := Tryd.sizeOf77
  v53 := Tryd.zeroValue77
  t212 := Tryd.underlying136
  a212 := Tryd.isAgg136
  z212 := Tryd.sizeOf136
  v212 := Tryd.zeroValue136
  g17 := by kernel_rfl
  i0 := by kernel_rfl
  i3 := by kernel_rfl
  i4 := by kernel_rfl
  i5 := by kernel_rfl
  i9 := by kernel_rfl
  i46 := by kernel_rfl
  i53 := by kernel_rfl
  i212 := by kernel_rfl
  m17 := by kernel_rfl }
open Go.Lib in
/-- internal/strconv.numDigits, at a d that is not 0: THE NUMBER OF d's DECIMAL DIGITS. The world is as it was. (LAID: no walk: one application.) -/
theorem Tryd.internal_strconv_numDigits (u : Nat) (h1 : 1 ≤ u) (h2 : u < 18446744073709551616) (w : World) (htab : Lib.TabIs Tryd.prog w "internal/strconv.uint64pow10" .u64 Lib.pow10Tab) :
    Calls Tryd.prog 140 #[.int .u64 u] w fun e w' => e = .returned (.int .i64 (Lib.nDigits u)) ∧ w' = w := Any.internal_strconv_numDigits Tryd.laysM284 u h1 h2 w htab
def Tryd.lays285_ren : Go.Shelf.Ren := ⟨fun | 285 => 141 | n => n, fun | 37 => 89 | 53 => 77 | 3 => 3 | 4 => 4 | 51 => 137 | 9 => 9 | 5 => 5 | 0 => 0 | n => n, fun | n => n⟩
theorem Tryd.lays285 : Go.Proofs.Lays.n285 Tryd.prog Tryd.lays285_ren := {
  mixed := by kernel_rfl
  f285 := Tryd.func141.trans (congrArg some (by kernel_rfl))
  t0 := Tryd.underlying0
  a0 := Tryd.isAgg0
  z0 := Tryd.sizeOf0
  v0 := Tryd.zeroValue0
  t3 := Tryd.underlying3
  a3 := Tryd.isAgg3
  z3 := Tryd.sizeOf3
  v3 := Tryd.zeroValue3
  t4 := Tryd.underlying4
  a4 := Tryd.isAgg4
  z4 := Tryd.sizeOf4
  v4 := Tryd.zeroValue4
  t5 := Tryd.underlying5
  a5 := Tryd.isAgg5
  z5 := Tryd.sizeOf5
  v5 := Tryd.zeroValue5
  t9 := Tryd.underlying9
  a9 := Tryd.isAgg9
  z9 := Tryd.sizeOf9
  v9 := Tryd.zeroValue9
  t37 := Tryd.underlying89
  a37 := Tryd.isAgg89
  z37 := Tryd.sizeOf89
  v37 := Tryd.zeroValue89
  t51 := Tryd.underlying137
  a51 := Tryd.isAgg137
  z51 := Tryd.sizeOf137
  v51 := Tryd.zeroValue137
  t53 := Tryd.underlying77
  a53 := Tryd.isAgg77
  z53 := Tryd.sizeOf77
  v53 := Tryd.zeroValue77 }
open Go.RowKit Go.Sort Go.Lib in
/-- internal/strconv.formatBase10: "formatBase10 formats the decimal representation of u into a. The caller is responsible for ensuring that a is big enough to hold u. If a is too big, leading zeros will be filled in as needed.": THE ROW HOLDS u's DIGITS ('FmtInv .. 0 ..': every place t holds 'dg u (len - 1 - t)'); all else is as it was but for the count of draws. (LAID: no walk: one application.) -/
theorem Tryd.internal_strconv_formatBase10 (blk off cap : Nat) (u : Nat) (d : Array UInt8) (w : World) (hH : Holds (fun (b : UInt8) => Value.int .u8 (b.toNat : Int)) w blk off d) (hu : u < 10 ^ d.size) (hu64 : u < 18446744073709551616) (hsz : d.size < 4611686018427387904) :
    Calls Tryd.prog 141 #[.slice (some ⟨blk, off, none⟩) d.size cap, .int .u64 u] w fun e w' =>
      e = .returned (.tuple #[]) ∧ ∃ (n v' : Nat) (dk : Array UInt8), w' = (putRow (fun (b : UInt8) => Value.int .u8 (b.toNat : Int)) w blk off dk).drewN n ∧ FmtInv d.size u 0 v' dk := Any.internal_strconv_formatBase10 Tryd.lays285 blk off cap u d w hH hu hu64 hsz
def Tryd.laysPu14_ren : Go.Shelf.Ren := ⟨fun | 14 => 88 | 16 => 114 | 17 => 115 | 19 => 133 | 20 => 134 | 21 => 135 | 22 => 136 | 23 => 137 | 24 => 138 | 25 => 152 | 27 => 154 | 26 => 153 | 28 => 164 | 29 => 169 | 30 => 139 | 31 => 140 | 32 => 141 | 33 => 142 | 35 => 146 | 34 => 155 | 36 => 156 | 37 => 157 | 38 => 158 | 39 => 165 | 40 => 166 | n => n, fun | 9 => 9 | 3 => 3 | 22 => 77 | 24 => 79 | 25 => 80 | 4 => 4 | 34 => 117 | 5 => 5 | 36 => 94 | 37 => 89 | 0 => 0 | 39 => 119 | 21 => 21 | 44 => 134 | 47 => 144 | 50 => 147 | 48 => 145 | 2 => 2 | 52 => 123 | 55 => 125 | 59 => 136 | 60 => 137 | 20 => 20 | 61 => 138 | 65 => 155 | 66 => 156 | 67 => 157 | n => n, fun | 0 => 3 | 1 => 4 | 2 => 5 | 3 => 8 | 4 => 9 | n => n⟩
theorem Tryd.laysPu14 : Go.Proofs.LaysPu.n14 Tryd.prog Tryd.laysPu14_ren := {
  mixed := by kernel_rfl
  f14 := Tryd.func88.trans (congrArg some (by kernel_rfl))
  f16 := Tryd.func114.trans (congrArg some (by kernel_rfl))
  f17 := Tryd.func115.trans (congrArg some (by kernel_rfl))
  f19 := Tryd.func133.trans (congrArg some (by kernel_rfl))
  f20 := Tryd.func134.trans (congrArg some (by kernel_rfl))
  f21 := Tryd.func135.trans (congrArg some (by kernel_rfl))
  f22 := Tryd.func136.trans (congrArg some (by kernel_rfl))
  f23 := Tryd.func137.trans (congrArg some (by kernel_rfl))
  f24 := Tryd.func138.trans (congrArg some (by kernel_rfl))
  f25 := Tryd.func152.trans (congrArg some (by kernel_rfl))
  f26 := Tryd.func153.trans (congrArg some (by kernel_rfl))
  f27 := Tryd.func154.trans (congrArg some (by kernel_rfl))
  f28 := Tryd.func164.trans (congrArg some (by kernel_rfl))
  f29 := Tryd.func169.trans (congrArg some (by kernel_rfl))
  f30 := Tryd.func139.trans (congrArg some (by kernel_rfl))
  f31 := Tryd.func140.trans (congrArg some (by kernel_rfl))
  f32 := Tryd.func141.trans (congrArg some (by kernel_rfl))
  f33 := Tryd.func142.trans (congrArg some (by kernel_rfl))
  f34 := Tryd.func155.trans (congrArg some (by kernel_rfl))
  f35 := Tryd.func146.trans (congrArg some (by kernel_rfl))
  f36 := Tryd.func156.trans (congrArg some (by kernel_rfl))
  f37 := Tryd.func157.trans (congrArg some (by kernel_rfl))
  f38 := Tryd.func158.trans (congrArg some (by kernel_rfl))
  f39 := Tryd.func165.trans (congrArg some (by kernel_rfl))
  f40 := Tryd.func166.trans (congrArg some (by kernel_rfl))
  t0 := Tryd.underlying0
  a0 := Tryd.isAgg0
  z0 := Tryd.sizeOf0
  v0 := Tryd.zeroValue0
  i0 := by kernel_rfl
  t2 := Tryd.underlying2
  a2 := Tryd.isAgg2
  z2 := Tryd.sizeOf2
  v2 := Tryd.zeroValue2
  i2 := by kernel_rfl
  t3 := Tryd.underlying3
  a3 := Tryd.isAgg3
  z3 := Tryd.sizeOf3
  v3 := Tryd.zeroValue3
  i3 := by kernel_rfl
  t4 := Tryd.underlying4
  a4 := Tryd.isAgg4
  z4 := Tryd.sizeOf4
  v4 := Tryd.zeroValue4
  i4 := by kernel_rfl
  t5 := Tryd.underlying5
  a5 := Tryd.isAgg5
  z5 := Tryd.sizeOf5
  v5 := Tryd.zeroValue5
  i5 := by kernel_rfl
  t9 := Tryd.underlying9
  a9 := Tryd.isAgg9
  z9 := Tryd.sizeOf9
  v9 := Tryd.zeroValue9
  i9 := by kernel_rfl
  t20 := Tryd.underlying20
  a20 := Tryd.isAgg20
  z20 := Tryd.sizeOf20
  v20 := Tryd.zeroValue20
  i20 := by kernel_rfl
  t21 := Tryd.underlying21
  a21 := Tryd.isAgg21
  z21 := Tryd.sizeOf21
  v21 := Tryd.zeroValue21
  i21 := by kernel_rfl
  t22 := Tryd.underlying77
  a22 := Tryd.isAgg77
  z22 := Tryd.sizeOf77
  v22 := Tryd.zeroValue77
  i22 := by kernel_rfl
  t24 := Tryd.underlying79
  a24 := Tryd.isAgg79
  z24 := Tryd.sizeOf79
  v24 := Tryd.zeroValue79
  i24 := by kernel_rfl
  t25 := Tryd.underlying80
  a25 := Tryd.isAgg80
  z25 := Tryd.sizeOf80
  v25 := Tryd.zeroValue80
  i25 := by kernel_rfl
  t34 := Tryd.underlying117
  a34 := Tryd.isAgg117
  z34 := Tryd.sizeOf117
  v34 := Tryd.zeroValue117
  i34 := by kernel_rfl
  c34 := by kernel_rfl
  t36 := Tryd.underlying94
  a36 := Tryd.isAgg94
  z36 := Tryd.sizeOf94
  v36 := Tryd.zeroValue94
  i36 := by kernel_rfl
  t37 := Tryd.underlying89
  a37 := Tryd.isAgg89
  z37 := Tryd.sizeOf89
  v37 := Tryd.zeroValue89
  i37 := by kernel_rfl
  t39 := Tryd.underlying119
  a39 := Tryd.isAgg119
  z39 := Tryd.sizeOf119
  v39 := Tryd.zeroValue119
  i39 := by kernel_rfl
  t44 := Tryd.underlying134
  a44 := Tryd.isAgg134
  z44 := Tryd.sizeOf134
  v44 := Tryd.zeroValue134
  i44 := by kernel_rfl
  t47 := Tryd.underlying144
  a47 := Tryd.isAgg144
  z47 := Tryd.sizeOf144
  v47 := Tryd.zeroValue144
  i47 := by kernel_rfl
  t48 := Tryd.underlying145
  a48 := Tryd.isAgg145
  z48 := Tryd.sizeOf145
  v48 := Tryd.zeroValue145
  i48 := by kernel_rfl
  t50 := Tryd.underlying147
  a50 := Tryd.isAgg147
  z50 := Tryd.sizeOf147
  v50 := Tryd.zeroValue147
  i50 := by kernel_rfl
  t52 := Tryd.underlying123
  a52 := Tryd.isAgg123
  z52 := Tryd.sizeOf123
  v52 := Tryd.zeroValue123
  i52 := by kernel_rfl
  t55 := Tryd.underlying125
  a55 := Tryd.isAgg125
  z55 := Tryd.sizeOf125
  v55 := Tryd.zeroValue125
  i55 := by kernel_rfl
  t59 := Tryd.underlying136
  a59 := Tryd.isAgg136
  z59 := Tryd.sizeOf136
  v59 := Tryd.zeroValue136
  i59 := by kernel_rfl
  t60 := Tryd.underlying137
  a60 := Tryd.isAgg137
  z60 := Tryd.sizeOf137
  v60 := Tryd.zeroValue137
  i60 := by kernel_rfl
  t61 := Tryd.underlying138
  a61 := Tryd.isAgg138
  z61 := Tryd.sizeOf138
  t65 := Tryd.underlying155
  a65 := Tryd.isAgg155
  z65 := Tryd.sizeOf155
  v65 := Tryd.zeroValue155
  i65 := by kernel_rfl
  t66 := Tryd.underlying156
  a66 := Tryd.isAgg156
  z66 := Tryd.sizeOf156
  v66 := Tryd.zeroValue156
  i66 := by kernel_rfl
  t67 := Tryd.underlying157
  a67 := Tryd.isAgg157
  z67 := Tryd.sizeOf157
  v67 := Tryd.zeroValue157
  i67 := by kernel_rfl
  g0 := by kernel_rfl
  m0 := by kernel_rfl
  g1 := by kernel_rfl
  m1 := by kernel_rfl
  g2 := by kernel_rfl
  m2 := by kernel_rfl
  g3 := by kernel_rfl
  m3 := by kernel_rfl
  g4 := by kernel_rfl
  m4 := by kernel_rfl }
open Go.RowKit in
/-- strconv.ParseUint(s, 10, 64), AT EVERY STRING THAT SPELLS A uint64 ('Lib.parseUintB 64 s.data.toList = .ok u'): u, AND NO ERROR. (LAID: no walk: one application.) -/
theorem Tryd.strconv_ParseUint_10_at64_ok (s : ByteArray) (hmax : s.size ≤ 9223372036854775806) (u : Nat) (h : Lib.parseUintB 64 s.data.toList = .ok u) (w : World) :
    Calls Tryd.prog 88 #[.string s, .int .i64 10, .int .i64 64] w fun e w' => e = .returned (.tuple #[.int .u64 u, .nilIface]) ∧ (w' = w ∨ w' = Lib.bytesWorld w 5 s) := Any.strconv_ParseUint_10_at64_ok Tryd.laysPu14 s hmax u h w
def Tryd.lays219_ren : Go.Shelf.Ren := ⟨fun | 219 => 129 | 217 => 147 | 225 => 148 | 224 => 149 | 267 => 150 | 266 => 161 | 314 => 162 | n => n, fun | 9 => 9 | 3 => 3 | 4 => 4 | 5 => 5 | 46 => 94 | 146 => 142 | 51 => 137 | n => n, fun | 1 => 2 | n => n⟩
theorem Tryd.lays219 : Go.Proofs.Lays.n219 Tryd.prog Tryd.lays219_ren := {
  mixed := by kernel_rfl
  f217 := Tryd.func147.trans (congrArg some (by kernel_rfl))
  f219 := Tryd.func129.trans (congrArg some (by kernel_rfl))
  f224 := Tryd.func149.trans (congrArg some (by kernel_rfl))
  f225 := Tryd.func148.trans (congrArg some (by kernel_rfl))
  f266 := Tryd.func161.trans (congrArg some (by kernel_rfl))
  f267 := Tryd.func150.trans (congrArg some (by kernel_rfl))
  f314 := Tryd.func162.trans (congrArg some (by kernel_rfl))
  t3 := Tryd.underlying3
  a3 := Tryd.isAgg3
  z3 := Tryd.sizeOf3
  v3 := Tryd.zeroValue3
  t4 := Tryd.underlying4
  a4 := Tryd.isAgg4
  z4 := Tryd.sizeOf4
  v4 := Tryd.zeroValue4
  t5 := Tryd.underlying5
  a5 := Tryd.isAgg5
  z5 := Tryd.sizeOf5
  v5 := Tryd.zeroValue5
  t9 := Tryd.underlying9
  a9 := Tryd.isAgg9
  z9 := Tryd.sizeOf9
  v9 := Tryd.zeroValue9
  t46 := Tryd.underlying94
  a46 := Tryd.isAgg94
  z46 := Tryd.sizeOf94
  v46 := Tryd.zeroValue94
  t51 := Tryd.underlying137
  a51 := Tryd.isAgg137
  z51 := Tryd.sizeOf137
  v51 := Tryd.zeroValue137
  t146 := Tryd.underlying142
  a146 := Tryd.isAgg142
  z146 := Tryd.sizeOf142
  v146 := Tryd.zeroValue142
  g1 := by kernel_rfl }
open Go.RowKit Go.Lib in
/-- internal/stringslite.Index (what strings.Index calls) AT A substr OF ONE BYTE c: IT RETURNS 'Lib.indexByte s c'; the world is as it was. (LAID: no walk: one application.) -/
theorem Tryd.stringslite_Index_one (s : ByteArray) (c : UInt8) (w : World) :
    Calls Tryd.prog 129 #[.string s, .string ⟨#[c]⟩] w fun e w' => e = .returned (.int .i64 (Lib.indexByte s.data.toList c)) ∧ w' = w := Any.stringslite_Index_one Tryd.lays219 s c w
def Tryd.lays264_ren : Go.Shelf.Ren := ⟨fun | 264 => 97 | n => n, fun | 53 => 77 | 46 => 94 | n => n, fun | n => n⟩
theorem Tryd.lays264 : Go.Proofs.Lays.n264 Tryd.prog Tryd.lays264_ren := {
  mixed := by kernel_rfl
  f264 := Tryd.func97.trans (congrArg some (by kernel_rfl))
  t46 := Tryd.underlying94
  a46 := Tryd.isAgg94
  z46 := Tryd.sizeOf94
  v46 := Tryd.zeroValue94
  t53 := Tryd.underlying77
  a53 := Tryd.isAgg77
  z53 := Tryd.sizeOf77
  v53 := Tryd.zeroValue77 }
open Go.RowKit Go.Lib in
theorem Tryd.bits_Mul64 (x y : Nat) (hx : x < 18446744073709551616) (hy : y < 18446744073709551616) (w : World) :
    Calls Tryd.prog 97 #[.int .u64 x, .int .u64 y] w fun e w' => e = .returned (.tuple #[.int .u64 ((x * y / 18446744073709551616 : Nat) : Int), .int .u64 ((x * y % 18446744073709551616 : Nat) : Int)]) ∧ w' = w := Any.bits_Mul64 Tryd.lays264 x y hx hy w
end Go.Proofs
