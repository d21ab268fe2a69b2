/-
 Contracts of Go's library at this seat's translation, laid by the kit's own command in its plain mode; strconv.FormatUint at base 10: the decimal numeral, for every uint64; The witness' world of this seat's cards of package dec; the table of powers of ten out of a row's list; The plain law of numbers' texts, written: the four digits of a rest. No program in sight; Print of package dec: the text of any number; Package dec: what the laws' known tells; alike.
-/
import Derived.Test.YtgmhifafbebjfaaGreatDoorProg
import Derived.Test.YtgmhifafbebjfaaGreatDoorCards
import Derived.Test.YtgmhifafbebjfaaGreatDoorTie
import Derived.Test.YtgmhifafbebjfaaGreatDoorValA
import Derived.Shelf.Strings.Builder1
import Derived.Shelf.Strings.Builder2
import Derived.Shelf.Strings.OnBuilder
import Derived.Shelf.Strings.Trim
import Derived.Shelf.Small.Utf8
import Derived.Shelf.Small.Bits
import Derived.Shelf.Small.Strs
import Derived.Shelf.Small.Wraps
import Derived.Shelf.Strings.BuilderF
import Derived.Shelf.Strings.BuilderK
import Derived.Shelf.Strconv.Itoa0
import Derived.Shelf.Strconv.Itoa1
import Derived.Shelf.LaysM
import Derived.Shelf.Strconv.Itoa2
import Derived.Ground.MpProg
import Derived.Shelf.Pu.ParseUintPublic10
import Derived.Shelf.Strings.Search1
import Derived.Shelf.Strings.Search2
import Derived.Shelf.Strings.Search3
import Derived.Shelf.Strings.Cut
import Derived.Shelf.Strings.Shaped
import Derived.Shelf.Strings.Prefix
import Derived.Shelf.Strings.Runes
import Derived.Shelf.Strings.AsciiSet
import Derived.Shelf.Bits.Mul64
import Derived.Shelf.Strings.Repeat
import Derived.Shelf.Unicode.DecodeSlow
import Derived.Deep.DeepHandedRow
import Derived.Lib.LaidTab
import Derived.Shelf.Vars
import Derived.Lib.TrimByte
import Derived.Lib.SlTrimSet
import Derived.Lib.ParseIntB
import Derived.Shelf.Strings.SlTrimAscii
import Derived.Lib.SmallJoins
set_option maxRecDepth 100000
set_option maxHeartbeats 32000000
namespace Go.Proofs
open Go.Shelf
def Tryz.lays156_ren : Go.Shelf.Ren := ⟨fun | 156 => 146 | 165 => 154 | 166 => 150 | 169 => 151 | 240 => 190 | 241 => 194 | 276 => 218 | 277 => 219 | n => n, fun | 31 => 44 | 9 => 9 | 3 => 3 | 4 => 4 | 0 => 0 | 20 => 20 | 72 => 153 | 76 => 159 | 70 => 151 | 37 => 61 | 75 => 158 | 127 => 193 | 164 => 220 | 5 => 5 | 80 => 161 | n => n, fun | n => n⟩
theorem Tryz.lays156 : Go.Proofs.Lays.n156 Tryz.prog Tryz.lays156_ren := {
 mixed := by kernel_rfl
 f156 := Tryz.func146.trans (congrArg some (by kernel_rfl))
 f165 := Tryz.func154.trans (congrArg some (by kernel_rfl))
 f166 := Tryz.func150.trans (congrArg some (by kernel_rfl))
 f169 := Tryz.func151.trans (congrArg some (by kernel_rfl))
 f240 := Tryz.func190.trans (congrArg some (by kernel_rfl))
 f241 := Tryz.func194.trans (congrArg some (by kernel_rfl))
 f276 := Tryz.func218.trans (congrArg some (by kernel_rfl))
 f277 := Tryz.func219.trans (congrArg some (by kernel_rfl))
 t0 := Tryz.underlying0
 a0 := Tryz.isAgg0
 z0 := Tryz.sizeOf0
 v0 := Tryz.zeroValue0
 t3 := Tryz.underlying3
 a3 := Tryz.isAgg3
 z3 := Tryz.sizeOf3
 v3 := Tryz.zeroValue3
 t4 := Tryz.underlying4
 a4 := Tryz.isAgg4
 z4 := Tryz.sizeOf4
 v4 := Tryz.zeroValue4
 t9 := Tryz.underlying9
 a9 := Tryz.isAgg9
 z9 := Tryz.sizeOf9
 v9 := Tryz.zeroValue9
 t20 := Tryz.underlying20
 a20 := Tryz.isAgg20
 z20 := Tryz.sizeOf20
 v20 := Tryz.zeroValue20
 t31 := Tryz.underlying44
 a31 := Tryz.isAgg44
 z31 := Tryz.sizeOf44
 v31 := Tryz.zeroValue44
 t37 := Tryz.underlying61
 a37 := Tryz.isAgg61
 z37 := Tryz.sizeOf61
 v37 := Tryz.zeroValue61
 t70 := Tryz.underlying151
 a70 := Tryz.isAgg151
 z70 := Tryz.sizeOf151
 v70 := Tryz.zeroValue151
 t72 := Tryz.underlying153
 a72 := Tryz.isAgg153
 z72 := Tryz.sizeOf153
 v72 := Tryz.zeroValue153
 t75 := Tryz.underlying158
 a75 := Tryz.isAgg158
 z75 := Tryz.sizeOf158
 v75 := Tryz.zeroValue158
 t76 := Tryz.underlying159
 a76 := Tryz.isAgg159
 z76 := Tryz.sizeOf159
 v76 := Tryz.zeroValue159
 t127 := Tryz.underlying193
 a127 := Tryz.isAgg193
 z127 := Tryz.sizeOf193
 v127 := Tryz.zeroValue193
 t164 := Tryz.underlying220
 a164 := Tryz.isAgg220
 z164 := Tryz.sizeOf220
 v164 := Tryz.zeroValue220 }
theorem Tryz.Builder_Extra_156 : Builder.Extra Tryz.prog Tryz.lays156_ren := {
 sizeBuilder := by kernel_rfl
 liesBuilder := by kernel_rfl
 t5 := Tryz.underlying5
 a5 := Tryz.isAgg5
 z5 := Tryz.sizeOf5
 v5 := Tryz.zeroValue5
 infoByte := by kernel_rfl
 cellsByte := by kernel_rfl
 sizeByte := by kernel_rfl
 neB5 := by decide }
open Go.RowKit in
theorem Tryz.strings_Join_none (a : Option Addr) (c : Nat) (sep : ByteArray) (w : World) :
  Calls Tryz.prog 146 #[.slice a 0 c, .string sep] w fun e w' => e = .returned (.string ⟨#[]⟩) ∧ w' = w := Any.strings_Join_none Tryz.lays156 Tryz.Builder_Extra_156 a c sep w
open Go.RowKit in
theorem Tryz.strings_Join (bk o c : Nat) (xs : List ByteArray) (sep : ByteArray) (w : World) (hcells : ∀ (j : Nat) x, xs[j]? = some x → w.cell? ⟨bk, o + j, none⟩ = some (.string x)) (hbk : bk < w.heap.size) (hN : xs.length ≤ 140737488355328) (hcap : xs.length ≤ c) (hlen : (Lib.join (xs.map (·.data.toList)) sep.data.toList).length ≤ 140737488355328) :
  Calls Tryz.prog 146 #[.slice (some ⟨bk, o, none⟩) xs.length c, .string sep] w fun e w' => e = .returned (.string ⟨(Lib.join (xs.map (·.data.toList)) sep.data.toList).toArray⟩) ∧ Below w.heap.size w w' := Any.strings_Join Tryz.lays156 Tryz.Builder_Extra_156 bk o c xs sep w hcells hbk hN hcap hlen
def Tryz.lays162_ren : Go.Shelf.Ren := ⟨fun | 162 => 159 | 232 => 200 | 227 => 201 | 234 => 202 | 236 => 203 | 228 => 228 | 271 => 229 | 151 => 230 | 120 => 259 | 197 => 213 | 152 => 260 | 260 => 243 | 137 => 272 | 119 => 273 | 224 => 216 | 225 => 215 | 217 => 214 | 266 => 244 | n => n, fun | 9 => 9 | 4 => 4 | 3 => 3 | 5 => 5 | 117 => 206 | 116 => 205 | 0 => 0 | 124 => 209 | 21 => 21 | 105 => 216 | 46 => 162 | 119 => 256 | 139 => 259 | 138 => 258 | n => n, fun | 3 => 4 | 4 => 5 | n => n⟩
theorem Tryz.lays162 : Go.Proofs.Lays.n162 Tryz.prog Tryz.lays162_ren := {
 mixed := by kernel_rfl
 f119 := Tryz.func273.trans (congrArg some (by kernel_rfl))
 f120 := Tryz.func259.trans (congrArg some (by kernel_rfl))
 f137 := Tryz.func272.trans (congrArg some (by kernel_rfl))
 f151 := Tryz.func230.trans (congrArg some (by kernel_rfl))
 f152 := Tryz.func260.trans (congrArg some (by kernel_rfl))
 f162 := Tryz.func159.trans (congrArg some (by kernel_rfl))
 f197 := Tryz.func213.trans (congrArg some (by kernel_rfl))
 f217 := Tryz.func214.trans (congrArg some (by kernel_rfl))
 f224 := Tryz.func216.trans (congrArg some (by kernel_rfl))
 f225 := Tryz.func215.trans (congrArg some (by kernel_rfl))
 f227 := Tryz.func201.trans (congrArg some (by kernel_rfl))
 f228 := Tryz.func228.trans (congrArg some (by kernel_rfl))
 f232 := Tryz.func200.trans (congrArg some (by kernel_rfl))
 f234 := Tryz.func202.trans (congrArg some (by kernel_rfl))
 f236 := Tryz.func203.trans (congrArg some (by kernel_rfl))
 f260 := Tryz.func243.trans (congrArg some (by kernel_rfl))
 f266 := Tryz.func244.trans (congrArg some (by kernel_rfl))
 f271 := Tryz.func229.trans (congrArg some (by kernel_rfl))
 t0 := Tryz.underlying0
 a0 := Tryz.isAgg0
 z0 := Tryz.sizeOf0
 v0 := Tryz.zeroValue0
 t3 := Tryz.underlying3
 a3 := Tryz.isAgg3
 z3 := Tryz.sizeOf3
 v3 := Tryz.zeroValue3
 t4 := Tryz.underlying4
 a4 := Tryz.isAgg4
 z4 := Tryz.sizeOf4
 v4 := Tryz.zeroValue4
 t5 := Tryz.underlying5
 a5 := Tryz.isAgg5
 z5 := Tryz.sizeOf5
 v5 := Tryz.zeroValue5
 t9 := Tryz.underlying9
 a9 := Tryz.isAgg9
 z9 := Tryz.sizeOf9
 v9 := Tryz.zeroValue9
 t21 := Tryz.underlying21
 a21 := Tryz.isAgg21
 z21 := Tryz.sizeOf21
 v21 := Tryz.zeroValue21
 t46 := Tryz.underlying162
 a46 := Tryz.isAgg162
 z46 := Tryz.sizeOf162
 v46 := Tryz.zeroValue162
 t105 := Tryz.underlying216
 a105 := Tryz.isAgg216
 z105 := Tryz.sizeOf216
 v105 := Tryz.zeroValue216
 t116 := Tryz.underlying205
 a116 := Tryz.isAgg205
 z116 := Tryz.sizeOf205
 t117 := Tryz.underlying206
 a117 := Tryz.isAgg206
 z117 := Tryz.sizeOf206
 v117 := Tryz.zeroValue206
 t119 := Tryz.underlying256
 a119 := Tryz.isAgg256
 z119 := Tryz.sizeOf256
 t124 := Tryz.underlying209
 a124 := Tryz.isAgg209
 z124 := Tryz.sizeOf209
 v124 := Tryz.zeroValue209
 t138 := Tryz.underlying258
 a138 := Tryz.isAgg258
 z138 := Tryz.sizeOf258
 v138 := Tryz.zeroValue258
 t139 := Tryz.underlying259
 a139 := Tryz.isAgg259
 z139 := Tryz.sizeOf259
 v139 := Tryz.zeroValue259
 g3 := by kernel_rfl
 g4 := by kernel_rfl }
open Go.RowKit in
theorem Tryz.strings_TrimRight_one (s : ByteArray) (c : UInt8) (hc : c.toNat < 128) (w : World) (hs : s.size ≤ 9223372036854775807) :
  Calls Tryz.prog 159 #[.string s, .string ⟨#[c]⟩] w fun e w' => e = .returned (.string ⟨(Lib.trimRightB s.data.toList c).toArray⟩) ∧ w' = w := Any.strings_TrimRight_one Tryz.lays162 s c hc w hs
open Go.RowKit in
def Tryz.lays134_ren : Go.Shelf.Ren := ⟨fun | 134 => 207 | 129 => 231 | n => n, fun | 53 => 119 | 3 => 3 | 4 => 4 | 46 => 162 | 5 => 5 | 9 => 9 | n => n, fun | n => n⟩
theorem Tryz.lays134 : Go.Proofs.Lays.n134 Tryz.prog Tryz.lays134_ren := {
 mixed := by kernel_rfl
 f129 := Tryz.func231.trans (congrArg some (by kernel_rfl))
 f134 := Tryz.func207.trans (congrArg some (by kernel_rfl))
 t3 := Tryz.underlying3
 a3 := Tryz.isAgg3
 z3 := Tryz.sizeOf3
 v3 := Tryz.zeroValue3
 t4 := Tryz.underlying4
 a4 := Tryz.isAgg4
 z4 := Tryz.sizeOf4
 v4 := Tryz.zeroValue4
 t5 := Tryz.underlying5
 a5 := Tryz.isAgg5
 z5 := Tryz.sizeOf5
 v5 := Tryz.zeroValue5
 t9 := Tryz.underlying9
 a9 := Tryz.isAgg9
 z9 := Tryz.sizeOf9
 v9 := Tryz.zeroValue9
 t46 := Tryz.underlying162
 a46 := Tryz.isAgg162
 z46 := Tryz.sizeOf162
 v46 := Tryz.zeroValue162
 t53 := Tryz.underlying119
 a53 := Tryz.isAgg119
 z53 := Tryz.sizeOf119
 v53 := Tryz.zeroValue119 }
theorem Tryz.bits_LeadingZeros64 (x : Int) (w : World) (h0 : 0 ≤ x) (h1 : x ≤ 18446744073709551615) :
  Calls Tryz.prog 207 #[.int .u64 x] w fun e w' => e = .returned (.int .i64 (64 - (Lib.bitLen x.toNat : Int))) ∧ w' = w := Any.bits_LeadingZeros64 Tryz.lays134 x w h0 h1
open Go.RowKit in
def Tryz.lays283_ren : Go.Shelf.Ren := ⟨fun | 283 => 224 | n => n, fun | 3 => 3 | 9 => 9 | 4 => 4 | n => n, fun | n => n⟩
theorem Tryz.lays283 : Go.Proofs.Lays.n283 Tryz.prog Tryz.lays283_ren := {
 mixed := by kernel_rfl
 f283 := Tryz.func224.trans (congrArg some (by kernel_rfl))
 t3 := Tryz.underlying3
 a3 := Tryz.isAgg3
 z3 := Tryz.sizeOf3
 v3 := Tryz.zeroValue3
 t4 := Tryz.underlying4
 a4 := Tryz.isAgg4
 z4 := Tryz.sizeOf4
 v4 := Tryz.zeroValue4
 t9 := Tryz.underlying9
 a9 := Tryz.isAgg9
 z9 := Tryz.sizeOf9
 v9 := Tryz.zeroValue9 }
open Go.Lib in
theorem Tryz.internal_strconv_small (i : Nat) (h : i < 100) (w : World) :
  Calls Tryz.prog 224 #[.int .i64 i] w fun e w' => e = .returned (.string ⟨(Lib.decDigits i).toArray⟩) ∧ w' = w := Any.internal_strconv_small Tryz.lays283 i h w
def Tryz.laysM284_ren : Go.Shelf.Ren := ⟨fun | 284 => 225 | 129 => 231 | 317 => 255 | 318 => 256 | n => n, fun | 53 => 119 | 3 => 3 | 212 => 246 | 0 => 0 | 4 => 4 | 46 => 162 | 5 => 5 | 9 => 9 | n => n, fun | 17 => 3 | n => n⟩
theorem Tryz.laysM284 : Go.Proofs.LaysM.n284 Tryz.prog Tryz.laysM284_ren := {
 mixed := by kernel_rfl
 f129 := Tryz.func231.trans (congrArg some (by kernel_rfl))
 f284 := Tryz.func225.trans (congrArg some (by kernel_rfl))
 f317 := Tryz.func255.trans (congrArg some (by kernel_rfl))
 f318 := Tryz.func256.trans (congrArg some (by kernel_rfl))
 t0 := Tryz.underlying0
 a0 := Tryz.isAgg0
 z0 := Tryz.sizeOf0
 v0 := Tryz.zeroValue0
 t3 := Tryz.underlying3
 a3 := Tryz.isAgg3
 z3 := Tryz.sizeOf3
 v3 := Tryz.zeroValue3
 t4 := Tryz.underlying4
 a4 := Tryz.isAgg4
 z4 := Tryz.sizeOf4
 v4 := Tryz.zeroValue4
 t5 := Tryz.underlying5
 a5 := Tryz.isAgg5
 z5 := Tryz.sizeOf5
 v5 := Tryz.zeroValue5
 t9 := Tryz.underlying9
 a9 := Tryz.isAgg9
 z9 := Tryz.sizeOf9
 v9 := Tryz.zeroValue9
 t46 := Tryz.underlying162
 a46 := Tryz.isAgg162
 z46 := Tryz.sizeOf162
 v46 := Tryz.zeroValue162
 t53 := Tryz.underlying119
 a53 := Tryz.isAgg119
 z53 := Tryz.sizeOf119
 v53 := Tryz.zeroValue119
 t212 := Tryz.underlying246
 a212 := Tryz.isAgg246
 z212 := Tryz.sizeOf246
 v212 := Tryz.zeroValue246
 g17 := by kernel_rfl
 i0 := by kernel_rfl
 i3 := by kernel_rfl
 i4 := by kernel_rfl
 i5 := by kernel_rfl
 i9 := by kernel_rfl
 i46 := by kernel_rfl
 i53 := by kernel_rfl
 i212 := by kernel_rfl
 m17 := by kernel_rfl }
open Go.Lib in
theorem Tryz.internal_strconv_numDigits (u : Nat) (h1 : 1 ≤ u) (h2 : u < 18446744073709551616) (w : World) (htab : Lib.TabIs Tryz.prog w "internal/strconv.uint64pow10" .u64 Lib.pow10Tab) :
  Calls Tryz.prog 225 #[.int .u64 u] w fun e w' => e = .returned (.int .i64 (Lib.nDigits u)) ∧ w' = w := Any.internal_strconv_numDigits Tryz.laysM284 u h1 h2 w htab
def Tryz.lays285_ren : Go.Shelf.Ren := ⟨fun | 285 => 226 | n => n, fun | 37 => 61 | 53 => 119 | 3 => 3 | 4 => 4 | 51 => 194 | 9 => 9 | 5 => 5 | 0 => 0 | n => n, fun | n => n⟩
theorem Tryz.lays285 : Go.Proofs.Lays.n285 Tryz.prog Tryz.lays285_ren := {
 mixed := by kernel_rfl
 f285 := Tryz.func226.trans (congrArg some (by kernel_rfl))
 t0 := Tryz.underlying0
 a0 := Tryz.isAgg0
 z0 := Tryz.sizeOf0
 v0 := Tryz.zeroValue0
 t3 := Tryz.underlying3
 a3 := Tryz.isAgg3
 z3 := Tryz.sizeOf3
 v3 := Tryz.zeroValue3
 t4 := Tryz.underlying4
 a4 := Tryz.isAgg4
 z4 := Tryz.sizeOf4
 v4 := Tryz.zeroValue4
 t5 := Tryz.underlying5
 a5 := Tryz.isAgg5
 z5 := Tryz.sizeOf5
 v5 := Tryz.zeroValue5
 t9 := Tryz.underlying9
 a9 := Tryz.isAgg9
 z9 := Tryz.sizeOf9
 v9 := Tryz.zeroValue9
 t37 := Tryz.underlying61
 a37 := Tryz.isAgg61
 z37 := Tryz.sizeOf61
 v37 := Tryz.zeroValue61
 t51 := Tryz.underlying194
 a51 := Tryz.isAgg194
 z51 := Tryz.sizeOf194
 v51 := Tryz.zeroValue194
 t53 := Tryz.underlying119
 a53 := Tryz.isAgg119
 z53 := Tryz.sizeOf119
 v53 := Tryz.zeroValue119 }
open Go.RowKit Go.Sort Go.Lib in
theorem Tryz.internal_strconv_formatBase10 (blk off cap : Nat) (u : Nat) (d : Array UInt8) (w : World) (hH : Holds (fun (b : UInt8) => Value.int .u8 (b.toNat : Int)) w blk off d) (hu : u < 10 ^ d.size) (hu64 : u < 18446744073709551616) (hsz : d.size < 4611686018427387904) :
  Calls Tryz.prog 226 #[.slice (some ⟨blk, off, none⟩) d.size cap, .int .u64 u] w fun e w' =>
   e = .returned (.tuple #[]) ∧ ∃ (n v' : Nat) (dk : Array UInt8), w' = (putRow (fun (b : UInt8) => Value.int .u8 (b.toNat : Int)) w blk off dk).drewN n ∧ FmtInv d.size u 0 v' dk := Any.internal_strconv_formatBase10 Tryz.lays285 blk off cap u d w hH hu hu64 hsz
open Go.RowKit Go.Lib in
def Tryz.lays264_ren : Go.Shelf.Ren := ⟨fun | 264 => 192 | n => n, fun | 53 => 119 | 46 => 162 | n => n, fun | n => n⟩
theorem Tryz.lays264 : Go.Proofs.Lays.n264 Tryz.prog Tryz.lays264_ren := {
 mixed := by kernel_rfl
 f264 := Tryz.func192.trans (congrArg some (by kernel_rfl))
 t46 := Tryz.underlying162
 a46 := Tryz.isAgg162
 z46 := Tryz.sizeOf162
 v46 := Tryz.zeroValue162
 t53 := Tryz.underlying119
 a53 := Tryz.isAgg119
 z53 := Tryz.sizeOf119
 v53 := Tryz.zeroValue119 }
open Go.RowKit Go.Lib in
theorem Tryz.bits_Mul64 (x y : Nat) (hx : x < 18446744073709551616) (hy : y < 18446744073709551616) (w : World) :
  Calls Tryz.prog 192 #[.int .u64 x, .int .u64 y] w fun e w' => e = .returned (.tuple #[.int .u64 ((x * y / 18446744073709551616 : Nat) : Int), .int .u64 ((x * y % 18446744073709551616 : Nat) : Int)]) ∧ w' = w := Any.bits_Mul64 Tryz.lays264 x y hx hy w
end Go.Proofs
namespace Go.Proofs.YtgmhifafbebjfaaGreatDoor
open Go.RowKit

def TabP (w : World) : Prop := Lib.TabIs Tryz.prog w "internal/strconv.uint64pow10" .u64 Lib.pow10Tab
theorem gPow : Tryz.prog.globalNamed "internal/strconv.uint64pow10" = some 3 := by kernel_rfl
theorem TabP.below {w w' : World} (h : TabP w) (hb : Below w.heap.size w w') : TabP w' := by
 have h' : Lib.TabIs Tryz.prog w "internal/strconv.uint64pow10" .u64 Lib.pow10Tab := h
 show Lib.TabIs Tryz.prog w' "internal/strconv.uint64pow10" .u64 Lib.pow10Tab
 unfold Lib.TabIs World.var? at h' ⊢
 rw [gPow] at h' ⊢
 simp only [Option.bind_some] at h' ⊢
 have hlt : 3 < w.heap.size := by
  rcases Nat.lt_or_ge 3 w.heap.size with h1 | h1
  ·exact h1
  ·rw [Array.getElem?_eq_none h1] at h'; cases h'
 rw [hb.block _ hlt]
 exact h'
theorem below_grow (w : World) (n : Nat) (os : Array Obj) : Below w.heap.size w (Sort.grow (w.drewN n) os) := by
 refine ⟨rfl, rfl, rfl, by simp [Sort.grow], fun k hk => ?_⟩
 show (w.heap ++ os)[k]? = _
 rw [Array.getElem?_append_left hk]
def Tab (w : World) : Prop := TabP w ∧ ∃ m, w.cell? ⟨2, 0, none⟩ = some (.int .i64 m)
theorem Tab.below {w w' : World} (h : Tab w) (hb : Below w.heap.size w w') : Tab w' := by
 obtain ⟨h1, m, h2⟩ := h
 exact ⟨h1.below hb, m, (hb.cell (p := ⟨2, 0, none⟩) (World.block_lt_of_cell? _ _ h2)).trans h2⟩

theorem holds0 (w : World) (T : TypeId) (nd : Nat) (hs : nd ≤ 24) : Sort.Holds (fun (b : UInt8) => Value.int .u8 (b.toNat : Int)) (w.alloc (.cells Lib.zeros24 T)) w.heap.size 0 (Array.replicate nd (0 : UInt8)) := fun j hj => by
 have hj' : j < nd := by simpa using hj
 refine ⟨?_, World.frozen?_alloc_new _ _ _ _⟩
 rw [World.cell?_alloc_new, Lib.zeros24_at _ (by omega), getElem!_pos _ j hj]
 simp
theorem fin0 (w : World) (o : Obj) (dk : Array UInt8) (k : Nat) : ∃ os, (Sort.putRow (fun (b : UInt8) => Value.int .u8 (b.toNat : Int)) (w.alloc o) w.heap.size 0 dk).drewN k = Sort.grow (w.drewN k) os := by
 rw [Sort.alloc_eq_grow]
 obtain ⟨os', _, e⟩ := Sort.putRow_grow_new (fun (b : UInt8) => Value.int .u8 (b.toNat : Int)) w #[o] w.heap.size 0 dk (Nat.le_refl _)
 exact ⟨os', by rw [e]; rfl⟩

theorem fmtU_small (u : Nat) (hu : u < 100) (w : World) : Calls Tryz.prog 199 #[.int .u64 u, .int .i64 10] w fun e w' => e = .returned (.string ⟨(Lib.decDigits u).toArray⟩) ∧ Below w.heap.size w w' := by
 go_enter Tryz.func199, Tryz.ntmps199
 go_wp2_with (go_at_call 224; refine (Tryz.internal_strconv_small u hu _).mono ?_; rintro e w' ⟨rfl, rfl⟩)
 go_ret
 exact ⟨rfl, Below.refl _ _⟩
theorem fmtU_big (u : Nat) (hu : 100 ≤ u) (hu64 : u < 18446744073709551616) (w : World) (ht : Tab w) : Calls Tryz.prog 199 #[.int .u64 u, .int .i64 10] w fun e w' => e = .returned (.string ⟨(Lib.decDigits u).toArray⟩) ∧ Below w.heap.size w w' := by
 have hu1 : 1 ≤ u := by omega
 have hnd20 : Lib.nDigits u ≤ 20 := by have := Lib.numDigits_eq u hu1 hu64; split at this <;> omega
 have hal : Tryz.prog.arrayLen 225 = 24 := by simp [Program.arrayLen, Tryz.underlying225]
 have hsl : ∀ W, (Instr.sliceAt 225 (.pointer (some ⟨w.heap.size, 0, none⟩)) none (some (.int .i64 (Lib.nDigits u : Int))) none).run Tryz.prog W = .ok (.slice (some ⟨w.heap.size, 0, none⟩) (Lib.nDigits u) 24) W := fun W => by
  rw [run_sliceAt_array_h W 225 ⟨w.heap.size, 0, none⟩ (by simp [Program.arrayLen, Program.elem, Tryz.underlying225]) .i64 (Lib.nDigits u : Int) (by omega) (by rw [hal]; omega)]
  go_simp
 have hH0 := holds0 w 225 (Lib.nDigits u) (by omega)
 have hfmt := Tryz.internal_strconv_formatBase10 w.heap.size 0 24 u (Array.replicate (Lib.nDigits u) 0) (w.alloc (.cells Lib.zeros24 225)) hH0 (by rw [Array.size_replicate]; exact Lib.lt_pow_nDigits u) hu64 (by rw [Array.size_replicate]; omega)
 rw [Array.size_replicate] at hfmt
 have HH0 := Lib.hid hH0
 have HF := Lib.hid hfmt
 have hta : Tab (w.alloc (.cells Lib.zeros24 225)) := Tab.below ht ((Below.refl _ _).alloc (Nat.le_refl _) _)
 clear hH0 hal hfmt
 go_enter Tryz.func199, Tryz.ntmps199
 go_wp2_with (go_at_call 225; refine (Tryz.internal_strconv_numDigits u hu1 hu64 _ hta.1).mono ?_; rintro e w' ⟨rfl, rfl⟩)
 refine HF.out.mono ?_
 rintro e w' ⟨rfl, k, v', dk, rfl, hF⟩
 have hcv : (convert 61 9 (.slice (some ⟨w.heap.size, 0, none⟩) (Lib.nDigits u) 24)).run Tryz.prog ((Sort.putRow (fun (b : UInt8) => Value.int .u8 (b.toNat : Int)) (w.alloc (.cells Lib.zeros24 225)) w.heap.size 0 dk).drewN k) = .ok (.string ⟨(Lib.decDigits u).toArray⟩) ((Sort.putRow (fun (b : UInt8) => Value.int .u8 (b.toNat : Int)) (w.alloc (.cells Lib.zeros24 225)) w.heap.size 0 dk).drewN k) := by
  have h := run_convert_bytes_back (P := Tryz.prog) ((Sort.putRow (fun (b : UInt8) => Value.int .u8 (b.toNat : Int)) (w.alloc (.cells Lib.zeros24 225)) w.heap.size 0 dk).drewN k) 61 9 5 ⟨w.heap.size, 0, none⟩ 24 (Lib.decDigits u) Tryz.underlying61 Tryz.underlying5 Tryz.underlying9 (fun j hj => by
   rw [Lib.row_is_numeral hF j hj, Lib.add_plain, World.cell?_drewN]
   exact Sort.cell?_putRow (fun (b : UInt8) => Value.int .u8 (b.toNat : Int)) _ w.heap.size 0 _ dk HH0.out (by rw [hF.size, Array.size_replicate]) j (by rw [hF.size]; rw [Lib.decDigits_length] at hj; exact hj))
  rw [Lib.decDigits_length] at h
  exact h
 go_wp2
 go_ret
 obtain ⟨os, eo⟩ := fin0 w (.cells Lib.zeros24 225) dk k
 exact ⟨rfl, by rw [eo]; exact below_grow w k os⟩
theorem fmtU_any (u : Nat) (hu64 : u < 18446744073709551616) (w : World) (ht : Tab w) : Calls Tryz.prog 158 #[.int .u64 u, .int .i64 10] w fun e w' => e = .returned (.string ⟨(Lib.decDigits u).toArray⟩) ∧ Below w.heap.size w w' := by
 by_cases h : u < 100
 ·have hc := Lib.hid (fmtU_small u h)
  go_enter Tryz.func158, Tryz.ntmps158
  go_wp2_with (go_at_call 199; refine (hc.out _).mono ?_; rintro e w' ⟨rfl, hb⟩)
  go_ret
  exact ⟨rfl, hb⟩
 ·have hc := Lib.hid (fmtU_big u (Nat.not_lt.1 h) hu64 w ht)
  go_enter Tryz.func158, Tryz.ntmps158
  go_wp2_with (go_at_call 199; refine hc.out.mono ?_; rintro e w' ⟨rfl, hb⟩)
  go_ret
  exact ⟨rfl, hb⟩
end Go.Proofs.YtgmhifafbebjfaaGreatDoor
namespace Go.Proofs.YtgmhifafbebjfaaGreatDoor
open Go.ChangeShapes Go.WideShapes Go.ChangeAt Go.RowKit
open Go.ChangeMaps (open_string)

def setCellsD (cs : Array Value) : Obj → Obj
 | .cells _ t frozen => .cells cs t frozen
 | o => o
def flatDD : Nat → DataW Unit → List Value
 | _, .lit (.int k v) => [.int k v]
 | n + 1, .agg l => (l.map (flatDD n)).flatten
 | _, _ => []
noncomputable def laidWorldD (os : Os) : World :=
 let N := (World.settled Tryz.prog os).heap.size
 let w0 := World.holding Tryz.prog os ⟨#[.cells #[.string ⟨#[118, 97, 108, 117, 101, 32, 111, 117, 116, 32, 111, 102, 32, 114, 97, 110, 103, 101]⟩] 269, .cells #[.string ⟨#[105, 110, 118, 97, 108, 105, 100, 32, 115, 121, 110, 116, 97, 120]⟩] 269], #[], []⟩
 { w0 with heap := (((((((w0.heap.modify 8 (setCellsD (flatDD 9 (Rows.laid_math_bits_deBruijn32tab : DataW Unit)).toArray)).modify 9 (setCellsD (flatDD 9 (Rows.laid_math_bits_deBruijn64tab : DataW Unit)).toArray)).modify 3 (setCellsD (flatDD 9 (Rows.laid_internal_strconv_uint64pow10 : DataW Unit)).toArray)).modify 5 (setCellsD (flatDD 9 (Rows.laid_unicode_utf8_acceptRanges : DataW Unit)).toArray)).modify 4 (setCellsD (flatDD 9 (Rows.laid_unicode_utf8_first : DataW Unit)).toArray)).modify 7 (setCellsD #[.iface 267 (.pointer (some ⟨N, 0, none⟩))])).modify 6 (setCellsD #[.iface 267 (.pointer (some ⟨N + 1, 0, none⟩))])) }
theorem laidMet_tailD {P : Program} {W : World} {x : String × DataW Unit} {rest : List (String × DataW Unit)} (h : laidMet P (x :: rest) W) : laidMet P rest W := by
 obtain ⟨ps, ⟨g, t, cs, fuel, p, q, h1, h2, h3, h4, h5, e⟩, hn, hc⟩ := h
 exact ⟨q, h5, (by rw [e] at hn; exact (List.nodup_append.1 hn).2.1), fun b off hq => hc b off (by rw [e]; simp [hq])⟩
theorem cellsTabD : Tryz.prog.cellsOf 246 = 20 := by kernel_rfl
theorem cellsU64D : Tryz.prog.cellsOf 119 = 1 := by kernel_rfl
theorem typePowD : (Tryz.prog.globals[3]?).map (·.type) = some 246 := by kernel_rfl
theorem tab_ofD {rest : List (String × DataW Unit)} {W : World} (h : laidMet Tryz.prog (("internal/strconv.uint64pow10", Lib.tabData .u64 Lib.pow10Tab) :: rest) W) (hs : W.ShapedOpen Tryz.prog) : Tab W :=
 ⟨Lib.tabIs_of_head gPow typePowD Tryz.underlying246 Tryz.underlying119 cellsU64D cellsTabD h,
  cell_of_shapedOpen_int (zero := #[.int .i64 0]) (t := 3) hs (of_decide_eq_true (by kernel_rfl)) (by kernel_rfl) rfl (by kernel_rfl) (by kernel_rfl) Tryz.underlying3⟩
end Go.Proofs.YtgmhifafbebjfaaGreatDoor
namespace Go.Proofs.YtgmhifafbebjfaaGreatDoor
open Go

def four (r : Nat) : List UInt8 := [UInt8.ofNat (48 + r / 1000), UInt8.ofNat (48 + r / 100 % 10), UInt8.ofNat (48 + r / 10 % 10), UInt8.ofNat (48 + r % 10)]
def frac (r : Nat) : List UInt8 := Lib.trimRightB (four r) 48
def textOf (low : Bool) (n : Nat) : List UInt8 := (if low then [45] else []) ++ (Lib.decDigits (n / 10000) ++ (if n % 10000 = 0 then [] else 46 :: frac (n % 10000)))
def printL (x : Int) : List UInt8 := if x = -9223372036854775808 then [] else textOf (decide (x < 0)) x.natAbs

theorem decSnoc {r : Nat} (h : 10 ≤ r) : Lib.decDigits r = Lib.decDigits (r / 10) ++ [UInt8.ofNat (48 + r % 10)] := by
 rw [Lib.decDigits, dif_neg (by omega)]
theorem dec_five {r : Nat} (h : r < 10000) : Lib.decDigits (10000 + r) = 49 :: four r := by
 rw [decSnoc (by omega), decSnoc (by omega), decSnoc (by omega), decSnoc (by omega), Lib.decDigits_one (by omega)]
 simp only [four, List.cons_append, List.nil_append]
 have e1 : (10000 + r) / 10 / 10 / 10 / 10 = 1 := by omega
 have e2 : (10000 + r) / 10 / 10 / 10 % 10 = r / 1000 := by omega
 have e3 : (10000 + r) / 10 / 10 % 10 = r / 100 % 10 := by omega
 have e4 : (10000 + r) / 10 % 10 = r / 10 % 10 := by omega
 have e5 : (10000 + r) % 10 = r % 10 := by omega
 rw [e1, e2, e3, e4, e5]
 rfl
theorem dec_len20 {u : Nat} (h : u < 18446744073709551616) : (Lib.decDigits u).length ≤ 20 := by
 rw [Lib.decDigits_length]
 by_cases h0 : u = 0
 ·subst h0; rw [Lib.nDigits_small (by omega)]; omega
 ·have := Lib.numDigits_eq u (by omega) h
  split at this <;> omega
theorem frac_len (r : Nat) : (frac r).length ≤ 4 := by
 unfold frac Lib.trimRightB
 rw [List.length_reverse]
 refine Nat.le_trans (List.dropWhile_sublist _).length_le ?_
 simp [four]
def digs : Nat → Nat → List UInt8
 | 0, _ => []
 | k + 1, r => if r = 0 then [] else UInt8.ofNat (48 + r / 1000) :: digs k (r % 1000 * 10)
theorem digs_frac : ∀ a b c d : Fin 10, a.val * 1000 + b.val * 100 + c.val * 10 + d.val = 0 ∨ digs 4 (a.val * 1000 + b.val * 100 + c.val * 10 + d.val) = frac (a.val * 1000 + b.val * 100 + c.val * 10 + d.val) := by decide +kernel
theorem digs_four {r : Nat} (h : r < 10000) (h0 : r ≠ 0) : digs 4 r = frac r := by
 have := digs_frac ⟨r / 1000, by omega⟩ ⟨r / 100 % 10, by omega⟩ ⟨r / 10 % 10, by omega⟩ ⟨r % 10, by omega⟩
 simp only at this
 rw [show r / 1000 * 1000 + r / 100 % 10 * 100 + r / 10 % 10 * 10 + r % 10 = r by omega] at this
 exact this.resolve_left h0
end Go.Proofs.YtgmhifafbebjfaaGreatDoor
namespace Go.Proofs.YtgmhifafbebjfaaGreatDoor
open Go.RowKit

theorem absI_nat (x : Int) : absI x = (x.natAbs : Int) := by unfold absI; split <;> omega
theorem size_nat (x : Int) (N : Nat) (hx : -9223372036854775808 ≤ x ∧ x ≤ 9223372036854775807) (h : x.natAbs = N) (w : World) : Calls Tryz.prog 157 #[.int .i64 x] w fun e w' => e = .returned (.tuple #[.int .u64 N, .bool (decide (x < 0))]) ∧ w = w' := by
 have := size_any x hx w
 rw [absI_nat, h] at this
 exact this
theorem dprint_no (x : Int) (h : x = -9223372036854775808) (w : World) : Calls Tryz.prog 85 #[.int .i64 x] w fun e w' => e = .returned (.string ⟨(printL x).toArray⟩) ∧ Below w.heap.size w w' := by
 have hr := Lib.hid (show printL x = [] by simp [printL, h])
 have hx : -9223372036854775808 ≤ x ∧ x ≤ 9223372036854775807 := by omega
 have m1 := may_no h
 clear h
 go_enter Tryz.func85, Tryz.ntmps85
 go_wp2_with (go_at_call 87; refine (dmay_any _ (by first | assumption | (constructor <;> omega)) _).mono ?_; rintro e w1 ⟨rfl, rfl⟩)
 go_ret
 exact ⟨by rw [hr.out]; rfl, Below.refl _ _⟩
theorem dprint0 (x : Int) (hx : -9223372036854775808 ≤ x ∧ x ≤ 9223372036854775807) (h : x ≠ -9223372036854775808) (hs : 0 ≤ x) (N : Nat) (hN : x.natAbs = N) (hN1 : N ≤ 9223372036854775807) (hr : N % 10000 = 0) (w : World) (ht : Tab w) : Calls Tryz.prog 85 #[.int .i64 x] w fun e w' => e = .returned (.string ⟨(printL x).toArray⟩) ∧ Below w.heap.size w w' := by
 have hp : printL x = (Lib.decDigits (N / 10000)) := by
  have e2 : decide (x < 0) = false := by simp; omega
  have e3 : N % 10000 = 0 := hr
  simp [printL, textOf, h, hN, e2, e3]
 have hp' := Lib.hid hp
 clear hp
 have m1 := may_yes h
 have hd : decide (x < 0) = false := by simp; omega
 have hl1 := dec_len20 (u := N / 10000) (by omega)
 have hl2 := frac_len (N % 10000)
 have hN' := Lib.hid hN
 clear hN h
 go_enter Tryz.func85, Tryz.ntmps85
 go_wp2_with (first | (go_at_call 87; refine (dmay_any _ (by first | assumption | (constructor <;> omega)) _).mono ?_; rintro e w1 ⟨rfl, rfl⟩) | (go_at_call 157; refine (size_nat x N hx hN'.out _).mono ?_; rintro e w1 ⟨rfl, rfl⟩))
 rw [show ((N : Int) / 10000) = ((N / 10000 : Nat) : Int) from by omega]
 refine (fmtU_any _ (by omega) _ ht).mono ?_
 rintro e w1 ⟨rfl, hb1⟩
 have ht1 := Tab.below ht hb1
 have z1 := hb1.size
 go_wp2
 go_ret
 exact ⟨by rw [hp'.out]; rfl, hb1⟩
theorem dprint1 (x : Int) (hx : -9223372036854775808 ≤ x ∧ x ≤ 9223372036854775807) (h : x ≠ -9223372036854775808) (hs : 0 ≤ x) (N : Nat) (hN : x.natAbs = N) (hN1 : N ≤ 9223372036854775807) (hr : 0 < N % 10000) (w : World) (ht : Tab w) : Calls Tryz.prog 85 #[.int .i64 x] w fun e w' => e = .returned (.string ⟨(printL x).toArray⟩) ∧ Below w.heap.size w w' := by
 have hp : printL x = (Lib.decDigits (N / 10000) ++ 46 :: frac (N % 10000)) := by
  have e2 : decide (x < 0) = false := by simp; omega
  have e3 : ¬ N % 10000 = 0 := by omega
  simp [printL, textOf, h, hN, e2, e3]
 have hp' := Lib.hid hp
 clear hp
 have m1 := may_yes h
 have hd : decide (x < 0) = false := by simp; omega
 have hl1 := dec_len20 (u := N / 10000) (by omega)
 have hl2 := frac_len (N % 10000)
 have ha2 : ∀ w' : World, (Op.stringOp .add ⟨#[46]⟩ ⟨(frac (N % 10000)).toArray⟩).run Tryz.prog w' = .ok (.string ⟨(46 :: frac (N % 10000)).toArray⟩) w' := fun w' => run_string_add_lists (P := Tryz.prog) w' [46] (frac (N % 10000)) (by decide) (by omega)
 have ha3 : ∀ w' : World, (Op.stringOp .add ⟨(Lib.decDigits (N / 10000)).toArray⟩ ⟨(46 :: frac (N % 10000)).toArray⟩).run Tryz.prog w' = .ok (.string ⟨(Lib.decDigits (N / 10000) ++ 46 :: frac (N % 10000)).toArray⟩) w' := fun w' => run_string_add_lists (P := Tryz.prog) w' (Lib.decDigits (N / 10000)) (46 :: frac (N % 10000)) (by first | omega | (simp; omega)) (by simp; omega)
 have h5 : Lib.decDigits (10000 + N % 10000) = 49 :: four (N % 10000) := dec_five (by omega)
 have hx1 : (⟨(49 :: four (N % 10000)).toArray⟩ : ByteArray).extract 1 ((four (N % 10000)).length + 1) = ⟨(four (N % 10000)).toArray⟩ := by
  apply ByteArray.ext
  simp [four]
 have h5' := Lib.hid h5
 clear h5
 have hN' := Lib.hid hN
 clear hN h
 go_enter Tryz.func85, Tryz.ntmps85
 go_wp2_with (first | (go_at_call 87; refine (dmay_any _ (by first | assumption | (constructor <;> omega)) _).mono ?_; rintro e w1 ⟨rfl, rfl⟩) | (go_at_call 157; refine (size_nat x N hx hN'.out _).mono ?_; rintro e w1 ⟨rfl, rfl⟩))
 rw [show ((N : Int) / 10000) = ((N / 10000 : Nat) : Int) from by omega]
 refine (fmtU_any _ (by omega) _ ht).mono ?_
 rintro e w1 ⟨rfl, hb1⟩
 have ht1 := Tab.below ht hb1
 have z1 := hb1.size
 go_wp2_with fail
 rw [show (10000 + (N : Int) % 10000) = ((10000 + N % 10000 : Nat) : Int) from by omega]
 refine (fmtU_any _ (by omega) _ ht1).mono ?_
 rintro e w2 ⟨rfl, hb2⟩
 rw [h5'.out]
 go_wp2_with fail
 refine (Tryz.strings_TrimRight_one ⟨(four (N % 10000)).toArray⟩ 48 (by decide) _ (by show (four (N % 10000)).toArray.size ≤ _; simp [four])).mono ?_
 rintro e w3 ⟨rfl, rfl⟩
 rw [show Lib.trimRightB (⟨(four (N % 10000)).toArray⟩ : ByteArray).data.toList 48 = frac (N % 10000) from by simp [frac]]
 go_wp2
 go_ret
 exact ⟨by rw [hp'.out]; rfl, belq⟩
theorem dprint2 (x : Int) (hx : -9223372036854775808 ≤ x ∧ x ≤ 9223372036854775807) (h : x ≠ -9223372036854775808) (hs : x < 0) (N : Nat) (hN : x.natAbs = N) (hN1 : N ≤ 9223372036854775807) (hr : N % 10000 = 0) (w : World) (ht : Tab w) : Calls Tryz.prog 85 #[.int .i64 x] w fun e w' => e = .returned (.string ⟨(printL x).toArray⟩) ∧ Below w.heap.size w w' := by
 have hp : printL x = 45 :: (Lib.decDigits (N / 10000)) := by
  have e2 : decide (x < 0) = true := by simp; omega
  have e3 : N % 10000 = 0 := hr
  simp [printL, textOf, h, hN, e2, e3]
 have hp' := Lib.hid hp
 clear hp
 have m1 := may_yes h
 have hd : decide (x < 0) = true := by simp; omega
 have hl1 := dec_len20 (u := N / 10000) (by omega)
 have hl2 := frac_len (N % 10000)
 have ha1 : ∀ w' : World, (Op.stringOp .add ⟨#[45]⟩ ⟨(Lib.decDigits (N / 10000)).toArray⟩).run Tryz.prog w' = .ok (.string ⟨(45 :: Lib.decDigits (N / 10000)).toArray⟩) w' := fun w' => run_string_add_lists (P := Tryz.prog) w' [45] (Lib.decDigits (N / 10000)) (by decide) (by omega)
 have hN' := Lib.hid hN
 clear hN h
 go_enter Tryz.func85, Tryz.ntmps85
 go_wp2_with (first | (go_at_call 87; refine (dmay_any _ (by first | assumption | (constructor <;> omega)) _).mono ?_; rintro e w1 ⟨rfl, rfl⟩) | (go_at_call 157; refine (size_nat x N hx hN'.out _).mono ?_; rintro e w1 ⟨rfl, rfl⟩))
 rw [show ((N : Int) / 10000) = ((N / 10000 : Nat) : Int) from by omega]
 refine (fmtU_any _ (by omega) _ ht).mono ?_
 rintro e w1 ⟨rfl, hb1⟩
 have ht1 := Tab.below ht hb1
 have z1 := hb1.size
 go_wp2
 go_ret
 exact ⟨by rw [hp'.out]; rfl, hb1⟩
theorem dprint3 (x : Int) (hx : -9223372036854775808 ≤ x ∧ x ≤ 9223372036854775807) (h : x ≠ -9223372036854775808) (hs : x < 0) (N : Nat) (hN : x.natAbs = N) (hN1 : N ≤ 9223372036854775807) (hr : 0 < N % 10000) (w : World) (ht : Tab w) : Calls Tryz.prog 85 #[.int .i64 x] w fun e w' => e = .returned (.string ⟨(printL x).toArray⟩) ∧ Below w.heap.size w w' := by
 have hp : printL x = 45 :: (Lib.decDigits (N / 10000) ++ 46 :: frac (N % 10000)) := by
  have e2 : decide (x < 0) = true := by simp; omega
  have e3 : ¬ N % 10000 = 0 := by omega
  simp [printL, textOf, h, hN, e2, e3]
 have hp' := Lib.hid hp
 clear hp
 have m1 := may_yes h
 have hd : decide (x < 0) = true := by simp; omega
 have hl1 := dec_len20 (u := N / 10000) (by omega)
 have hl2 := frac_len (N % 10000)
 have ha1 : ∀ w' : World, (Op.stringOp .add ⟨#[45]⟩ ⟨(Lib.decDigits (N / 10000)).toArray⟩).run Tryz.prog w' = .ok (.string ⟨(45 :: Lib.decDigits (N / 10000)).toArray⟩) w' := fun w' => run_string_add_lists (P := Tryz.prog) w' [45] (Lib.decDigits (N / 10000)) (by decide) (by omega)
 have ha2 : ∀ w' : World, (Op.stringOp .add ⟨#[46]⟩ ⟨(frac (N % 10000)).toArray⟩).run Tryz.prog w' = .ok (.string ⟨(46 :: frac (N % 10000)).toArray⟩) w' := fun w' => run_string_add_lists (P := Tryz.prog) w' [46] (frac (N % 10000)) (by decide) (by omega)
 have ha3 : ∀ w' : World, (Op.stringOp .add ⟨(45 :: Lib.decDigits (N / 10000)).toArray⟩ ⟨(46 :: frac (N % 10000)).toArray⟩).run Tryz.prog w' = .ok (.string ⟨(45 :: Lib.decDigits (N / 10000) ++ 46 :: frac (N % 10000)).toArray⟩) w' := fun w' => run_string_add_lists (P := Tryz.prog) w' (45 :: Lib.decDigits (N / 10000)) (46 :: frac (N % 10000)) (by first | omega | (simp; omega)) (by simp; omega)
 have h5 : Lib.decDigits (10000 + N % 10000) = 49 :: four (N % 10000) := dec_five (by omega)
 have hx1 : (⟨(49 :: four (N % 10000)).toArray⟩ : ByteArray).extract 1 ((four (N % 10000)).length + 1) = ⟨(four (N % 10000)).toArray⟩ := by
  apply ByteArray.ext
  simp [four]
 have h5' := Lib.hid h5
 clear h5
 have hN' := Lib.hid hN
 clear hN h
 go_enter Tryz.func85, Tryz.ntmps85
 go_wp2_with (first | (go_at_call 87; refine (dmay_any _ (by first | assumption | (constructor <;> omega)) _).mono ?_; rintro e w1 ⟨rfl, rfl⟩) | (go_at_call 157; refine (size_nat x N hx hN'.out _).mono ?_; rintro e w1 ⟨rfl, rfl⟩))
 rw [show ((N : Int) / 10000) = ((N / 10000 : Nat) : Int) from by omega]
 refine (fmtU_any _ (by omega) _ ht).mono ?_
 rintro e w1 ⟨rfl, hb1⟩
 have ht1 := Tab.below ht hb1
 have z1 := hb1.size
 go_wp2_with fail
 rw [show (10000 + (N : Int) % 10000) = ((10000 + N % 10000 : Nat) : Int) from by omega]
 refine (fmtU_any _ (by omega) _ ht1).mono ?_
 rintro e w2 ⟨rfl, hb2⟩
 rw [h5'.out]
 go_wp2_with fail
 refine (Tryz.strings_TrimRight_one ⟨(four (N % 10000)).toArray⟩ 48 (by decide) _ (by show (four (N % 10000)).toArray.size ≤ _; simp [four])).mono ?_
 rintro e w3 ⟨rfl, rfl⟩
 rw [show Lib.trimRightB (⟨(four (N % 10000)).toArray⟩ : ByteArray).data.toList 48 = frac (N % 10000) from by simp [frac]]
 go_wp2
 go_ret
 exact ⟨by rw [hp'.out]; rfl, belq⟩
theorem dprint_any (x : Int) (hx : -9223372036854775808 ≤ x ∧ x ≤ 9223372036854775807) (w : World) (ht : Tab w) : Calls Tryz.prog 85 #[.int .i64 x] w fun e w' => e = .returned (.string ⟨(printL x).toArray⟩) ∧ Below w.heap.size w w' := by
 by_cases h : x = -9223372036854775808
 ·exact dprint_no x h w
 have hN1 : x.natAbs ≤ 9223372036854775807 := by omega
 by_cases hs : x < 0 <;> by_cases hr : x.natAbs % 10000 = 0
 ·exact dprint2 x hx h hs _ rfl hN1 hr w ht
 ·exact dprint3 x hx h hs _ rfl hN1 (by omega) w ht
 ·exact dprint0 x hx h (by omega) _ rfl hN1 hr w ht
 ·exact dprint1 x hx h (by omega) _ rfl hN1 (by omega) w ht
end Go.Proofs.YtgmhifafbebjfaaGreatDoor
namespace Go.Proofs.YtgmhifafbebjfaaGreatDoor
open Go.RowKit

theorem div64_small (lo y : Nat) (hlo : lo < 18446744073709551616) (hy : y < 18446744073709551616) (h0 : 0 < y) (w : World) : Calls Tryz.prog 176 #[.int .u64 0, .int .u64 lo, .int .u64 y] w fun e w' => e = .returned (.tuple #[.int .u64 ((lo / y : Nat) : Int), .int .u64 ((lo % y : Nat) : Int)]) ∧ Below w.heap.size w w' := by
 have T1 : IntKind.u64.wrap ((lo : Int).tdiv y) = (lo : Int) / y := IntWalk.u64_quo _ _ (by omega)
 have T2 : (lo : Int).tmod y = (lo : Int) % y := Int.tmod_eq_emod_of_nonneg (by omega)
 have hq : (lo : Int) / y = ((lo / y : Nat) : Int) := by simp
 have hr : (lo : Int) % y = ((lo % y : Nat) : Int) := by simp
 have hq' := Lib.hid hq
 have hr' := Lib.hid hr
 have T3 : IntKind.u64.wrap ((lo : Int) % y) = (lo : Int) % y := IntWalk.u64_in _ (by rw [hr]; have := Nat.mod_lt lo h0; omega)
 have T4 : IntKind.u64.wrap ((lo : Int) / y) = (lo : Int) / y := IntWalk.u64_in _ (by rw [hq]; exact ⟨Int.natCast_nonneg _, Int.le_trans (Int.ofNat_le.2 (Nat.div_le_self lo y)) (by omega)⟩)
 clear hq hr
 go_enter Tryz.func176, Tryz.ntmps176
 go_wp2
 go_quiet (fail)
 go_wp2
 go_ret2
 refine ⟨?_, by first | assumption | (go_split_ands; first | assumption | exact belq) | exact belq⟩
 rw [← hq'.out, ← hr'.out]
 rfl
end Go.Proofs.YtgmhifafbebjfaaGreatDoor
