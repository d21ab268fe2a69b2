/-
  The document's own names of cells: column, digits, Name; Contracts of Go's library at this seat's translation, laid by the kit's own command in its plain mode; Name of package addr; orielref04: bytes, words; A strings.Builder of one's own.
-/
import Derived.Test.YtfbkoieodflcpaaGreatDoorProg
import Derived.Test.YtfbkoieodflcpaaGreatDoorShelf
import Derived.Test.YtfbkoieodflcpaaGreatDoorRows
import Derived.Test.YtfbkoieodflcpaaGreatDoorMg0
import Derived.Test.YtfbkoieodflcpaaGreatDoorAddrC
import Derived.Test.YtfbkoieodflcpaaGreatDoorMg6
import Derived.Test.YtfbkoieodflcpaaGreatDoorMg3
import Derived.Test.YtfbkoieodflcpaaGreatDoorMg4
import Derived.Test.YtfbkoieodflcpaaGreatDoorValA
import Derived.Test.YtfbkoieodflcpaaGreatDoorValB
import Derived.Test.YtfbkoieodflcpaaGreatDoorMg9
import Derived.Test.YtfbkoieodflcpaaGreatDoorMg2
import Derived.Shelf.Strings.Builder1
import Derived.Shelf.Strings.Builder2
import Derived.Shelf.Strings.Trim
import Derived.Shelf.Small.Utf8
import Derived.Shelf.Small.Strs
import Derived.Shelf.Small.Wraps
import Derived.Shelf.Strings.BuilderF
import Derived.Shelf.Strings.BuilderK
import Derived.Shelf.Utf8.RuneCount
import Derived.Shelf.Strconv.Itoa0
import Derived.Shelf.Strconv.Itoa1
import Derived.Shelf.LaysM
import Derived.Shelf.Strconv.Itoa2
import Derived.Shelf.Strconv.Itoa3
import Derived.Ground.MpProg
import Derived.Shelf.Pu.ParseUintPublic10
import Derived.Shelf.Strings.Search1
import Derived.Shelf.Strings.Search2
import Derived.Shelf.Strings.Search3
import Derived.Shelf.Strings.Cut
import Derived.Shelf.Strings.Count
import Derived.Shelf.Strings.Shaped
import Derived.Shelf.Strings.Prefix
import Derived.Shelf.Strings.Split
import Derived.Shelf.Strings.Replace
import Derived.Shelf.Strings.SplitShaped
import Derived.Shelf.Unicode.Decode
import Derived.Shelf.Strings.Runes
import Derived.Shelf.Strings.RuneCount
import Derived.Shelf.Strings.AsciiSet
import Derived.Shelf.Unicode.DecodeSlow
import Derived.Shelf.Unicode.DecodeAny
import Derived.Shelf.Unicode.DecodeLast
import Derived.WalkSpells
import Derived.WalkLawsBesides
import Derived.StillTactics
import Derived.Laws.Pointers
import Derived.Deep.RegionHeld3
import Derived.Deep.QuietTactic
import Derived.BigQuiet
import Derived.RowKit3
import Derived.Lib.Hide
import Derived.Lib.OthersKept
import Derived.OwnWalk
import Derived.Lib.IndexLaws
import Derived.Lib.ItoaMem
import Derived.WalkKit
import Derived.ProofKit
import Derived.OpenShut
import Derived.Carry
import Derived.ChangeSame
import Derived.Deep.Draws
import Derived.Lib.ItoaNum
import Derived.Lib.TrimByte
import Derived.Lib.SlTrimSet
import Derived.Lib.ParseIntB
namespace Go.Proofs.YtfbkoieodflcpaaGreatDoor
open Go.RowKit

theorem bytes_append (a b : List UInt8) : (⟨a.toArray⟩ : ByteArray) ++ ⟨b.toArray⟩ = ⟨(a ++ b).toArray⟩ := by
  apply ByteArray.ext
  simp

/-- a cell's name, the empty text of one that may not be -/
def nameZ (r c : Int) : List UInt8 := if mayB r c then colL c.toNat ++ Lib.decDigits r.toNat else []
theorem nameZ_nat {r c : Nat} (h : mayN r c = true) : nameZ r c = nameL r c := by
  unfold nameZ
  rw [mayB_nat, h, if_pos rfl]
  simp [nameL]
theorem nameZ_no {r c : Int} (h : mayB r c = false) : nameZ r c = [] := by simp [nameZ, h]
theorem mayB_ints {r c : Int} (h : mayB r c = true) : ∃ r' c' : Nat, r = r' ∧ c = c' ∧ mayN r' c' = true := by
  obtain ⟨h1, h2, h3, h4⟩ : 1 ≤ r ∧ r ≤ 4096 ∧ 1 ≤ c ∧ c ≤ 256 := by simpa [mayB, and_assoc] using h
  obtain ⟨r, rfl⟩ := Int.eq_ofNat_of_zero_le (show 0 ≤ r by omega)
  obtain ⟨c, rfl⟩ := Int.eq_ofNat_of_zero_le (show 0 ≤ c by omega)
  exact ⟨r, c, rfl, rfl, by rw [← mayB_nat]; exact h⟩
end Go.Proofs.YtfbkoieodflcpaaGreatDoor
namespace Go.Proofs
open Go.Shelf
def Tryz.lays169_ren : Go.Shelf.Ren := ⟨fun | 169 => 18 | n => n, fun | 70 => 56 | 9 => 9 | 0 => 0 | 72 => 59 | 37 => 57 | 127 => 90 | 3 => 3 | 5 => 5 | n => n, fun | n => n⟩
theorem Tryz.lays169 : Go.Proofs.Lays.n169 Tryz.prog Tryz.lays169_ren := {
  mixed := by kernel_rfl
  f169 := Tryz.func18.trans (congrArg some (by kernel_rfl))
  t0 := Tryz.underlying0
  a0 := Tryz.isAgg0
  z0 := Tryz.sizeOf0
  v0 := Tryz.zeroValue0
  t3 := Tryz.underlying3
  a3 := Tryz.isAgg3
  z3 := Tryz.sizeOf3
  v3 := Tryz.zeroValue3
  t9 := Tryz.underlying9
  a9 := Tryz.isAgg9
  z9 := Tryz.sizeOf9
  v9 := Tryz.zeroValue9
  t37 := Tryz.underlying57
  a37 := Tryz.isAgg57
  z37 := Tryz.sizeOf57
  v37 := Tryz.zeroValue57
  t70 := Tryz.underlying56
  a70 := Tryz.isAgg56
  z70 := Tryz.sizeOf56
  v70 := Tryz.zeroValue56
  t72 := Tryz.underlying59
  a72 := Tryz.isAgg59
  z72 := Tryz.sizeOf59
  v72 := Tryz.zeroValue59
  t127 := Tryz.underlying90
  a127 := Tryz.isAgg90
  z127 := Tryz.sizeOf90
  v127 := Tryz.zeroValue90 }
theorem Tryz.Builder_Extra_169 : Builder.Extra Tryz.prog Tryz.lays169_ren := {
  sizeBuilder := by kernel_rfl
  liesBuilder := by kernel_rfl
  t5 := Tryz.underlying5
  a5 := Tryz.isAgg5
  z5 := Tryz.sizeOf5
  v5 := Tryz.zeroValue5
  infoByte := by kernel_rfl
  cellsByte := by kernel_rfl
  sizeByte := by kernel_rfl
  neB5 := by decide }
open Go.RowKit in
/-- (*strings.Builder).String: "String returns the accumulated string.": WHATEVER THE BUILDER HOLDS; THE FORM '_f': OF A BUILDER THAT MAY HAVE BEEN READ BEFORE; AND IT IS A BUILDER STILL, holding the same bytes: it can be written on. (LAID: no walk: one application.) -/
theorem Tryz.Builder_String_any_f (B b : Nat) (l : List UInt8) (w : World) (h : Lib.IsBuilderF 59 5 B b (Lib.byteCells l) w) (hBw : B ≤ w.heap.size) :
    Calls Tryz.prog 18 #[.pointer (some ⟨b, 0, none⟩)] w fun e w' => e = .returned (.string ⟨l.toArray⟩) ∧ (Lib.IsBuilderF 59 5 B b (Lib.byteCells l) w' ∧ Below B w w') := Any.Builder_String_any_f Tryz.lays169 Tryz.Builder_Extra_169 B b l w h hBw
def Tryz.laysM171_ren : Go.Shelf.Ren := ⟨fun | 171 => 33 | 243 => 68 | 246 => 110 | 283 => 129 | 284 => 130 | 285 => 131 | 286 => 132 | 129 => 148 | 317 => 147 | 318 => 149 | 319 => 150 | 320 => 151 | 337 => 165 | 338 => 166 | n => n, fun | 3 => 3 | 9 => 9 | 2 => 2 | 4 => 4 | 171 => 173 | 0 => 0 | 53 => 112 | 37 => 57 | 5 => 5 | 173 => 176 | 212 => 181 | 51 => 182 | 20 => 20 | 213 => 183 | 46 => 185 | 232 => 206 | 233 => 207 | n => n, fun | 17 => 0 | 18 => 6 | 19 => 7 | n => n⟩
theorem Tryz.laysM171 : Go.Proofs.LaysM.n171 Tryz.prog Tryz.laysM171_ren := {
  mixed := by kernel_rfl
  f129 := Tryz.func148.trans (congrArg some (by kernel_rfl))
  f171 := Tryz.func33.trans (congrArg some (by kernel_rfl))
  f243 := Tryz.func68.trans (congrArg some (by kernel_rfl))
  f246 := Tryz.func110.trans (congrArg some (by kernel_rfl))
  f283 := Tryz.func129.trans (congrArg some (by kernel_rfl))
  f284 := Tryz.func130.trans (congrArg some (by kernel_rfl))
  f285 := Tryz.func131.trans (congrArg some (by kernel_rfl))
  f286 := Tryz.func132.trans (congrArg some (by kernel_rfl))
  f317 := Tryz.func147.trans (congrArg some (by kernel_rfl))
  f318 := Tryz.func149.trans (congrArg some (by kernel_rfl))
  f319 := Tryz.func150.trans (congrArg some (by kernel_rfl))
  f320 := Tryz.func151.trans (congrArg some (by kernel_rfl))
  f337 := Tryz.func165.trans (congrArg some (by kernel_rfl))
  f338 := Tryz.func166.trans (congrArg some (by kernel_rfl))
  t0 := Tryz.underlying0
  a0 := Tryz.isAgg0
  z0 := Tryz.sizeOf0
  v0 := Tryz.zeroValue0
  t2 := Tryz.underlying2
  a2 := Tryz.isAgg2
  z2 := Tryz.sizeOf2
  v2 := Tryz.zeroValue2
  t3 := Tryz.underlying3
  a3 := Tryz.isAgg3
  z3 := Tryz.sizeOf3
  v3 := Tryz.zeroValue3
  t4 := Tryz.underlying4
  a4 := Tryz.isAgg4
  z4 := Tryz.sizeOf4
  v4 := Tryz.zeroValue4
  t5 := Tryz.underlying5
  a5 := Tryz.isAgg5
  z5 := Tryz.sizeOf5
  v5 := Tryz.zeroValue5
  t9 := Tryz.underlying9
  a9 := Tryz.isAgg9
  z9 := Tryz.sizeOf9
  v9 := Tryz.zeroValue9
  t20 := Tryz.underlying20
  a20 := Tryz.isAgg20
  z20 := Tryz.sizeOf20
  v20 := Tryz.zeroValue20
  t37 := Tryz.underlying57
  a37 := Tryz.isAgg57
  z37 := Tryz.sizeOf57
  v37 := Tryz.zeroValue57
  t46 := Tryz.underlying185
  a46 := Tryz.isAgg185
  z46 := Tryz.sizeOf185
  v46 := Tryz.zeroValue185
  t51 := Tryz.underlying182
  a51 := Tryz.isAgg182
  z51 := Tryz.sizeOf182
  v51 := Tryz.zeroValue182
  t53 := Tryz.underlying112
  a53 := Tryz.isAgg112
  z53 := Tryz.sizeOf112
  v53 := Tryz.zeroValue112
  t171 := Tryz.underlying173
  a171 := Tryz.isAgg173
  z171 := Tryz.sizeOf173
  v171 := Tryz.zeroValue173
  t173 := Tryz.underlying176
  a173 := Tryz.isAgg176
  z173 := Tryz.sizeOf176
  v173 := Tryz.zeroValue176
  t212 := Tryz.underlying181
  a212 := Tryz.isAgg181
  z212 := Tryz.sizeOf181
  v212 := Tryz.zeroValue181
  t213 := Tryz.underlying183
  a213 := Tryz.isAgg183
  z213 := Tryz.sizeOf183
  t232 := Tryz.underlying206
  a232 := Tryz.isAgg206
  z232 := Tryz.sizeOf206
  v232 := Tryz.zeroValue206
  t233 := Tryz.underlying207
  a233 := Tryz.isAgg207
  z233 := Tryz.sizeOf207
  v233 := Tryz.zeroValue207
  g17 := by kernel_rfl
  g18 := by kernel_rfl
  g19 := by kernel_rfl
  i0 := by kernel_rfl
  i2 := by kernel_rfl
  i3 := by kernel_rfl
  i4 := by kernel_rfl
  i5 := by kernel_rfl
  i9 := by kernel_rfl
  i20 := by kernel_rfl
  i37 := by kernel_rfl
  i46 := by kernel_rfl
  i51 := by kernel_rfl
  i53 := by kernel_rfl
  i171 := by kernel_rfl
  i173 := by kernel_rfl
  i212 := by kernel_rfl
  i232 := by kernel_rfl
  i233 := by kernel_rfl
  m17 := by kernel_rfl
  m18 := by kernel_rfl
  m19 := by kernel_rfl }
open Go.RowKit Go.Sort Go.Lib in
/-- strconv.Itoa: "Itoa is equivalent to FormatInt(int64(i), 10).": i's DECIMAL NUMERAL ('Lib.itoa': a '-' where i is negative, then the digits), FOR EVERY int. The world behind the call: the world before it, new blocks behind the heap (the library's 'var a [24]byte'), draws. (LAID: no walk: one application.) -/
theorem Tryz.strconv_Itoa (n : Int) (h0 : -9223372036854775808 ≤ n) (h1 : n ≤ 9223372036854775807) (w : World) (htab : Lib.TabIs Tryz.prog w "internal/strconv.uint64pow10" .u64 Lib.pow10Tab) :
    Calls Tryz.prog 33 #[.int .i64 n] w fun e w' => e = .returned (.string ⟨(Lib.itoa n).toArray⟩) ∧ ∃ k os, w' = grow (w.drewN k) os := Any.strconv_Itoa Tryz.laysM171 n h0 h1 w htab
def Tryz.lays155_ren : Go.Shelf.Ren := ⟨fun | 155 => 29 | 154 => 64 | 138 => 103 | 165 => 104 | 143 => 105 | 166 => 16 | 197 => 106 | 169 => 18 | 195 => 134 | 218 => 135 | 240 => 37 | 241 => 136 | 219 => 137 | 260 => 138 | 276 => 69 | 277 => 153 | 217 => 143 | 225 => 154 | 224 => 155 | 267 => 156 | 266 => 164 | 314 => 167 | n => n, fun | 9 => 9 | 3 => 3 | 4 => 4 | 72 => 59 | 0 => 0 | 76 => 62 | 105 => 147 | 21 => 21 | 5 => 5 | 70 => 56 | 20 => 20 | 37 => 57 | 75 => 61 | 127 => 90 | 164 => 121 | 46 => 185 | 119 => 188 | 139 => 191 | 138 => 190 | 146 => 201 | 51 => 182 | 80 => 65 | n => n, fun | 1 => 1 | 3 => 2 | 4 => 3 | n => n⟩
theorem Tryz.lays155 : Go.Proofs.Lays.n155 Tryz.prog Tryz.lays155_ren := {
  mixed := by kernel_rfl
  f138 := Tryz.func103.trans (congrArg some (by kernel_rfl))
  f143 := Tryz.func105.trans (congrArg some (by kernel_rfl))
  f154 := Tryz.func64.trans (congrArg some (by kernel_rfl))
  f155 := Tryz.func29.trans (congrArg some (by kernel_rfl))
  f165 := Tryz.func104.trans (congrArg some (by kernel_rfl))
  f166 := Tryz.func16.trans (congrArg some (by kernel_rfl))
  f169 := Tryz.func18.trans (congrArg some (by kernel_rfl))
  f195 := Tryz.func134.trans (congrArg some (by kernel_rfl))
  f197 := Tryz.func106.trans (congrArg some (by kernel_rfl))
  f217 := Tryz.func143.trans (congrArg some (by kernel_rfl))
  f218 := Tryz.func135.trans (congrArg some (by kernel_rfl))
  f219 := Tryz.func137.trans (congrArg some (by kernel_rfl))
  f224 := Tryz.func155.trans (congrArg some (by kernel_rfl))
  f225 := Tryz.func154.trans (congrArg some (by kernel_rfl))
  f240 := Tryz.func37.trans (congrArg some (by kernel_rfl))
  f241 := Tryz.func136.trans (congrArg some (by kernel_rfl))
  f260 := Tryz.func138.trans (congrArg some (by kernel_rfl))
  f266 := Tryz.func164.trans (congrArg some (by kernel_rfl))
  f267 := Tryz.func156.trans (congrArg some (by kernel_rfl))
  f276 := Tryz.func69.trans (congrArg some (by kernel_rfl))
  f277 := Tryz.func153.trans (congrArg some (by kernel_rfl))
  f314 := Tryz.func167.trans (congrArg some (by kernel_rfl))
  t0 := Tryz.underlying0
  a0 := Tryz.isAgg0
  z0 := Tryz.sizeOf0
  v0 := Tryz.zeroValue0
  t3 := Tryz.underlying3
  a3 := Tryz.isAgg3
  z3 := Tryz.sizeOf3
  v3 := Tryz.zeroValue3
  t4 := Tryz.underlying4
  a4 := Tryz.isAgg4
  z4 := Tryz.sizeOf4
  v4 := Tryz.zeroValue4
  t5 := Tryz.underlying5
  a5 := Tryz.isAgg5
  z5 := Tryz.sizeOf5
  v5 := Tryz.zeroValue5
  t9 := Tryz.underlying9
  a9 := Tryz.isAgg9
  z9 := Tryz.sizeOf9
  v9 := Tryz.zeroValue9
  t20 := Tryz.underlying20
  a20 := Tryz.isAgg20
  z20 := Tryz.sizeOf20
  v20 := Tryz.zeroValue20
  t21 := Tryz.underlying21
  a21 := Tryz.isAgg21
  z21 := Tryz.sizeOf21
  v21 := Tryz.zeroValue21
  t37 := Tryz.underlying57
  a37 := Tryz.isAgg57
  z37 := Tryz.sizeOf57
  v37 := Tryz.zeroValue57
  t46 := Tryz.underlying185
  a46 := Tryz.isAgg185
  z46 := Tryz.sizeOf185
  v46 := Tryz.zeroValue185
  t51 := Tryz.underlying182
  a51 := Tryz.isAgg182
  z51 := Tryz.sizeOf182
  v51 := Tryz.zeroValue182
  t70 := Tryz.underlying56
  a70 := Tryz.isAgg56
  z70 := Tryz.sizeOf56
  v70 := Tryz.zeroValue56
  t72 := Tryz.underlying59
  a72 := Tryz.isAgg59
  z72 := Tryz.sizeOf59
  v72 := Tryz.zeroValue59
  t75 := Tryz.underlying61
  a75 := Tryz.isAgg61
  z75 := Tryz.sizeOf61
  v75 := Tryz.zeroValue61
  t76 := Tryz.underlying62
  a76 := Tryz.isAgg62
  z76 := Tryz.sizeOf62
  v76 := Tryz.zeroValue62
  t105 := Tryz.underlying147
  a105 := Tryz.isAgg147
  z105 := Tryz.sizeOf147
  v105 := Tryz.zeroValue147
  t119 := Tryz.underlying188
  a119 := Tryz.isAgg188
  z119 := Tryz.sizeOf188
  t127 := Tryz.underlying90
  a127 := Tryz.isAgg90
  z127 := Tryz.sizeOf90
  v127 := Tryz.zeroValue90
  t138 := Tryz.underlying190
  a138 := Tryz.isAgg190
  z138 := Tryz.sizeOf190
  v138 := Tryz.zeroValue190
  t139 := Tryz.underlying191
  a139 := Tryz.isAgg191
  z139 := Tryz.sizeOf191
  v139 := Tryz.zeroValue191
  t146 := Tryz.underlying201
  a146 := Tryz.isAgg201
  z146 := Tryz.sizeOf201
  v146 := Tryz.zeroValue201
  t164 := Tryz.underlying121
  a164 := Tryz.isAgg121
  z164 := Tryz.sizeOf121
  v164 := Tryz.zeroValue121
  g1 := by kernel_rfl
  g3 := by kernel_rfl
  g4 := by kernel_rfl }
theorem Tryz.Builder_Extra_155 : Builder.Extra Tryz.prog Tryz.lays155_ren := {
  sizeBuilder := by kernel_rfl
  liesBuilder := by kernel_rfl
  t5 := Tryz.underlying5
  a5 := Tryz.isAgg5
  z5 := Tryz.sizeOf5
  v5 := Tryz.zeroValue5
  infoByte := by kernel_rfl
  cellsByte := by kernel_rfl
  sizeByte := by kernel_rfl
  neB5 := by decide }
open Go.RowKit Go.Lib in
/-- strings.ReplaceAll: "ReplaceAll returns a copy of the string s with all non-overlapping instances of old replaced by new.": AT AN old THAT IS NOT EMPTY: 'Lib.replaceAll s old new'. (LAID: no walk: one application.) -/
theorem Tryz.strings_ReplaceAll (s old new : ByteArray) (m : Int) (w : World) (hs : s.size < 4294967281) (hm : w.cell? ⟨1, 0, none⟩ = some (.int .i64 m)) (h1 : 1 ≤ old.size) (hlen : s.size + Lib.countB s old * new.size ≤ 140737488355328) :
    Calls Tryz.prog 29 #[.string s, .string old, .string new] w fun e w' =>
      e = .returned (.string ⟨(Lib.replaceAll s.data.toList old.data.toList new.data.toList).toArray⟩) ∧ Below w.heap.size w w' := Any.strings_ReplaceAll Tryz.lays155 Tryz.Builder_Extra_155 s old new m w hs hm h1 hlen
end Go.Proofs
namespace Go.Proofs.YtfbkoieodflcpaaGreatDoor
open Go.RowKit

theorem col_one {n : Nat} (h : n ≤ 26) : colL n = [UInt8.ofNat (64 + n)] := by unfold colL; rw [if_pos h]
theorem col_two {n : Nat} (h1 : 27 ≤ n) : colL n = colL ((n - 1) / 26) ++ colL ((n - 1) % 26 + 1) ∨ 676 < n := by
  by_cases h2 : 676 < n
  · exact .inr h2
  refine .inl ?_
  rw [col_one (n := (n - 1) / 26) (by omega), col_one (n := (n - 1) % 26 + 1) (by omega)]
  unfold colL
  rw [if_neg (by omega)]
  have e1 : 65 + (n - 27) / 26 = 64 + (n - 1) / 26 := by omega
  have e2 : 65 + (n - 27) % 26 = 64 + ((n - 1) % 26 + 1) := by omega
  rw [e1, e2]
  rfl
theorem enc_letter : ∀ n : Fin 26, Utf8.encode (65 + ((n.val + 1 : Nat) : Int) - 1) = ⟨#[UInt8.ofNat (64 + (n.val + 1))]⟩ := by decide +kernel
theorem enc_at {n : Nat} (h1 : 1 ≤ n) (h2 : n ≤ 26) : Utf8.encode (65 + (n : Int) - 1) = ⟨(colL n).toArray⟩ := by
  have := enc_letter ⟨n - 1, by omega⟩
  rw [show n - 1 + 1 = n from by omega] at this
  rw [this, col_one h2]
set_option maxHeartbeats 400000 in
theorem letters_one (n : Nat) (h1 : 1 ≤ n) (h2 : n ≤ 26) (w : World) : Calls Tryz.prog 32 #[.int .i64 n] w fun e w' => e = .returned (.string ⟨(colL n).toArray⟩) ∧ Below w.heap.size w w' := by
  have hc := Lib.hid (enc_at h1 h2)
  go_enter Tryz.func32, Tryz.ntmps32
  go_wp2_with fail
  go_ret
  exact ⟨by rw [← hc.out]; rfl, Below.refl _ _⟩
set_option maxHeartbeats 400000 in
theorem letters_two (n : Nat) (h1 : 27 ≤ n) (h2 : n ≤ 256) (w : World) : Calls Tryz.prog 32 #[.int .i64 n] w fun e w' => e = .returned (.string ⟨(colL n).toArray⟩) ∧ Below w.heap.size w w' := by
  have hc := Lib.hid ((col_two h1).resolve_right (by omega))
  have hl1 := (col_len ((n - 1) / 26)).2
  have hl2 := (col_len ((n - 1) % 26 + 1)).2
  have hadd := fun w' => run_string_add_lists (P := Tryz.prog) w' (colL ((n - 1) / 26)) (colL ((n - 1) % 26 + 1)) (by omega) (by omega)
  go_enter Tryz.func32, Tryz.ntmps32
  go_wp2_with fail
  rw [show ((n : Int) - 1) / 26 = (((n - 1) / 26 : Nat) : Int) from by omega]
  refine (letters_one _ (by omega) (by omega) _).mono ?_
  rintro e w1 ⟨rfl, hb⟩
  go_wp2_with fail
  rw [show ((n : Int) - 1) % 26 + 1 = (((n - 1) % 26 + 1 : Nat) : Int) from by omega]
  refine (letters_one _ (by omega) (by omega) _).mono ?_
  rintro e w2 ⟨rfl, hb2⟩
  go_wp2
  go_ret
  have z := hb.size
  exact ⟨by rw [hc.out]; rfl, by (repeat (first | (with_reducible exact Below.refl _ _) | (with_reducible refine Below.alloc ?_ (by first | omega | (dsimp only; omega) | (simp <;> omega)) _) | (with_reducible refine Below.setCell ?_ (by first | omega | (dsimp only; omega) | (simp <;> omega)) _) | (with_reducible refine Below.drew ?_) | (with_reducible refine below_drewN ?_ _) | (with_reducible refine Below.trans ?_ (Below.mono (by assumption) (by first | omega | (dsimp only; omega) | (simp <;> omega))))))⟩
theorem letters_any (n : Nat) (h1 : 1 ≤ n) (h2 : n ≤ 256) (w : World) : Calls Tryz.prog 32 #[.int .i64 n] w fun e w' => e = .returned (.string ⟨(colL n).toArray⟩) ∧ Below w.heap.size w w' := by
  by_cases h : n ≤ 26
  · exact letters_one n h1 h w
  · exact letters_two n (by omega) h2 w

/-- the library's table of powers of ten is as the program's text lays it -/
theorem itoa_any (n : Nat) (h1 : n ≤ 9223372036854775807) (w : World) (ht : Tab w) : Calls Tryz.prog 33 #[.int .i64 n] w fun e w' => e = .returned (.string ⟨(Lib.decDigits n).toArray⟩) ∧ Below w.heap.size w w' :=
  (Tryz.strconv_Itoa n (by omega) (by omega) w ht.1).mono fun e w' ⟨he, k, os, hw⟩ => ⟨by rw [he, Lib.itoa_nonneg], by subst hw; exact below_grow w k os⟩
set_option maxHeartbeats 400000 in
theorem name_no (r c : Int) (h : mayB r c = false) (w : World) : Calls Tryz.prog 12 #[.agg #[.int .i64 r, .int .i64 c]] w fun e w' => e = .returned (.string ⟨(nameZ r c).toArray⟩) ∧ Below w.heap.size w w' := by
  have hn := Lib.hid (nameZ_no h)
  go_enter Tryz.func12, Tryz.ntmps12
  go_wp2_with (go_at_call 31; refine (may_any _ _ _).mono ?_; rintro e w1 ⟨rfl, hb⟩; obtain ⟨hc, hf, hz⟩ := bkeep hb (w.heap.size + 1) (by first | omega | (simp <;> omega)))
  go_ret
  exact ⟨by rw [hn.out]; rfl, by (repeat (first | (with_reducible exact Below.refl _ _) | (with_reducible refine Below.alloc ?_ (by first | omega | (dsimp only; omega) | (simp <;> omega)) _) | (with_reducible refine Below.setCell ?_ (by first | omega | (dsimp only; omega) | (simp <;> omega)) _) | (with_reducible refine Below.drew ?_) | (with_reducible refine below_drewN ?_ _) | (with_reducible refine Below.trans ?_ (Below.mono (by assumption) (by first | omega | (dsimp only; omega) | (simp <;> omega))))))⟩
set_option maxHeartbeats 1000000 in
theorem name_yes' (r c : Nat) (h : mayN r c = true) (w : World) (ht : Tab w) : Calls Tryz.prog 12 #[.agg #[.int .i64 r, .int .i64 c]] w fun e w' => e = .returned (.string ⟨(nameZ r c).toArray⟩) ∧ Below w.heap.size w w' := by
  have hn := Lib.hid (nameZ_nat h)
  obtain ⟨m1, m2, m3, m4⟩ := mayN_of h
  have hm : mayB r c = true := (mayB_nat r c).trans h
  clear h
  have hl1 := (col_len c).2
  have hl2 := dec_len (r := r) (by omega)
  have hadd := fun w' => run_string_add_lists (P := Tryz.prog) w' (colL c) (Lib.decDigits r) (by omega) (by omega)
  go_enter Tryz.func12, Tryz.ntmps12
  go_wp2_with (go_at_call 31; refine (may_any _ _ _).mono ?_; rintro e w1 ⟨rfl, hb⟩; obtain ⟨hc, hf, hz⟩ := bkeep hb (w.heap.size + 1) (by first | omega | (simp <;> omega)); have ht1 := Tab.below ht (by (repeat (first | (with_reducible exact Below.refl _ _) | (with_reducible refine Below.alloc ?_ (by first | omega | (dsimp only; omega) | (simp <;> omega)) _) | (with_reducible refine Below.setCell ?_ (by first | omega | (dsimp only; omega) | (simp <;> omega)) _) | (with_reducible refine Below.drew ?_) | (with_reducible refine below_drewN ?_ _) | (with_reducible refine Below.trans ?_ (Below.mono (by assumption) (by first | omega | (dsimp only; omega) | (simp <;> omega))))))))
  go_region_held3 (fun w' => w'.cell? ⟨w.heap.size, 0, none⟩ = some (.int .i64 r) ∧ w'.cell? ⟨w.heap.size, 1, none⟩ = some (.int .i64 c) ∧ Tab w' ∧ Below w.heap.size w w' ∧ w.heap.size + 1 ≤ w'.heap.size)
    (first | ((go_split_ands; refine ⟨?_, ?_, ?_, ?_, ?_⟩ <;> first | (rw [hb.cell (by dsimp only; omega)]; assumption) | exact Below.trans (by assumption) (hb.mono (by omega)) | exact Tab.below (by assumption) hb | (have := hb.size; omega))) | ((refine ⟨?_, ?_, ?_, ?_, ?_⟩ <;> first | (simp [go_sem, *]; done) | ((repeat (first | (with_reducible exact Below.refl _ _) | (with_reducible refine Below.alloc ?_ (by first | omega | (dsimp only; omega) | (simp <;> omega)) _) | (with_reducible refine Below.setCell ?_ (by first | omega | (dsimp only; omega) | (simp <;> omega)) _) | (with_reducible refine Below.drew ?_) | (with_reducible refine below_drewN ?_ _) | (with_reducible refine Below.trans ?_ (Below.mono (by assumption) (by first | omega | (dsimp only; omega) | (simp <;> omega)))))); done) | exact Tab.below (by assumption) (by (repeat (first | (with_reducible exact Below.refl _ _) | (with_reducible refine Below.alloc ?_ (by first | omega | (dsimp only; omega) | (simp <;> omega)) _) | (with_reducible refine Below.setCell ?_ (by first | omega | (dsimp only; omega) | (simp <;> omega)) _) | (with_reducible refine Below.drew ?_) | (with_reducible refine below_drewN ?_ _) | (with_reducible refine Below.trans ?_ (Below.mono (by assumption) (by first | omega | (dsimp only; omega) | (simp <;> omega))))))) | (simp; omega))))
    (first | (go_at_call 32; refine (letters_any _ (by omega) (by omega) _).mono ?_; rintro e w1 ⟨rfl, hb⟩) | (go_at_call 33; refine (itoa_any _ (by omega) _ (by first | assumption | (go_split_ands; assumption))).mono ?_; rintro e w1 ⟨rfl, hb⟩))
  go_split_ands
  go_wp2
  go_ret
  go_split_ands
  refine ⟨?_, by assumption⟩
  rw [hn.out, nameL]
  rfl
theorem aname_any (r c : Int) (w : World) (ht : Tab w) : Calls Tryz.prog 12 #[.agg #[.int .i64 r, .int .i64 c]] w fun e w' => e = .returned (.string ⟨(nameZ r c).toArray⟩) ∧ Below w.heap.size w w' := by
  cases h : mayB r c
  · exact name_no r c h w
  · obtain ⟨r', c', rfl, rfl, hm⟩ := mayB_ints h
    exact name_yes' r' c' hm w ht
end Go.Proofs.YtfbkoieodflcpaaGreatDoor
namespace Go.Proofs.YtfbkoieodflcpaaGreatDoor
open Go.RowKit

theorem twg_in (p : UInt8 → Bool) (t : List UInt8) (j : Nat) (h : j < (t.takeWhile p).length) (h2 : j < t.length) : p t[j] = true := by
  have e : t[j] = (t.takeWhile p)[j] := by
    have := List.takeWhile_append_dropWhile (p := p) (l := t)
    rw [List.getElem_of_eq this.symm h2, List.getElem_append_left h]
  rw [e]
  exact List.all_eq_true.1 (takeWhile_all p t) _ (List.getElem_mem h)
theorem twg_out (p : UInt8 → Bool) (t : List UInt8) (h2 : (t.takeWhile p).length < t.length) : p t[(t.takeWhile p).length] = false := by
  refine drop_head p t _ ?_
  rw [List.head?_drop, List.getElem?_eq_getElem h2]
theorem takeWhile_self (p : UInt8 → Bool) : ∀ l : List UInt8, l.all p = true → l.takeWhile p = l
  | [], _ => rfl
  | b :: l, h => by
    simp only [List.all_cons, Bool.and_eq_true] at h
    rw [List.takeWhile_cons, if_pos h.1, takeWhile_self p l h.2]
theorem meant_form (l : List UInt8) (k q : Nat) (hk : (l.takeWhile upB).length = k) (hq : ((l.drop k).takeWhile isDig).length = q) : meantB l = (decide (k < l.length) && decide (k + q = l.length)) := by
  have e1 : l.dropWhile upB = l.drop k := by rw [← hk, drop_takeWhile]
  have h1 := takeWhile_le isDig (l.drop k)
  rw [hq, List.length_drop] at h1
  unfold meantB
  rw [e1]
  rw [Bool.eq_iff_iff]
  simp only [Bool.and_eq_true, Bool.not_eq_true', decide_eq_true_eq]
  constructor
  · rintro ⟨h2, h3⟩
    have h4 : k < l.length := by
      refine Nat.lt_of_not_le fun h => ?_
      rw [List.drop_eq_nil_of_le h] at h2; simp at h2
    refine ⟨h4, ?_⟩
    have h5 : (l.drop k).takeWhile isDig = l.drop k := takeWhile_self isDig _ h3
    rw [h5, List.length_drop] at hq
    omega
  · rintro ⟨h2, h3⟩
    refine ⟨?_, ?_⟩
    · cases h4 : l.drop k with
      | nil => have := congrArg List.length h4; simp at this; omega
      | cons => rfl
    · have h5 : (l.drop k).takeWhile isDig = l.drop k := by
        rw [takeWhile_take, hq]; exact List.take_of_length_le (by rw [List.length_drop]; omega)
      rw [← h5]; exact takeWhile_all isDig _
theorem ext_mid (l a : List UInt8) (at' k : Nat) (h : (l.drop at').take k = a) : (⟨l.toArray⟩ : ByteArray).extract at' (at' + k) = ⟨a.toArray⟩ := by
  subst h
  apply ByteArray.ext
  simp
theorem keepB {B : Nat} {W w1 : World} (hb : Below B W w1) (hB : B ≤ W.heap.size) :
    (∀ b o, b < B → w1.cell? ⟨b, o, none⟩ = W.cell? ⟨b, o, none⟩) ∧ (∀ b o, b < B → w1.frozen? ⟨b, o, none⟩ = W.frozen? ⟨b, o, none⟩) ∧ B ≤ w1.heap.size :=
  ⟨fun b o h => hb.cell (p := ⟨b, o, Option.none⟩) h, fun b o h => hb.frozen (p := ⟨b, o, Option.none⟩) h, Nat.le_trans hB hb.size⟩
theorem quote_start (q : List UInt8) : quoteG q = (quoteG (q.drop 0)).map fun x => (([] : List UInt8) ++ x.1, x.2 + 0) := by
  cases h : quoteG q <;> simp [h]
theorem drop_at (l : List UInt8) (i : Nat) (h : i < l.length) : l.drop i = l[i] :: l.drop (i + 1) := List.drop_eq_getElem_cons h
end Go.Proofs.YtfbkoieodflcpaaGreatDoor
namespace Go.Proofs.YtfbkoieodflcpaaGreatDoor
open Go.RowKit

/-- the library's numbers, in this translation -/
def bren : Go.Shelf.Ren := ⟨fun | 166 => 16 | 167 => 17 | 169 => 18 | 240 => 37 | 276 => 69 | n => n, fun | 0 => 0 | 3 => 3 | 4 => 4 | 5 => 5 | 9 => 9 | 20 => 20 | 37 => 57 | 70 => 56 | 72 => 59 | 75 => 61 | 76 => 62 | 80 => 65 | 164 => 121 | n => n, fun | n => n⟩
theorem lays_wbyte : Go.Proofs.Lays.n167 Tryz.prog bren := {
  mixed := by kernel_rfl
  f167 := Tryz.func17.trans (congrArg some (by kernel_rfl))
  f240 := Tryz.func37.trans (congrArg some (by kernel_rfl))
  f276 := Tryz.func69.trans (congrArg some (by kernel_rfl))
  t0 := Tryz.underlying0
  a0 := Tryz.isAgg0
  z0 := Tryz.sizeOf0
  v0 := Tryz.zeroValue0
  t4 := Tryz.underlying4
  a4 := Tryz.isAgg4
  z4 := Tryz.sizeOf4
  v4 := Tryz.zeroValue4
  t5 := Tryz.underlying5
  a5 := Tryz.isAgg5
  z5 := Tryz.sizeOf5
  v5 := Tryz.zeroValue5
  t9 := Tryz.underlying9
  a9 := Tryz.isAgg9
  z9 := Tryz.sizeOf9
  v9 := Tryz.zeroValue9
  t20 := Tryz.underlying20
  a20 := Tryz.isAgg20
  z20 := Tryz.sizeOf20
  v20 := Tryz.zeroValue20
  t37 := Tryz.underlying57
  a37 := Tryz.isAgg57
  z37 := Tryz.sizeOf57
  v37 := Tryz.zeroValue57
  t70 := Tryz.underlying56
  a70 := Tryz.isAgg56
  z70 := Tryz.sizeOf56
  v70 := Tryz.zeroValue56
  t72 := Tryz.underlying59
  a72 := Tryz.isAgg59
  z72 := Tryz.sizeOf59
  v72 := Tryz.zeroValue59
  t75 := Tryz.underlying61
  a75 := Tryz.isAgg61
  z75 := Tryz.sizeOf61
  v75 := Tryz.zeroValue61
  t164 := Tryz.underlying121
  a164 := Tryz.isAgg121
  z164 := Tryz.sizeOf121
  v164 := Tryz.zeroValue121 }
theorem lays_wstring : Go.Proofs.Lays.n166 Tryz.prog bren := {
  mixed := by kernel_rfl
  f166 := Tryz.func16.trans (congrArg some (by kernel_rfl))
  f240 := Tryz.func37.trans (congrArg some (by kernel_rfl))
  f276 := Tryz.func69.trans (congrArg some (by kernel_rfl))
  t0 := Tryz.underlying0
  a0 := Tryz.isAgg0
  z0 := Tryz.sizeOf0
  v0 := Tryz.zeroValue0
  t3 := Tryz.underlying3
  a3 := Tryz.isAgg3
  z3 := Tryz.sizeOf3
  v3 := Tryz.zeroValue3
  t4 := Tryz.underlying4
  a4 := Tryz.isAgg4
  z4 := Tryz.sizeOf4
  v4 := Tryz.zeroValue4
  t9 := Tryz.underlying9
  a9 := Tryz.isAgg9
  z9 := Tryz.sizeOf9
  v9 := Tryz.zeroValue9
  t20 := Tryz.underlying20
  a20 := Tryz.isAgg20
  z20 := Tryz.sizeOf20
  v20 := Tryz.zeroValue20
  t37 := Tryz.underlying57
  a37 := Tryz.isAgg57
  z37 := Tryz.sizeOf57
  v37 := Tryz.zeroValue57
  t70 := Tryz.underlying56
  a70 := Tryz.isAgg56
  z70 := Tryz.sizeOf56
  v70 := Tryz.zeroValue56
  t72 := Tryz.underlying59
  a72 := Tryz.isAgg59
  z72 := Tryz.sizeOf59
  v72 := Tryz.zeroValue59
  t75 := Tryz.underlying61
  a75 := Tryz.isAgg61
  z75 := Tryz.sizeOf61
  v75 := Tryz.zeroValue61
  t164 := Tryz.underlying121
  a164 := Tryz.isAgg121
  z164 := Tryz.sizeOf121
  v164 := Tryz.zeroValue121 }
theorem bextra : Builder.Extra Tryz.prog bren := {
  sizeBuilder := by kernel_rfl
  liesBuilder := by kernel_rfl
  t5 := Tryz.underlying5
  a5 := Tryz.isAgg5
  z5 := Tryz.sizeOf5
  v5 := Tryz.zeroValue5
  infoByte := by kernel_rfl
  cellsByte := by kernel_rfl
  sizeByte := by kernel_rfl
  neB5 := by decide }
theorem isB_later {T e : TypeId} {B b : Nat} {bs : List Value} {w w' : World} (h : Lib.IsBuilderF T e B b bs w) (hb : Below w.heap.size w w') : Lib.IsBuilderF T e B b bs w' := by
  have key : ∀ p, Lib.BuilderAtF T e B b p bs w → Lib.BuilderAtF T e B b p bs w' := by
    rintro p ⟨hB, v, hv, hown, hne⟩
    refine ⟨hB, v, (hb.block b (Array.getElem?_eq_some_iff.1 hv).1).trans hv, ⟨hown.1, ?_⟩, hne⟩
    rcases hown.2 with h2 | ⟨g, cap, cur, fz, hs, hg, hh, hr⟩
    · exact .inl h2
    · exact .inr ⟨g, cap, cur, fz, hs, hg, (hb.block g (Array.getElem?_eq_some_iff.1 hh).1).trans hh, hr⟩
  rcases h with h | h
  · exact .inl (key _ h)
  · exact .inr (key _ h)
theorem byteCells_app (a b : List UInt8) : Lib.byteCells (a ++ b) = Lib.byteCells a ++ Lib.byteCells b := by simp [Lib.byteCells]
theorem byteCells_len (a : List UInt8) : (Lib.byteCells a).length = a.length := by simp [Lib.byteCells]
theorem lwrite (B : Nat) (acc : List UInt8) (b : UInt8) (hl : acc.length + 1 ≤ 140737488355328) (w : World) (hB : B ≤ w.heap.size) (h : Lib.IsBuilderF 59 5 B B (Lib.byteCells acc) w) : Calls Tryz.prog 17 #[.pointer (some ⟨B, 0, none⟩), .int .u8 (b.toNat : Int)] w fun e w' => e = .returned .nilIface ∧ Lib.IsBuilderF 59 5 B B (Lib.byteCells (acc ++ [b])) w' ∧ Below B w w' := by
  refine (Go.Proofs.Any.Builder_WriteByte_k lays_wbyte bextra B B _ (b.toNat : Int) w h (by rw [byteCells_len]; exact hl) hB).mono ?_
  rintro e w' ⟨he, h1, h2, _⟩
  refine ⟨he, ?_, h2⟩
  rw [byteCells_app]
  exact Or.inr h1
theorem lwrites (B : Nat) (acc : List UInt8) (u : ByteArray) (hl : acc.length + u.size ≤ 140737488355328) (w : World) (hB : B ≤ w.heap.size) (h : Lib.IsBuilderF 59 5 B B (Lib.byteCells acc) w) : Calls Tryz.prog 16 #[.pointer (some ⟨B, 0, none⟩), .string u] w fun e w' => e = .returned (.tuple #[.int .i64 u.size, .nilIface]) ∧ Lib.IsBuilderF 59 5 B B (Lib.byteCells (acc ++ u.data.toList)) w' ∧ Below B w w' := by
  refine (Go.Proofs.Any.Builder_WriteString_f lays_wstring bextra B B _ u w h (by rw [byteCells_len]; exact hl) hB).mono ?_
  rintro e w' ⟨he, h1, h2⟩
  refine ⟨he, ?_, h2⟩
  rw [byteCells_app, ← Lib.strCells_eq]
  exact Or.inr h1
theorem bstring_any (B : Nat) (acc : List UInt8) (d : ByteArray) (hd : (⟨acc.toArray⟩ : ByteArray) = d) (w : World) (hB : B ≤ w.heap.size) (h : Lib.IsBuilderF 59 5 B B (Lib.byteCells (acc)) w) : Calls Tryz.prog 18 #[.pointer (some ⟨B, 0, none⟩)] w fun e w' => e = .returned (.string d) ∧ Lib.IsBuilderF 59 5 B B (Lib.byteCells (acc)) w' ∧ Below B w w' := by
  rw [← hd]
  exact Tryz.Builder_String_any_f B B acc w h hB
end Go.Proofs.YtfbkoieodflcpaaGreatDoor
