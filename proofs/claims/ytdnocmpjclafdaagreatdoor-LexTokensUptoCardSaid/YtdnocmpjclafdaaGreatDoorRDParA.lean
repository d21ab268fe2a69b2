/-
  The document's Parse of a number, by cases: what the two share.
-/
import Derived.Test.YtdnocmpjclafdaaGreatDoorPrintL
import Derived.Test.YtdnocmpjclafdaaGreatDoorNumL
import Derived.Test.YtdnocmpjclafdaaGreatDoorMg30
import Derived.Test.YtdnocmpjclafdaaGreatDoorProg
import Derived.Test.YtdnocmpjclafdaaGreatDoorShelf
import Derived.Test.YtdnocmpjclafdaaGreatDoorRows
import Derived.Test.YtdnocmpjclafdaaGreatDoorBase
import Derived.Test.YtdnocmpjclafdaaGreatDoorDecA
import Derived.Test.YtdnocmpjclafdaaGreatDoorRDig
import Derived.WalkSpells
import Derived.WalkLawsBesides
import Derived.StillTactics
import Derived.Laws.Pointers
import Derived.Deep.RegionHeld3
import Derived.Deep.QuietTactic
import Derived.BigQuiet
import Derived.RowKit3
import Derived.Lib.Hide
import Derived.Lib.OthersKept
import Derived.OwnWalk
import Derived.Lib.IndexLaws
import Derived.Lib.ItoaMem
import Derived.Lib.TrimByte
import Derived.Lib.SlTrimSet
import Derived.Lib.ParseIntB
import Derived.Shelf.Strings.Builder1
import Derived.Shelf.Strings.Builder2
import Derived.Shelf.Strings.Trim
import Derived.Shelf.Small.Utf8
import Derived.Shelf.Small.Strs
import Derived.Shelf.Small.Wraps
import Derived.Shelf.Strings.BuilderF
import Derived.Shelf.Strings.BuilderK
import Derived.Shelf.Strconv.Itoa0
import Derived.Shelf.Strconv.Itoa1
import Derived.Shelf.LaysM
import Derived.Shelf.Strconv.Itoa2
import Derived.Ground.MpProg
import Derived.Shelf.Pu.ParseUintPublic10
import Derived.Shelf.Strings.Search1
import Derived.Shelf.Strings.Search2
import Derived.Shelf.Strings.Search3
import Derived.Shelf.Strings.Cut
import Derived.Shelf.Strings.Count
import Derived.Shelf.Strings.Shaped
import Derived.Shelf.Strings.Prefix
import Derived.Shelf.Strings.Split
import Derived.Shelf.Strings.Replace
import Derived.Shelf.Strings.SplitShaped
import Derived.Shelf.Strings.Runes
import Derived.Shelf.Strings.AsciiSet
import Derived.Shelf.Unicode.DecodeSlow
import Derived.WalkKit
import Derived.ProofKit
import Derived.OpenShut
import Derived.Carry
import Derived.ChangeSame
import Derived.Deep.Draws
namespace Go.Proofs.YtdnocmpjclafdaaGreatDoor
open Go.RowKit

theorem rdigits_as (l : List UInt8) (z : Int) (at' k : Nat) (hz : z = (at' : Int)) (hl : l.length ≤ 9223372036854775807) (ha : at' ≤ l.length) (hk : ((l.drop at').takeWhile isDig).length = k) (w : World) : Calls Tryz.prog 150 #[.string ⟨l.toArray⟩, .int .i64 z] w fun e w' => e = .returned (.int .i64 (k : Int)) ∧ w = w' := by
  subst hz
  exact rdigits_t l at' k hl ha hk w
end Go.Proofs.YtdnocmpjclafdaaGreatDoor
