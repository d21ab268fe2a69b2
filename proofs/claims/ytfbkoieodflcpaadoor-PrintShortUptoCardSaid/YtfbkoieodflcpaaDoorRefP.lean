/-
  refs, as plain functions.
-/
import Derived.Test.YtfbkoieodflcpaaDoorMg4
import Derived.Test.YtfbkoieodflcpaaDoorRows
import Derived.Test.YtfbkoieodflcpaaDoorBase
import Derived.Test.YtfbkoieodflcpaaDoorProg
import Derived.Test.YtfbkoieodflcpaaDoorShelf
import Derived.Test.YtfbkoieodflcpaaDoorAddrC
import Derived.Test.YtfbkoieodflcpaaDoorNames
import Derived.Test.YtfbkoieodflcpaaDoorMg7
import Derived.Test.YtfbkoieodflcpaaDoorDecA
import Derived.Test.YtfbkoieodflcpaaDoorValA
import Derived.Test.YtfbkoieodflcpaaDoorValB
import Derived.Test.YtfbkoieodflcpaaDoorMg11
import Derived.Test.YtfbkoieodflcpaaDoorLexP
import Derived.Test.YtfbkoieodflcpaaDoorRowB
import Derived.Test.YtfbkoieodflcpaaDoorMapK
import Derived.Test.YtfbkoieodflcpaaDoorArgK
import Derived.WalkSpells
import Derived.WalkLawsBesides
import Derived.StillTactics
import Derived.Laws.Pointers
import Derived.Deep.RegionHeld3
import Derived.Deep.QuietTactic
import Derived.BigQuiet
import Derived.RowKit3
import Derived.Lib.Hide
import Derived.Lib.OthersKept
import Derived.OwnWalk
import Derived.Lib.IndexLaws
import Derived.Lib.ItoaMem
import Derived.Lib.TrimByte
import Derived.Lib.SlTrimSet
import Derived.Lib.ParseIntB
import Derived.WalkKit
import Derived.ProofKit
import Derived.OpenShut
import Derived.Carry
import Derived.ChangeSame
import Derived.Deep.Draws
import Derived.Shelf.Strings.Builder1
import Derived.Shelf.Strings.Builder2
import Derived.Shelf.Strings.Trim
import Derived.Shelf.Small.Utf8
import Derived.Shelf.Small.Strs
import Derived.Shelf.Strings.BuilderF
import Derived.Shelf.Strings.BuilderK
import Derived.Shelf.Strconv.Itoa0
import Derived.Shelf.Strconv.Itoa1
import Derived.Shelf.LaysM
import Derived.Shelf.Strconv.Itoa2
import Derived.Shelf.Strconv.Itoa3
import Derived.Shelf.Strings.Search1
import Derived.Shelf.Strings.Search2
import Derived.Shelf.Strings.Search3
import Derived.Shelf.Strings.Count
import Derived.Shelf.Strings.Shaped
import Derived.Shelf.Strings.Split
import Derived.Shelf.Strings.Replace
import Derived.Shelf.Strings.Runes
import Derived.Shelf.Strings.AsciiSet
import Derived.Shelf.Unicode.DecodeSlow
import Derived.Lib.ItoaNum
import Derived.Maps.OwnSet
import Derived.Maps.AppendAt
namespace Go.Proofs.YtfbkoieodflcpaaDoor
open Go.RowKit

/-- may a text be a function's name? -/
def namedB (l : List UInt8) : Bool := decide (1 ≤ l.length) && decide (l.length ≤ 16) && !(decide (l = [84, 82, 85, 69]) || decide (l = [70, 65, 76, 83, 69])) && (match l with | b :: _ => upB b | [] => false) && l.all partB && !meantB l
/-- a step of a formula -/
structure NL where
  kind : Int
  v : VL
  r : Int
  c : Int
  t : Int
  l : Int
  b : Int
  q : Int
  op : Int
  name : ByteArray
  args : Int
def NL.cs (n : NL) : List Value := [.int .i64 n.kind, .int .i64 n.v.t, .int .i64 n.v.n, .string n.v.s, .bool n.v.b, .int .i64 n.v.c, .int .i64 n.r, .int .i64 n.c, .int .i64 n.t, .int .i64 n.l, .int .i64 n.b, .int .i64 n.q, .int .i64 n.op, .string n.name, .int .i64 n.args]
def NL.noV (n : NL) : Bool := vEq n.v.t n.v.n n.v.s n.v.b n.v.c 0 0 ⟨#[]⟩ false 0
def NL.noC (n : NL) : Bool := decide (n.r = 0) && decide (n.c = 0)
def NL.noR (n : NL) : Bool := decide (n.t = 0) && decide (n.l = 0) && decide (n.b = 0) && decide (n.q = 0)
def NL.noO (n : NL) : Bool := decide (n.op = 0)
def NL.noN (n : NL) : Bool := decide (n.name = ⟨#[]⟩) && decide (n.args = 0)
/-- may a node be? -/
def NL.may (n : NL) : Bool :=
  if n.kind = 1 then n.v.may && decide (n.v.t ≠ 0) && decide (0 ≤ n.v.n) && decide (n.v.c ≠ 1) && n.noC && n.noR && n.noO && n.noN
  else if n.kind = 2 then mayB n.r n.c && n.noV && n.noR && n.noO && n.noN
  else if n.kind = 3 then mayRectB n.t n.l n.b n.q && n.noV && n.noC && n.noO && n.noN
  else if n.kind = 4 then decide (1 ≤ n.op) && decide (n.op ≤ 13) && n.noV && n.noC && n.noR && n.noN
  else if n.kind = 5 then namedB n.name.data.toList && decide (0 ≤ n.args) && decide (n.args ≤ 16) && n.noV && n.noC && n.noR && n.noO
  else false
/-- what was put together so far -/
structure PL where
  depth : Int
  binds : Int
  many : Bool
def PL.cs (p : PL) : List Value := [.int .i64 p.depth, .int .i64 p.binds, .bool p.many]
def levelI (op : Int) : Int := if op = 1 then 5 else if op = 2 then 6 else if op = 3 ∨ op = 4 then 4 else if op = 5 ∨ op = 6 then 3 else if op = 7 then 2 else 1
def PL.inside (p : PL) (least : Int) : Int := if p.binds < least then p.depth + 1 else p.depth
def deepL (l : List PL) : Int := l.foldl (fun d p => max d p.depth) 0
/-- one step: what is left of the row; none: it can't be -/
def stepP (st : List PL) (n : NL) : Option (List PL) :=
  if n.may = false then none
  else if n.kind = 3 then some (st ++ [⟨0, 7, true⟩])
  else if n.kind = 4 then
    if n.op = 1 ∨ n.op = 2 then
      match st.reverse with
      | b :: s => if b.many then none else some (s.reverse ++ [⟨b.inside (levelI n.op), levelI n.op, false⟩])
      | [] => none
    else
      match st.reverse with
      | b :: a :: s => if a.many || b.many then none else some (s.reverse ++ [⟨max (a.inside (levelI n.op)) (b.inside (levelI n.op + 1)), levelI n.op, false⟩])
      | _ => none
  else if n.kind = 5 then
    if st.length < n.args.toNat then none else some (st.take (st.length - n.args.toNat) ++ [⟨deepL (st.drop (st.length - n.args.toNat)) + 1, 7, false⟩])
  else some (st ++ [⟨0, 7, false⟩])
def putP (l : List NL) : Option (List PL) := l.foldl (fun st n => st.bind fun s => stepP s n) (some [])
/-- a formula's depth; none: it may not be -/
def depthP (l : List NL) : Option Int :=
  if l.length < 1 ∨ 1024 < l.length then none
  else match putP l with
    | some [p] => if p.many then none else some p.depth
    | _ => none
def checkP (l : List NL) : Bool := match depthP l with | some d => decide (d ≤ 32) | none => false
end Go.Proofs.YtfbkoieodflcpaaDoor
