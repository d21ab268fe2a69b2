/-
  Package value: Named.
-/
import Derived.Test.YtaomlgpakbjegaaGreatDoorRows
import Derived.Test.YtaomlgpakbjegaaGreatDoorBase
import Derived.Test.YtaomlgpakbjegaaGreatDoorMg5
import Derived.Test.YtaomlgpakbjegaaGreatDoorValA
import Derived.Test.YtaomlgpakbjegaaGreatDoorValB
import Derived.Test.YtaomlgpakbjegaaGreatDoorValC
import Derived.WalkSpells
import Derived.WalkLawsBesides
import Derived.StillTactics
import Derived.Laws.Pointers
import Derived.Deep.RegionHeld3
import Derived.Deep.QuietTactic
import Derived.BigQuiet
import Derived.RowKit3
import Derived.Lib.Hide
import Derived.Lib.OthersKept
import Derived.OwnWalk
import Derived.Lib.IndexLaws
import Derived.Lib.ItoaMem
import Derived.WalkKit
import Derived.ProofKit
import Derived.OpenShut
import Derived.Carry
import Derived.ChangeSame
import Derived.Deep.Draws
namespace Go.Proofs.YtaomlgpakbjegaaGreatDoor
open Go.RowKit

/-- the code of a name, nought of any other text -/
def codeOf (s : ByteArray) : Int :=
  if s = ⟨#[35, 67, 89, 67, 76, 69, 33]⟩ then 1 else
  if s = ⟨#[35, 78, 85, 77, 33]⟩ then 2 else
  if s = ⟨#[35, 68, 73, 86, 33]⟩ then 3 else
  if s = ⟨#[35, 84, 89, 80, 69, 33]⟩ then 4 else
  if s = ⟨#[35, 82, 65, 78, 71, 69, 33]⟩ then 5 else
  if s = ⟨#[35, 77, 73, 83, 83, 33]⟩ then 6 else
  if s = ⟨#[35, 76, 79, 78, 71, 33]⟩ then 7 else
  if s = ⟨#[35, 65, 82, 71, 33]⟩ then 8 else
  0
theorem codeOf_is1 {s : ByteArray} (h : codeOf s = 1) : ⟨#[35, 67, 89, 67, 76, 69, 33]⟩ = s := by
  unfold codeOf at h
  repeat' split at h
  all_goals first | (exact Eq.symm (by assumption)) | (exfalso; omega)
theorem codeOf_at1 : codeOf (⟨#[35, 67, 89, 67, 76, 69, 33]⟩) = 1 := by decide +kernel
theorem lit_ne1 : ((⟨#[35, 67, 89, 67, 76, 69, 33]⟩ : ByteArray) = ⟨#[]⟩) = False := eq_false (by decide +kernel)
theorem codeOf_is2 {s : ByteArray} (h : codeOf s = 2) : ⟨#[35, 78, 85, 77, 33]⟩ = s := by
  unfold codeOf at h
  repeat' split at h
  all_goals first | (exact Eq.symm (by assumption)) | (exfalso; omega)
theorem codeOf_at2 : codeOf (⟨#[35, 78, 85, 77, 33]⟩) = 2 := by decide +kernel
theorem lit_ne2 : ((⟨#[35, 78, 85, 77, 33]⟩ : ByteArray) = ⟨#[]⟩) = False := eq_false (by decide +kernel)
theorem codeOf_is3 {s : ByteArray} (h : codeOf s = 3) : ⟨#[35, 68, 73, 86, 33]⟩ = s := by
  unfold codeOf at h
  repeat' split at h
  all_goals first | (exact Eq.symm (by assumption)) | (exfalso; omega)
theorem codeOf_at3 : codeOf (⟨#[35, 68, 73, 86, 33]⟩) = 3 := by decide +kernel
theorem lit_ne3 : ((⟨#[35, 68, 73, 86, 33]⟩ : ByteArray) = ⟨#[]⟩) = False := eq_false (by decide +kernel)
theorem codeOf_is4 {s : ByteArray} (h : codeOf s = 4) : ⟨#[35, 84, 89, 80, 69, 33]⟩ = s := by
  unfold codeOf at h
  repeat' split at h
  all_goals first | (exact Eq.symm (by assumption)) | (exfalso; omega)
theorem codeOf_at4 : codeOf (⟨#[35, 84, 89, 80, 69, 33]⟩) = 4 := by decide +kernel
theorem lit_ne4 : ((⟨#[35, 84, 89, 80, 69, 33]⟩ : ByteArray) = ⟨#[]⟩) = False := eq_false (by decide +kernel)
theorem codeOf_is5 {s : ByteArray} (h : codeOf s = 5) : ⟨#[35, 82, 65, 78, 71, 69, 33]⟩ = s := by
  unfold codeOf at h
  repeat' split at h
  all_goals first | (exact Eq.symm (by assumption)) | (exfalso; omega)
theorem codeOf_at5 : codeOf (⟨#[35, 82, 65, 78, 71, 69, 33]⟩) = 5 := by decide +kernel
theorem lit_ne5 : ((⟨#[35, 82, 65, 78, 71, 69, 33]⟩ : ByteArray) = ⟨#[]⟩) = False := eq_false (by decide +kernel)
theorem codeOf_is6 {s : ByteArray} (h : codeOf s = 6) : ⟨#[35, 77, 73, 83, 83, 33]⟩ = s := by
  unfold codeOf at h
  repeat' split at h
  all_goals first | (exact Eq.symm (by assumption)) | (exfalso; omega)
theorem codeOf_at6 : codeOf (⟨#[35, 77, 73, 83, 83, 33]⟩) = 6 := by decide +kernel
theorem lit_ne6 : ((⟨#[35, 77, 73, 83, 83, 33]⟩ : ByteArray) = ⟨#[]⟩) = False := eq_false (by decide +kernel)
theorem codeOf_is7 {s : ByteArray} (h : codeOf s = 7) : ⟨#[35, 76, 79, 78, 71, 33]⟩ = s := by
  unfold codeOf at h
  repeat' split at h
  all_goals first | (exact Eq.symm (by assumption)) | (exfalso; omega)
theorem codeOf_at7 : codeOf (⟨#[35, 76, 79, 78, 71, 33]⟩) = 7 := by decide +kernel
theorem lit_ne7 : ((⟨#[35, 76, 79, 78, 71, 33]⟩ : ByteArray) = ⟨#[]⟩) = False := eq_false (by decide +kernel)
theorem codeOf_is8 {s : ByteArray} (h : codeOf s = 8) : ⟨#[35, 65, 82, 71, 33]⟩ = s := by
  unfold codeOf at h
  repeat' split at h
  all_goals first | (exact Eq.symm (by assumption)) | (exfalso; omega)
theorem codeOf_at8 : codeOf (⟨#[35, 65, 82, 71, 33]⟩) = 8 := by decide +kernel
theorem lit_ne8 : ((⟨#[35, 65, 82, 71, 33]⟩ : ByteArray) = ⟨#[]⟩) = False := eq_false (by decide +kernel)
theorem codeOf_at0 : codeOf (⟨#[]⟩) = 0 := by decide +kernel
theorem codeOf_le (s : ByteArray) : 0 ≤ codeOf s ∧ codeOf s ≤ 8 := by
  unfold codeOf
  repeat' split
  all_goals omega
end Go.Proofs.YtaomlgpakbjegaaGreatDoor
