/- What the condition on unicode/utf8's two tables gives the walks. -/
import Derived.Test.YtmgdikfgejablaaDoorRows
import Derived.Test.YtmgdikfgejablaaDoorKn
import Derived.ProofKit
import Derived.LaidMore
import Derived.Stop.Joined
import Derived.Lib.LaidU8T
import Derived.PinnedBridge
import Derived.Lay
set_option linter.unusedVariables false
namespace Go.Proofs.YtmgdikfgejablaaDoor.Ofl
open Go.RowKit Go.Shelf Go.Lib Go.Proofs.YtmgdikfgejablaaDoor.Kn
def ren : Ren := ⟨fun n => n, fun | 119 => 60 | 138 => 63 | 139 => 64 | n => n, fun | 3 => 0 | 4 => 1 | n => n⟩
theorem types : U8Types Tryd.prog ren := ⟨Tryd.underlying5, Tryd.underlying60, Tryd.underlying63, Tryd.underlying64⟩
theorem extra : U8Extra Tryd.prog ren := ⟨by kernel_rfl, by kernel_rfl, by kernel_rfl, by kernel_rfl, by kernel_rfl, by kernel_rfl, by kernel_rfl⟩
def laid2 : List (String × DataW Unit) := [("unicode/utf8.acceptRanges", Rows.laid_unicode_utf8_acceptRanges), ("unicode/utf8.first", Rows.laid_unicode_utf8_first)]
theorem accept_eq : (Rows.laid_unicode_utf8_acceptRanges : DataW Unit) = acceptData := by kernel_rfl
theorem of_laid {W : World} (h : laidMetH Tryd.prog laid2 W) : Laid W := by
  rw [MakeChecks.laidMetH_plain _ _ _ (by kernel_rfl)] at h
  have h1 := laidMet.reads h (n := "unicode/utf8.first") (d := Rows.laid_unicode_utf8_first) (by simp [laid2])
  have h2 := laidMet.reads h (n := "unicode/utf8.acceptRanges") (d := Rows.laid_unicode_utf8_acceptRanges) (by simp [laid2])
  rw [accept_eq] at h2
  have e : Rows.laid_unicode_utf8_first = firstData := Pinned.utf8First_eq
  rw [e] at h1
  exact utf8Tabs_of_readsT types extra h1 h2
/-- The witness of a row: the world in which the two tables are laid by the library's function. -/
theorem door_met (os : Os) (args : Array Value) : laidMetH Tryd.prog laid2 ((World.laidAll Tryd.prog os laid2).forCall (fun _ _ => 0) ⟨#[], args, []⟩).memory := by
  rw [MakeChecks.laidMetH_plain _ _ _ (by kernel_rfl)]; exact laidMet_laidAll _ (by kernel_rfl) (by kernel_rfl)
theorem door_shaped (os : Os) : (World.laidAll Tryd.prog os laid2).Shaped Tryd.prog := World.shaped_of_ZipB (by kernel_rfl) (by kernel_rfl)
end Go.Proofs.YtmgdikfgejablaaDoor.Ofl
