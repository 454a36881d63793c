/-
  Layer 9 (frame): the laid table of half bytes, off a row's condition.
-/
import Derived.Test.YtfnbcafilbafgaaDoorCrcSum
import Derived.Test.YtfnbcafilbafgaaDoorTie
import Derived.Test.YtfnbcafilbafgaaDoorCards
import Derived.LaidMore
import Derived.Lay
import Derived.Lib.LaidTab
import Derived.SevenTiedAt
import Derived.Stop.Joined
namespace Go.Proofs.YtfnbcafilbafgaaDoor
theorem nib_of_laid {W : World} (h : laidMetH Tryd.prog [("usufruct/frame.nibbles", Rows.laid_usufruct_frame_nibbles)] W) : Nib W := by
  rw [MakeChecks.laidMetH_plain _ _ _ (by kernel_rfl)] at h
  have hg : Tryd.prog.globalNamed "usufruct/frame.nibbles" = some 0 := by kernel_rfl
  have hT := Lib.tabIs_of_head (k := .u32) (zs := nibs) (t := 74) (e := 59) (n := 16) hg (by kernel_rfl) Tryd.underlying74 Tryd.underlying59 (by kernel_rfl) (by kernel_rfl) h
  exact fun i hi => hT.cell hg i hi
end Go.Proofs.YtfnbcafilbafgaaDoor
