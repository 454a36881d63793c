/-
  Layer 14 (message): the reference's Same, of messages without fields.
-/
import Derived.Test.YtpjichkigccfnaaMsg3
namespace Go.Proofs.Ytpjichkigccfnaa
set_option maxRecDepth 20000
open Go.RowKit
set_option linter.unusedSimpArgs false
attribute [local go_sem] rowAt_setRow rowAt_setCell Later.cell Later.frozen
theorem same_small (k f t v n : Int) (w : World) : Calls Try.prog 15 #[.agg (msgC k f t v n), .agg (msgC k f t v n)] w fun e w' => e = .returned (.bool true) ∧ Below w.heap.size w w' := by
  have r6 : ∀ o, ((w.alloc (.cells (msgC k f t v n) 26)).alloc o).cell? ⟨w.heap.size, 6, none⟩ = some (.slice none 0 0) := fun o => by rw [cell_of_rowAt (rowPast (rowAt_alloc_at _ _ _ _ rfl))]; rfl
  have R6 := Lib.hid r6
  clear r6
  unfold msgC at *
  go_enter Try.func15, Try.ntmps15
  go_wp2_with fail
  go_loopw [5] (fun i w' => i = .int .i64 0 ∧ w'.cell? ⟨w.heap.size, 6, none⟩ = some (.slice none 0 0) ∧ Below w.heap.size w w') (fun _ _ => 0)
  case atStart => exact ⟨rfl, R6.out _, below_allocS (below_allocS (Below.refl _ _) _) _⟩
  case round =>
    obtain ⟨rfl, hc, hb⟩ := hrel
    have HB := Lib.hid hb
    clear hb R6
    go_wp2_with fail
    go_ret
    exact ⟨rfl, HB.out⟩
end Go.Proofs.Ytpjichkigccfnaa
