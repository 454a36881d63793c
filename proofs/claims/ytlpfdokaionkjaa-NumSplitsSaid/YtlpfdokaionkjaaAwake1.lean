/-
  Layer 1's awake.
-/
import Derived.Test.YtlpfdokaionkjaaMul
namespace Go.Proofs.Ytlpfdokaionkjaa
open Go.RowKit
attribute [local go_sem] rn_true rn_false re_true re_false
set_option maxHeartbeats 1000000 in
theorem awake1 (w : World) : Calls Try.prog 24 #[] w fun e w' => e = .returned (.bool true) ∧ Below w.heap.size w w' := by
  have c1 := (add_any 1099511627776 1 w).mono (R' := fun e w' => e = .returned (.tuple #[.int .i64 0, .int .i64 2]) ∧ Below w.heap.size w w') fun e w' h => ⟨h.1.trans (by rw [show addOk 1099511627776 1 = false by decide]; rfl), h.2⟩
  have c2 : ∀ w : World, Calls Try.prog 25 #[.slice (some ⟨w.heap.size, 0, none⟩) 2 2] (w.alloc (.cells #[.int .i64 3, .int .i64 4] 3)) fun e w' => e = .returned (.tuple #[.int .i64 7, .int .i64 0]) ∧ Below w.heap.size w w' := fun w =>
    (sum_any (some ⟨w.heap.size, 0, none⟩) 2 [3, 4] (w.alloc (.cells #[.int .i64 3, .int .i64 4] 3)) (isInts_row (rowAt_alloc_at _ _ _ _ rfl) (fun i hi => by
      match i, hi with
      | 0, _ => rfl
      | 1, _ => rfl)) (by simp)).mono fun e w' h => ⟨h.1.trans (by rw [show sumN [3, 4] = 7 by decide, show sumE [3, 4] = 0 by decide]), ((Below.refl _ _).alloc (Nat.le_refl _) _).trans (h.2.mono (by simp))⟩
  have C1 := Lib.hid c1
  have C2 := Lib.hid c2
  clear c1 c2
  go_enter Try.func24, Try.ntmps24
  go_wp2_with fail
  refine (C1.out).mono ?_
  rintro e w1 ⟨rfl, hb1⟩
  have HB1 := Lib.hid hb1
  have hz := hb1.size
  clear hb1
  go_wp2_with fail
  refine (C2.out _).mono ?_
  rintro e w2 ⟨rfl, hb2⟩
  have HB2 := Lib.hid hb2
  clear hb2
  go_wp2_with (go_at_call 19; refine (is_any _ _).mono ?_; rintro e w' ⟨rfl, rfl⟩)
  go_ret
  exact ⟨by rw [show isB (-1099511627776) = true by decide]; rfl, bthen HB1.out HB2.out⟩
end Go.Proofs.Ytlpfdokaionkjaa
