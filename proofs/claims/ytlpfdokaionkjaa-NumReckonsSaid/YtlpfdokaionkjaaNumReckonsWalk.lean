/-
  The walk of NumReckons.
-/
import Derived.Test.YtlpfdokaionkjaaAwake1
namespace Go.Proofs.Ytlpfdokaionkjaa
open Go.RowKit
set_option maxRecDepth 100000 in
set_option maxHeartbeats 1000000 in
theorem numReckons_walk (a : Int) (_ha : -9223372036854775808 ≤ a ∧ a ≤ 9223372036854775807) (b : Int) (_hb : -9223372036854775808 ≤ b ∧ b ≤ 9223372036854775807) (w : World) :
    Calls Try.prog 11 #[.int .i64 a, .int .i64 b] w fun e w' => e = .returned (.bool true) ∧ Below w.heap.size w w' := by
  go_enter Try.func11, Try.ntmps11
  go_wp2_with (first | (go_at_call 29; refine (add_any _ _ _).mono ?_; rintro e w1 ⟨rfl, hb1⟩; have HB1 := Lib.hid hb1; clear hb1) | (go_at_call 31; refine (radd_any _ _ _).mono ?_; rintro e w1' ⟨rfl, rfl⟩) | (go_at_call 32; refine (sub_any _ _ _).mono ?_; rintro e w2 ⟨rfl, hb2⟩; have HB2 := Lib.hid hb2; clear hb2) | (go_at_call 33; refine (rsub_any _ _ _).mono ?_; rintro e w1' ⟨rfl, rfl⟩) | (go_at_call 30; refine (mul_any _ _ _).mono ?_; rintro e w3 ⟨rfl, hb3⟩; have HB3 := Lib.hid hb3; clear hb3) | (go_at_call 34; refine (rmul_any _ _ _).mono ?_; rintro e w1' ⟨rfl, rfl⟩) | (go_at_call 19; refine (is_any _ _).mono ?_; rintro e w1' ⟨rfl, rfl⟩) | (go_at_call 35; refine (ris_any _ _).mono ?_; rintro e w1' ⟨rfl, rfl⟩) | (go_at_call 24; refine (awake1 _).mono ?_; rintro e w4 ⟨rfl, hb4⟩; have HB4 := Lib.hid hb4; clear hb4))
  go_ret
  exact ⟨rfl, bthen (bthen (bthen HB1.out HB2.out) HB3.out) HB4.out⟩
end Go.Proofs.Ytlpfdokaionkjaa
