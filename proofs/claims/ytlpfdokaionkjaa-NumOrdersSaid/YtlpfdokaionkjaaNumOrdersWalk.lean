/-
  The walk of NumOrders.
-/
import Derived.Test.YtlpfdokaionkjaaAwake1
namespace Go.Proofs.Ytlpfdokaionkjaa
open Go.RowKit
set_option maxRecDepth 100000 in
set_option maxHeartbeats 2000000 in
theorem numOrders_walk (a : Int) (_ha : -9223372036854775808 ≤ a ∧ a ≤ 9223372036854775807) (b : Int) (_hb : -9223372036854775808 ≤ b ∧ b ≤ 9223372036854775807) (w : World) :
    Calls Try.prog 12 #[.int .i64 a, .int .i64 b] w fun e w' => e = .returned (.bool true) ∧ Below w.heap.size w w' := by
  have i0 : isB 0 = true := by decide
  cases hok : addOk a b
  case true =>
    have hok2 := (addOk_comm a b).symm.trans hok
    obtain ⟨p1, p2, p3⟩ := addOk_parts hok
    have hs : subOk (a + b) b = true := by unfold subOk; rw [p3, p2, Int.add_sub_cancel, p1]; rfl
    cases hm : mulOk a b
    case true =>
      have hm2 := (mulOk_comm a b).symm.trans hm
      have q3 := (mulOk_parts hm).2.2
      have HA := Lib.hid (fun w => add_to hok rfl w)
      have HA2 := Lib.hid (fun w => add_to hok2 (Int.add_comm b a) w)
      have HM := Lib.hid (fun w => mul_to hm rfl w)
      have HM2 := Lib.hid (fun w => mul_to hm2 (Int.mul_comm b a) w)
      have HS := Lib.hid (fun w => sub_to hs (Int.add_sub_cancel a b) w)
      clear hok hok2 hm hm2 hs
      go_enter Try.func12, Try.ntmps12
      go_wp2_with fail
      refine (HA.out _).mono ?_
      rintro e w1 ⟨rfl, hbw1⟩
      have HBw1 := Lib.hid hbw1
      clear hbw1
      go_wp2_with fail
      refine (HA2.out _).mono ?_
      rintro e w2 ⟨rfl, hbw2⟩
      have HBw2 := Lib.hid hbw2
      clear hbw2
      go_wp2_with fail
      refine (HM.out _).mono ?_
      rintro e w3 ⟨rfl, hbw3⟩
      have HBw3 := Lib.hid hbw3
      clear hbw3
      go_wp2_with fail
      refine (HM2.out _).mono ?_
      rintro e w4 ⟨rfl, hbw4⟩
      have HBw4 := Lib.hid hbw4
      clear hbw4
      go_wp2_with fail
      refine (is_any _ _).mono ?_
      rintro e _ ⟨rfl, rfl⟩
      go_wp2_with fail
      refine (is_any _ _).mono ?_
      rintro e _ ⟨rfl, rfl⟩
      go_wp2_with fail
      refine (HS.out _).mono ?_
      rintro e w5 ⟨rfl, hbw5⟩
      have HBw5 := Lib.hid hbw5
      clear hbw5
      go_wp2_with fail
      refine (awake1 _).mono ?_
      rintro e w6 ⟨rfl, hbw6⟩
      have HBw6 := Lib.hid hbw6
      clear hbw6
      go_wp2_with fail
      go_ret
      exact ⟨rfl, bthen (bthen (bthen (bthen (bthen (HBw1.out) HBw2.out) HBw3.out) HBw4.out) HBw5.out) HBw6.out⟩
    case false =>
      have hm2 := (mulOk_comm a b).symm.trans hm
      have HA := Lib.hid (fun w => add_to hok rfl w)
      have HA2 := Lib.hid (fun w => add_to hok2 (Int.add_comm b a) w)
      have HM := Lib.hid (fun w => mul_no hm w)
      have HM2 := Lib.hid (fun w => mul_no hm2 w)
      have HS := Lib.hid (fun w => sub_to hs (Int.add_sub_cancel a b) w)
      clear hok hok2 hm hm2 hs
      go_enter Try.func12, Try.ntmps12
      go_wp2_with fail
      refine (HA.out _).mono ?_
      rintro e w1 ⟨rfl, hbw1⟩
      have HBw1 := Lib.hid hbw1
      clear hbw1
      go_wp2_with fail
      refine (HA2.out _).mono ?_
      rintro e w2 ⟨rfl, hbw2⟩
      have HBw2 := Lib.hid hbw2
      clear hbw2
      go_wp2_with fail
      refine (HM.out _).mono ?_
      rintro e w3 ⟨rfl, hbw3⟩
      have HBw3 := Lib.hid hbw3
      clear hbw3
      go_wp2_with fail
      refine (HM2.out _).mono ?_
      rintro e w4 ⟨rfl, hbw4⟩
      have HBw4 := Lib.hid hbw4
      clear hbw4
      go_wp2_with fail
      refine (is_any _ _).mono ?_
      rintro e _ ⟨rfl, rfl⟩
      go_wp2_with fail
      refine (is_any _ _).mono ?_
      rintro e _ ⟨rfl, rfl⟩
      go_wp2_with fail
      refine (HS.out _).mono ?_
      rintro e w5 ⟨rfl, hbw5⟩
      have HBw5 := Lib.hid hbw5
      clear hbw5
      go_wp2_with fail
      refine (awake1 _).mono ?_
      rintro e w6 ⟨rfl, hbw6⟩
      have HBw6 := Lib.hid hbw6
      clear hbw6
      go_wp2_with fail
      go_ret
      exact ⟨rfl, bthen (bthen (bthen (bthen (bthen (HBw1.out) HBw2.out) HBw3.out) HBw4.out) HBw5.out) HBw6.out⟩
  case false =>
    have hok2 := (addOk_comm a b).symm.trans hok
    cases hm : mulOk a b
    case true =>
      have hm2 := (mulOk_comm a b).symm.trans hm
      have q3 := (mulOk_parts hm).2.2
      have HA := Lib.hid (fun w => add_no hok w)
      have HA2 := Lib.hid (fun w => add_no hok2 w)
      have HM := Lib.hid (fun w => mul_to hm rfl w)
      have HM2 := Lib.hid (fun w => mul_to hm2 (Int.mul_comm b a) w)
      clear hok hok2 hm hm2 
      go_enter Try.func12, Try.ntmps12
      go_wp2_with fail
      refine (HA.out _).mono ?_
      rintro e w1 ⟨rfl, hbw1⟩
      have HBw1 := Lib.hid hbw1
      clear hbw1
      go_wp2_with fail
      refine (HA2.out _).mono ?_
      rintro e w2 ⟨rfl, hbw2⟩
      have HBw2 := Lib.hid hbw2
      clear hbw2
      go_wp2_with fail
      refine (HM.out _).mono ?_
      rintro e w3 ⟨rfl, hbw3⟩
      have HBw3 := Lib.hid hbw3
      clear hbw3
      go_wp2_with fail
      refine (HM2.out _).mono ?_
      rintro e w4 ⟨rfl, hbw4⟩
      have HBw4 := Lib.hid hbw4
      clear hbw4
      go_wp2_with fail
      refine (is_any _ _).mono ?_
      rintro e _ ⟨rfl, rfl⟩
      go_wp2_with fail
      refine (is_any _ _).mono ?_
      rintro e _ ⟨rfl, rfl⟩
      go_wp2_with fail
      refine (awake1 _).mono ?_
      rintro e w6 ⟨rfl, hbw6⟩
      have HBw6 := Lib.hid hbw6
      clear hbw6
      go_wp2_with fail
      go_ret
      exact ⟨rfl, bthen (bthen (bthen (bthen (HBw1.out) HBw2.out) HBw3.out) HBw4.out) HBw6.out⟩
    case false =>
      have hm2 := (mulOk_comm a b).symm.trans hm
      have HA := Lib.hid (fun w => add_no hok w)
      have HA2 := Lib.hid (fun w => add_no hok2 w)
      have HM := Lib.hid (fun w => mul_no hm w)
      have HM2 := Lib.hid (fun w => mul_no hm2 w)
      clear hok hok2 hm hm2 
      go_enter Try.func12, Try.ntmps12
      go_wp2_with fail
      refine (HA.out _).mono ?_
      rintro e w1 ⟨rfl, hbw1⟩
      have HBw1 := Lib.hid hbw1
      clear hbw1
      go_wp2_with fail
      refine (HA2.out _).mono ?_
      rintro e w2 ⟨rfl, hbw2⟩
      have HBw2 := Lib.hid hbw2
      clear hbw2
      go_wp2_with fail
      refine (HM.out _).mono ?_
      rintro e w3 ⟨rfl, hbw3⟩
      have HBw3 := Lib.hid hbw3
      clear hbw3
      go_wp2_with fail
      refine (HM2.out _).mono ?_
      rintro e w4 ⟨rfl, hbw4⟩
      have HBw4 := Lib.hid hbw4
      clear hbw4
      go_wp2_with fail
      refine (is_any _ _).mono ?_
      rintro e _ ⟨rfl, rfl⟩
      go_wp2_with fail
      refine (is_any _ _).mono ?_
      rintro e _ ⟨rfl, rfl⟩
      go_wp2_with fail
      refine (awake1 _).mono ?_
      rintro e w6 ⟨rfl, hbw6⟩
      have HBw6 := Lib.hid hbw6
      clear hbw6
      go_wp2_with fail
      go_ret
      exact ⟨rfl, bthen (bthen (bthen (bthen (HBw1.out) HBw2.out) HBw3.out) HBw4.out) HBw6.out⟩
end Go.Proofs.Ytlpfdokaionkjaa
