/-
  The walk of NumScales.
-/
import Derived.Test.YtlpfdokaionkjaaAwake1
namespace Go.Proofs.Ytlpfdokaionkjaa
open Go.RowKit
set_option maxRecDepth 100000 in
set_option maxHeartbeats 2000000 in
theorem scales_a (a b c : Int) (ha : isB a = false) (w : World) :
    Calls Try.prog 10 #[.int .i64 a, .int .i64 b, .int .i64 c] w fun e w' => e = .returned (.bool true) ∧ Below w.heap.size w w' := by
  go_enter Try.func10, Try.ntmps10
  go_wp2_with fail
  refine (is_any _ _).mono ?_
  rintro e _ ⟨rfl, rfl⟩
  go_wp2_with fail
  refine (awake1 _).mono ?_
  rintro e w1 ⟨rfl, hbw1⟩
  have HBw1 := Lib.hid hbw1
  clear hbw1
  go_wp2_with fail
  go_ret
  exact ⟨rfl, HBw1.out⟩
set_option maxRecDepth 100000 in
set_option maxHeartbeats 2000000 in
theorem scales_b (a b c : Int) (ha : isB a = true) (hb : isB b = false) (w : World) :
    Calls Try.prog 10 #[.int .i64 a, .int .i64 b, .int .i64 c] w fun e w' => e = .returned (.bool true) ∧ Below w.heap.size w w' := by
  go_enter Try.func10, Try.ntmps10
  go_wp2_with fail
  refine (is_any _ _).mono ?_
  rintro e _ ⟨rfl, rfl⟩
  go_wp2_with fail
  refine (is_any _ _).mono ?_
  rintro e _ ⟨rfl, rfl⟩
  go_wp2_with fail
  refine (awake1 _).mono ?_
  rintro e w1 ⟨rfl, hbw1⟩
  have HBw1 := Lib.hid hbw1
  clear hbw1
  go_wp2_with fail
  go_ret
  exact ⟨rfl, HBw1.out⟩
set_option maxRecDepth 100000 in
set_option maxHeartbeats 2000000 in
theorem scales_c (a b c : Int) (ha : isB a = true) (hb : isB b = true) (hc : isB c = false) (w : World) :
    Calls Try.prog 10 #[.int .i64 a, .int .i64 b, .int .i64 c] w fun e w' => e = .returned (.bool true) ∧ Below w.heap.size w w' := by
  go_enter Try.func10, Try.ntmps10
  go_wp2_with fail
  refine (is_any _ _).mono ?_
  rintro e _ ⟨rfl, rfl⟩
  go_wp2_with fail
  refine (is_any _ _).mono ?_
  rintro e _ ⟨rfl, rfl⟩
  go_wp2_with fail
  refine (is_any _ _).mono ?_
  rintro e _ ⟨rfl, rfl⟩
  go_wp2_with fail
  refine (awake1 _).mono ?_
  rintro e w1 ⟨rfl, hbw1⟩
  have HBw1 := Lib.hid hbw1
  clear hbw1
  go_wp2_with fail
  go_ret
  exact ⟨rfl, HBw1.out⟩
set_option maxRecDepth 100000 in
set_option maxHeartbeats 2000000 in
theorem scales_tttt (a b c : Int) (ha : isB a = true) (hb : isB b = true) (hc : isB c = true) (hA : addOk b c = true) (hB : mulOk a b = true) (hC : mulOk a c = true) (hD : mulOk a (b + c) = true) (w : World) :
    Calls Try.prog 10 #[.int .i64 a, .int .i64 b, .int .i64 c] w fun e w' => e = .returned (.bool true) ∧ Below w.heap.size w w' := by
  have H0 := Lib.hid (fun w => mul_to (mul_0 ha) (Int.mul_zero a) w)
  have H1 := Lib.hid (fun w => mul_to (mul_1 ha) (Int.mul_one a) w)
  have H2 := Lib.hid (fun w => mul_to (mul_m1 ha) (show a * (-1) = -a by omega) w)
  have HA := Lib.hid (fun w => add_to hA rfl w)
  have HB := Lib.hid (fun w => mul_to hB rfl w)
  have HC := Lib.hid (fun w => mul_to hC rfl w)
  have HD := Lib.hid (fun w => mul_to hD rfl w)
  have HE := Lib.hid (fun w => add_to (show addOk (a * b) (a * c) = true by unfold addOk; rw [(mulOk_parts hB).2.2, (mulOk_parts hC).2.2, ← Int.mul_add, (mulOk_parts hD).2.2]; rfl) (Int.mul_add a b c).symm w)
  obtain ⟨a1, a2⟩ := isB_iff.1 ha
  clear hA hB hC hD
  go_enter Try.func10, Try.ntmps10
  go_wp2_with fail
  refine (is_any _ _).mono ?_
  rintro e _ ⟨rfl, rfl⟩
  go_wp2_with fail
  refine (is_any _ _).mono ?_
  rintro e _ ⟨rfl, rfl⟩
  go_wp2_with fail
  refine (is_any _ _).mono ?_
  rintro e _ ⟨rfl, rfl⟩
  go_wp2_with fail
  refine (H0.out _).mono ?_
  rintro e w1 ⟨rfl, hbw1⟩
  have HBw1 := Lib.hid hbw1
  clear hbw1
  go_wp2_with fail
  refine (H1.out _).mono ?_
  rintro e w2 ⟨rfl, hbw2⟩
  have HBw2 := Lib.hid hbw2
  clear hbw2
  go_wp2_with fail
  refine (H2.out _).mono ?_
  rintro e w3 ⟨rfl, hbw3⟩
  have HBw3 := Lib.hid hbw3
  clear hbw3
  go_wp2_with fail
  refine (HA.out _).mono ?_
  rintro e w4 ⟨rfl, hbw4⟩
  have HBw4 := Lib.hid hbw4
  clear hbw4
  go_wp2_with fail
  refine (HB.out _).mono ?_
  rintro e w5 ⟨rfl, hbw5⟩
  have HBw5 := Lib.hid hbw5
  clear hbw5
  go_wp2_with fail
  refine (HC.out _).mono ?_
  rintro e w6 ⟨rfl, hbw6⟩
  have HBw6 := Lib.hid hbw6
  clear hbw6
  go_wp2_with fail
  refine (HD.out _).mono ?_
  rintro e w7 ⟨rfl, hbw7⟩
  have HBw7 := Lib.hid hbw7
  clear hbw7
  go_wp2_with fail
  refine (HE.out _).mono ?_
  rintro e w8 ⟨rfl, hbw8⟩
  have HBw8 := Lib.hid hbw8
  clear hbw8
  go_wp2_with fail
  refine (awake1 _).mono ?_
  rintro e w9 ⟨rfl, hbw9⟩
  have HBw9 := Lib.hid hbw9
  clear hbw9
  go_wp2_with fail
  go_ret
  exact ⟨rfl, bthen (bthen (bthen (bthen (bthen (bthen (bthen (bthen (HBw1.out) HBw2.out) HBw3.out) HBw4.out) HBw5.out) HBw6.out) HBw7.out) HBw8.out) HBw9.out⟩
set_option maxRecDepth 100000 in
set_option maxHeartbeats 2000000 in
theorem scales_tttf (a b c : Int) (ha : isB a = true) (hb : isB b = true) (hc : isB c = true) (hA : addOk b c = true) (hB : mulOk a b = true) (hC : mulOk a c = true) (hD : mulOk a (b + c) = false) (w : World) :
    Calls Try.prog 10 #[.int .i64 a, .int .i64 b, .int .i64 c] w fun e w' => e = .returned (.bool true) ∧ Below w.heap.size w w' := by
  have H0 := Lib.hid (fun w => mul_to (mul_0 ha) (Int.mul_zero a) w)
  have H1 := Lib.hid (fun w => mul_to (mul_1 ha) (Int.mul_one a) w)
  have H2 := Lib.hid (fun w => mul_to (mul_m1 ha) (show a * (-1) = -a by omega) w)
  have HA := Lib.hid (fun w => add_to hA rfl w)
  have HB := Lib.hid (fun w => mul_to hB rfl w)
  have HC := Lib.hid (fun w => mul_to hC rfl w)
  have HD := Lib.hid (fun w => mul_no hD w)
  obtain ⟨a1, a2⟩ := isB_iff.1 ha
  clear hA hB hC hD
  go_enter Try.func10, Try.ntmps10
  go_wp2_with fail
  refine (is_any _ _).mono ?_
  rintro e _ ⟨rfl, rfl⟩
  go_wp2_with fail
  refine (is_any _ _).mono ?_
  rintro e _ ⟨rfl, rfl⟩
  go_wp2_with fail
  refine (is_any _ _).mono ?_
  rintro e _ ⟨rfl, rfl⟩
  go_wp2_with fail
  refine (H0.out _).mono ?_
  rintro e w1 ⟨rfl, hbw1⟩
  have HBw1 := Lib.hid hbw1
  clear hbw1
  go_wp2_with fail
  refine (H1.out _).mono ?_
  rintro e w2 ⟨rfl, hbw2⟩
  have HBw2 := Lib.hid hbw2
  clear hbw2
  go_wp2_with fail
  refine (H2.out _).mono ?_
  rintro e w3 ⟨rfl, hbw3⟩
  have HBw3 := Lib.hid hbw3
  clear hbw3
  go_wp2_with fail
  refine (HA.out _).mono ?_
  rintro e w4 ⟨rfl, hbw4⟩
  have HBw4 := Lib.hid hbw4
  clear hbw4
  go_wp2_with fail
  refine (HB.out _).mono ?_
  rintro e w5 ⟨rfl, hbw5⟩
  have HBw5 := Lib.hid hbw5
  clear hbw5
  go_wp2_with fail
  refine (HC.out _).mono ?_
  rintro e w6 ⟨rfl, hbw6⟩
  have HBw6 := Lib.hid hbw6
  clear hbw6
  go_wp2_with fail
  refine (HD.out _).mono ?_
  rintro e w7 ⟨rfl, hbw7⟩
  have HBw7 := Lib.hid hbw7
  clear hbw7
  go_wp2_with fail
  refine (awake1 _).mono ?_
  rintro e w9 ⟨rfl, hbw9⟩
  have HBw9 := Lib.hid hbw9
  clear hbw9
  go_wp2_with fail
  go_ret
  exact ⟨rfl, bthen (bthen (bthen (bthen (bthen (bthen (bthen (HBw1.out) HBw2.out) HBw3.out) HBw4.out) HBw5.out) HBw6.out) HBw7.out) HBw9.out⟩
set_option maxRecDepth 100000 in
set_option maxHeartbeats 2000000 in
theorem scales_ttft (a b c : Int) (ha : isB a = true) (hb : isB b = true) (hc : isB c = true) (hA : addOk b c = true) (hB : mulOk a b = true) (hC : mulOk a c = false) (hD : mulOk a (b + c) = true) (w : World) :
    Calls Try.prog 10 #[.int .i64 a, .int .i64 b, .int .i64 c] w fun e w' => e = .returned (.bool true) ∧ Below w.heap.size w w' := by
  have H0 := Lib.hid (fun w => mul_to (mul_0 ha) (Int.mul_zero a) w)
  have H1 := Lib.hid (fun w => mul_to (mul_1 ha) (Int.mul_one a) w)
  have H2 := Lib.hid (fun w => mul_to (mul_m1 ha) (show a * (-1) = -a by omega) w)
  have HA := Lib.hid (fun w => add_to hA rfl w)
  have HB := Lib.hid (fun w => mul_to hB rfl w)
  have HC := Lib.hid (fun w => mul_no hC w)
  have HD := Lib.hid (fun w => mul_to hD rfl w)
  obtain ⟨a1, a2⟩ := isB_iff.1 ha
  clear hA hB hC hD
  go_enter Try.func10, Try.ntmps10
  go_wp2_with fail
  refine (is_any _ _).mono ?_
  rintro e _ ⟨rfl, rfl⟩
  go_wp2_with fail
  refine (is_any _ _).mono ?_
  rintro e _ ⟨rfl, rfl⟩
  go_wp2_with fail
  refine (is_any _ _).mono ?_
  rintro e _ ⟨rfl, rfl⟩
  go_wp2_with fail
  refine (H0.out _).mono ?_
  rintro e w1 ⟨rfl, hbw1⟩
  have HBw1 := Lib.hid hbw1
  clear hbw1
  go_wp2_with fail
  refine (H1.out _).mono ?_
  rintro e w2 ⟨rfl, hbw2⟩
  have HBw2 := Lib.hid hbw2
  clear hbw2
  go_wp2_with fail
  refine (H2.out _).mono ?_
  rintro e w3 ⟨rfl, hbw3⟩
  have HBw3 := Lib.hid hbw3
  clear hbw3
  go_wp2_with fail
  refine (HA.out _).mono ?_
  rintro e w4 ⟨rfl, hbw4⟩
  have HBw4 := Lib.hid hbw4
  clear hbw4
  go_wp2_with fail
  refine (HB.out _).mono ?_
  rintro e w5 ⟨rfl, hbw5⟩
  have HBw5 := Lib.hid hbw5
  clear hbw5
  go_wp2_with fail
  refine (HC.out _).mono ?_
  rintro e w6 ⟨rfl, hbw6⟩
  have HBw6 := Lib.hid hbw6
  clear hbw6
  go_wp2_with fail
  refine (HD.out _).mono ?_
  rintro e w7 ⟨rfl, hbw7⟩
  have HBw7 := Lib.hid hbw7
  clear hbw7
  go_wp2_with fail
  refine (awake1 _).mono ?_
  rintro e w9 ⟨rfl, hbw9⟩
  have HBw9 := Lib.hid hbw9
  clear hbw9
  go_wp2_with fail
  go_ret
  exact ⟨rfl, bthen (bthen (bthen (bthen (bthen (bthen (bthen (HBw1.out) HBw2.out) HBw3.out) HBw4.out) HBw5.out) HBw6.out) HBw7.out) HBw9.out⟩
set_option maxRecDepth 100000 in
set_option maxHeartbeats 2000000 in
theorem scales_ttff (a b c : Int) (ha : isB a = true) (hb : isB b = true) (hc : isB c = true) (hA : addOk b c = true) (hB : mulOk a b = true) (hC : mulOk a c = false) (hD : mulOk a (b + c) = false) (w : World) :
    Calls Try.prog 10 #[.int .i64 a, .int .i64 b, .int .i64 c] w fun e w' => e = .returned (.bool true) ∧ Below w.heap.size w w' := by
  have H0 := Lib.hid (fun w => mul_to (mul_0 ha) (Int.mul_zero a) w)
  have H1 := Lib.hid (fun w => mul_to (mul_1 ha) (Int.mul_one a) w)
  have H2 := Lib.hid (fun w => mul_to (mul_m1 ha) (show a * (-1) = -a by omega) w)
  have HA := Lib.hid (fun w => add_to hA rfl w)
  have HB := Lib.hid (fun w => mul_to hB rfl w)
  have HC := Lib.hid (fun w => mul_no hC w)
  have HD := Lib.hid (fun w => mul_no hD w)
  obtain ⟨a1, a2⟩ := isB_iff.1 ha
  clear hA hB hC hD
  go_enter Try.func10, Try.ntmps10
  go_wp2_with fail
  refine (is_any _ _).mono ?_
  rintro e _ ⟨rfl, rfl⟩
  go_wp2_with fail
  refine (is_any _ _).mono ?_
  rintro e _ ⟨rfl, rfl⟩
  go_wp2_with fail
  refine (is_any _ _).mono ?_
  rintro e _ ⟨rfl, rfl⟩
  go_wp2_with fail
  refine (H0.out _).mono ?_
  rintro e w1 ⟨rfl, hbw1⟩
  have HBw1 := Lib.hid hbw1
  clear hbw1
  go_wp2_with fail
  refine (H1.out _).mono ?_
  rintro e w2 ⟨rfl, hbw2⟩
  have HBw2 := Lib.hid hbw2
  clear hbw2
  go_wp2_with fail
  refine (H2.out _).mono ?_
  rintro e w3 ⟨rfl, hbw3⟩
  have HBw3 := Lib.hid hbw3
  clear hbw3
  go_wp2_with fail
  refine (HA.out _).mono ?_
  rintro e w4 ⟨rfl, hbw4⟩
  have HBw4 := Lib.hid hbw4
  clear hbw4
  go_wp2_with fail
  refine (HB.out _).mono ?_
  rintro e w5 ⟨rfl, hbw5⟩
  have HBw5 := Lib.hid hbw5
  clear hbw5
  go_wp2_with fail
  refine (HC.out _).mono ?_
  rintro e w6 ⟨rfl, hbw6⟩
  have HBw6 := Lib.hid hbw6
  clear hbw6
  go_wp2_with fail
  refine (HD.out _).mono ?_
  rintro e w7 ⟨rfl, hbw7⟩
  have HBw7 := Lib.hid hbw7
  clear hbw7
  go_wp2_with fail
  refine (awake1 _).mono ?_
  rintro e w9 ⟨rfl, hbw9⟩
  have HBw9 := Lib.hid hbw9
  clear hbw9
  go_wp2_with fail
  go_ret
  exact ⟨rfl, bthen (bthen (bthen (bthen (bthen (bthen (bthen (HBw1.out) HBw2.out) HBw3.out) HBw4.out) HBw5.out) HBw6.out) HBw7.out) HBw9.out⟩
set_option maxRecDepth 100000 in
set_option maxHeartbeats 2000000 in
theorem scales_tftt (a b c : Int) (ha : isB a = true) (hb : isB b = true) (hc : isB c = true) (hA : addOk b c = true) (hB : mulOk a b = false) (hC : mulOk a c = true) (hD : mulOk a (b + c) = true) (w : World) :
    Calls Try.prog 10 #[.int .i64 a, .int .i64 b, .int .i64 c] w fun e w' => e = .returned (.bool true) ∧ Below w.heap.size w w' := by
  have H0 := Lib.hid (fun w => mul_to (mul_0 ha) (Int.mul_zero a) w)
  have H1 := Lib.hid (fun w => mul_to (mul_1 ha) (Int.mul_one a) w)
  have H2 := Lib.hid (fun w => mul_to (mul_m1 ha) (show a * (-1) = -a by omega) w)
  have HA := Lib.hid (fun w => add_to hA rfl w)
  have HB := Lib.hid (fun w => mul_no hB w)
  have HC := Lib.hid (fun w => mul_to hC rfl w)
  have HD := Lib.hid (fun w => mul_to hD rfl w)
  obtain ⟨a1, a2⟩ := isB_iff.1 ha
  clear hA hB hC hD
  go_enter Try.func10, Try.ntmps10
  go_wp2_with fail
  refine (is_any _ _).mono ?_
  rintro e _ ⟨rfl, rfl⟩
  go_wp2_with fail
  refine (is_any _ _).mono ?_
  rintro e _ ⟨rfl, rfl⟩
  go_wp2_with fail
  refine (is_any _ _).mono ?_
  rintro e _ ⟨rfl, rfl⟩
  go_wp2_with fail
  refine (H0.out _).mono ?_
  rintro e w1 ⟨rfl, hbw1⟩
  have HBw1 := Lib.hid hbw1
  clear hbw1
  go_wp2_with fail
  refine (H1.out _).mono ?_
  rintro e w2 ⟨rfl, hbw2⟩
  have HBw2 := Lib.hid hbw2
  clear hbw2
  go_wp2_with fail
  refine (H2.out _).mono ?_
  rintro e w3 ⟨rfl, hbw3⟩
  have HBw3 := Lib.hid hbw3
  clear hbw3
  go_wp2_with fail
  refine (HA.out _).mono ?_
  rintro e w4 ⟨rfl, hbw4⟩
  have HBw4 := Lib.hid hbw4
  clear hbw4
  go_wp2_with fail
  refine (HB.out _).mono ?_
  rintro e w5 ⟨rfl, hbw5⟩
  have HBw5 := Lib.hid hbw5
  clear hbw5
  go_wp2_with fail
  refine (HC.out _).mono ?_
  rintro e w6 ⟨rfl, hbw6⟩
  have HBw6 := Lib.hid hbw6
  clear hbw6
  go_wp2_with fail
  refine (HD.out _).mono ?_
  rintro e w7 ⟨rfl, hbw7⟩
  have HBw7 := Lib.hid hbw7
  clear hbw7
  go_wp2_with fail
  refine (awake1 _).mono ?_
  rintro e w9 ⟨rfl, hbw9⟩
  have HBw9 := Lib.hid hbw9
  clear hbw9
  go_wp2_with fail
  go_ret
  exact ⟨rfl, bthen (bthen (bthen (bthen (bthen (bthen (bthen (HBw1.out) HBw2.out) HBw3.out) HBw4.out) HBw5.out) HBw6.out) HBw7.out) HBw9.out⟩
set_option maxRecDepth 100000 in
set_option maxHeartbeats 2000000 in
theorem scales_tftf (a b c : Int) (ha : isB a = true) (hb : isB b = true) (hc : isB c = true) (hA : addOk b c = true) (hB : mulOk a b = false) (hC : mulOk a c = true) (hD : mulOk a (b + c) = false) (w : World) :
    Calls Try.prog 10 #[.int .i64 a, .int .i64 b, .int .i64 c] w fun e w' => e = .returned (.bool true) ∧ Below w.heap.size w w' := by
  have H0 := Lib.hid (fun w => mul_to (mul_0 ha) (Int.mul_zero a) w)
  have H1 := Lib.hid (fun w => mul_to (mul_1 ha) (Int.mul_one a) w)
  have H2 := Lib.hid (fun w => mul_to (mul_m1 ha) (show a * (-1) = -a by omega) w)
  have HA := Lib.hid (fun w => add_to hA rfl w)
  have HB := Lib.hid (fun w => mul_no hB w)
  have HC := Lib.hid (fun w => mul_to hC rfl w)
  have HD := Lib.hid (fun w => mul_no hD w)
  obtain ⟨a1, a2⟩ := isB_iff.1 ha
  clear hA hB hC hD
  go_enter Try.func10, Try.ntmps10
  go_wp2_with fail
  refine (is_any _ _).mono ?_
  rintro e _ ⟨rfl, rfl⟩
  go_wp2_with fail
  refine (is_any _ _).mono ?_
  rintro e _ ⟨rfl, rfl⟩
  go_wp2_with fail
  refine (is_any _ _).mono ?_
  rintro e _ ⟨rfl, rfl⟩
  go_wp2_with fail
  refine (H0.out _).mono ?_
  rintro e w1 ⟨rfl, hbw1⟩
  have HBw1 := Lib.hid hbw1
  clear hbw1
  go_wp2_with fail
  refine (H1.out _).mono ?_
  rintro e w2 ⟨rfl, hbw2⟩
  have HBw2 := Lib.hid hbw2
  clear hbw2
  go_wp2_with fail
  refine (H2.out _).mono ?_
  rintro e w3 ⟨rfl, hbw3⟩
  have HBw3 := Lib.hid hbw3
  clear hbw3
  go_wp2_with fail
  refine (HA.out _).mono ?_
  rintro e w4 ⟨rfl, hbw4⟩
  have HBw4 := Lib.hid hbw4
  clear hbw4
  go_wp2_with fail
  refine (HB.out _).mono ?_
  rintro e w5 ⟨rfl, hbw5⟩
  have HBw5 := Lib.hid hbw5
  clear hbw5
  go_wp2_with fail
  refine (HC.out _).mono ?_
  rintro e w6 ⟨rfl, hbw6⟩
  have HBw6 := Lib.hid hbw6
  clear hbw6
  go_wp2_with fail
  refine (HD.out _).mono ?_
  rintro e w7 ⟨rfl, hbw7⟩
  have HBw7 := Lib.hid hbw7
  clear hbw7
  go_wp2_with fail
  refine (awake1 _).mono ?_
  rintro e w9 ⟨rfl, hbw9⟩
  have HBw9 := Lib.hid hbw9
  clear hbw9
  go_wp2_with fail
  go_ret
  exact ⟨rfl, bthen (bthen (bthen (bthen (bthen (bthen (bthen (HBw1.out) HBw2.out) HBw3.out) HBw4.out) HBw5.out) HBw6.out) HBw7.out) HBw9.out⟩
set_option maxRecDepth 100000 in
set_option maxHeartbeats 2000000 in
theorem scales_tfft (a b c : Int) (ha : isB a = true) (hb : isB b = true) (hc : isB c = true) (hA : addOk b c = true) (hB : mulOk a b = false) (hC : mulOk a c = false) (hD : mulOk a (b + c) = true) (w : World) :
    Calls Try.prog 10 #[.int .i64 a, .int .i64 b, .int .i64 c] w fun e w' => e = .returned (.bool true) ∧ Below w.heap.size w w' := by
  have H0 := Lib.hid (fun w => mul_to (mul_0 ha) (Int.mul_zero a) w)
  have H1 := Lib.hid (fun w => mul_to (mul_1 ha) (Int.mul_one a) w)
  have H2 := Lib.hid (fun w => mul_to (mul_m1 ha) (show a * (-1) = -a by omega) w)
  have HA := Lib.hid (fun w => add_to hA rfl w)
  have HB := Lib.hid (fun w => mul_no hB w)
  have HC := Lib.hid (fun w => mul_no hC w)
  have HD := Lib.hid (fun w => mul_to hD rfl w)
  obtain ⟨a1, a2⟩ := isB_iff.1 ha
  clear hA hB hC hD
  go_enter Try.func10, Try.ntmps10
  go_wp2_with fail
  refine (is_any _ _).mono ?_
  rintro e _ ⟨rfl, rfl⟩
  go_wp2_with fail
  refine (is_any _ _).mono ?_
  rintro e _ ⟨rfl, rfl⟩
  go_wp2_with fail
  refine (is_any _ _).mono ?_
  rintro e _ ⟨rfl, rfl⟩
  go_wp2_with fail
  refine (H0.out _).mono ?_
  rintro e w1 ⟨rfl, hbw1⟩
  have HBw1 := Lib.hid hbw1
  clear hbw1
  go_wp2_with fail
  refine (H1.out _).mono ?_
  rintro e w2 ⟨rfl, hbw2⟩
  have HBw2 := Lib.hid hbw2
  clear hbw2
  go_wp2_with fail
  refine (H2.out _).mono ?_
  rintro e w3 ⟨rfl, hbw3⟩
  have HBw3 := Lib.hid hbw3
  clear hbw3
  go_wp2_with fail
  refine (HA.out _).mono ?_
  rintro e w4 ⟨rfl, hbw4⟩
  have HBw4 := Lib.hid hbw4
  clear hbw4
  go_wp2_with fail
  refine (HB.out _).mono ?_
  rintro e w5 ⟨rfl, hbw5⟩
  have HBw5 := Lib.hid hbw5
  clear hbw5
  go_wp2_with fail
  refine (HC.out _).mono ?_
  rintro e w6 ⟨rfl, hbw6⟩
  have HBw6 := Lib.hid hbw6
  clear hbw6
  go_wp2_with fail
  refine (HD.out _).mono ?_
  rintro e w7 ⟨rfl, hbw7⟩
  have HBw7 := Lib.hid hbw7
  clear hbw7
  go_wp2_with fail
  refine (awake1 _).mono ?_
  rintro e w9 ⟨rfl, hbw9⟩
  have HBw9 := Lib.hid hbw9
  clear hbw9
  go_wp2_with fail
  go_ret
  exact ⟨rfl, bthen (bthen (bthen (bthen (bthen (bthen (bthen (HBw1.out) HBw2.out) HBw3.out) HBw4.out) HBw5.out) HBw6.out) HBw7.out) HBw9.out⟩
set_option maxRecDepth 100000 in
set_option maxHeartbeats 2000000 in
theorem scales_tfff (a b c : Int) (ha : isB a = true) (hb : isB b = true) (hc : isB c = true) (hA : addOk b c = true) (hB : mulOk a b = false) (hC : mulOk a c = false) (hD : mulOk a (b + c) = false) (w : World) :
    Calls Try.prog 10 #[.int .i64 a, .int .i64 b, .int .i64 c] w fun e w' => e = .returned (.bool true) ∧ Below w.heap.size w w' := by
  have H0 := Lib.hid (fun w => mul_to (mul_0 ha) (Int.mul_zero a) w)
  have H1 := Lib.hid (fun w => mul_to (mul_1 ha) (Int.mul_one a) w)
  have H2 := Lib.hid (fun w => mul_to (mul_m1 ha) (show a * (-1) = -a by omega) w)
  have HA := Lib.hid (fun w => add_to hA rfl w)
  have HB := Lib.hid (fun w => mul_no hB w)
  have HC := Lib.hid (fun w => mul_no hC w)
  have HD := Lib.hid (fun w => mul_no hD w)
  obtain ⟨a1, a2⟩ := isB_iff.1 ha
  clear hA hB hC hD
  go_enter Try.func10, Try.ntmps10
  go_wp2_with fail
  refine (is_any _ _).mono ?_
  rintro e _ ⟨rfl, rfl⟩
  go_wp2_with fail
  refine (is_any _ _).mono ?_
  rintro e _ ⟨rfl, rfl⟩
  go_wp2_with fail
  refine (is_any _ _).mono ?_
  rintro e _ ⟨rfl, rfl⟩
  go_wp2_with fail
  refine (H0.out _).mono ?_
  rintro e w1 ⟨rfl, hbw1⟩
  have HBw1 := Lib.hid hbw1
  clear hbw1
  go_wp2_with fail
  refine (H1.out _).mono ?_
  rintro e w2 ⟨rfl, hbw2⟩
  have HBw2 := Lib.hid hbw2
  clear hbw2
  go_wp2_with fail
  refine (H2.out _).mono ?_
  rintro e w3 ⟨rfl, hbw3⟩
  have HBw3 := Lib.hid hbw3
  clear hbw3
  go_wp2_with fail
  refine (HA.out _).mono ?_
  rintro e w4 ⟨rfl, hbw4⟩
  have HBw4 := Lib.hid hbw4
  clear hbw4
  go_wp2_with fail
  refine (HB.out _).mono ?_
  rintro e w5 ⟨rfl, hbw5⟩
  have HBw5 := Lib.hid hbw5
  clear hbw5
  go_wp2_with fail
  refine (HC.out _).mono ?_
  rintro e w6 ⟨rfl, hbw6⟩
  have HBw6 := Lib.hid hbw6
  clear hbw6
  go_wp2_with fail
  refine (HD.out _).mono ?_
  rintro e w7 ⟨rfl, hbw7⟩
  have HBw7 := Lib.hid hbw7
  clear hbw7
  go_wp2_with fail
  refine (awake1 _).mono ?_
  rintro e w9 ⟨rfl, hbw9⟩
  have HBw9 := Lib.hid hbw9
  clear hbw9
  go_wp2_with fail
  go_ret
  exact ⟨rfl, bthen (bthen (bthen (bthen (bthen (bthen (bthen (HBw1.out) HBw2.out) HBw3.out) HBw4.out) HBw5.out) HBw6.out) HBw7.out) HBw9.out⟩
set_option maxRecDepth 100000 in
set_option maxHeartbeats 2000000 in
theorem scales_ftt (a b c : Int) (ha : isB a = true) (hb : isB b = true) (hc : isB c = true) (hA : addOk b c = false) (hB : mulOk a b = true) (hC : mulOk a c = true) (w : World) :
    Calls Try.prog 10 #[.int .i64 a, .int .i64 b, .int .i64 c] w fun e w' => e = .returned (.bool true) ∧ Below w.heap.size w w' := by
  have H0 := Lib.hid (fun w => mul_to (mul_0 ha) (Int.mul_zero a) w)
  have H1 := Lib.hid (fun w => mul_to (mul_1 ha) (Int.mul_one a) w)
  have H2 := Lib.hid (fun w => mul_to (mul_m1 ha) (show a * (-1) = -a by omega) w)
  have HA := Lib.hid (fun w => add_no hA w)
  have HB := Lib.hid (fun w => mul_to hB rfl w)
  have HC := Lib.hid (fun w => mul_to hC rfl w)
  have HD := Lib.hid (fun w => mul_to (mul_0 ha) (Int.mul_zero a) w)
  obtain ⟨a1, a2⟩ := isB_iff.1 ha
  clear hA hB hC
  go_enter Try.func10, Try.ntmps10
  go_wp2_with fail
  refine (is_any _ _).mono ?_
  rintro e _ ⟨rfl, rfl⟩
  go_wp2_with fail
  refine (is_any _ _).mono ?_
  rintro e _ ⟨rfl, rfl⟩
  go_wp2_with fail
  refine (is_any _ _).mono ?_
  rintro e _ ⟨rfl, rfl⟩
  go_wp2_with fail
  refine (H0.out _).mono ?_
  rintro e w1 ⟨rfl, hbw1⟩
  have HBw1 := Lib.hid hbw1
  clear hbw1
  go_wp2_with fail
  refine (H1.out _).mono ?_
  rintro e w2 ⟨rfl, hbw2⟩
  have HBw2 := Lib.hid hbw2
  clear hbw2
  go_wp2_with fail
  refine (H2.out _).mono ?_
  rintro e w3 ⟨rfl, hbw3⟩
  have HBw3 := Lib.hid hbw3
  clear hbw3
  go_wp2_with fail
  refine (HA.out _).mono ?_
  rintro e w4 ⟨rfl, hbw4⟩
  have HBw4 := Lib.hid hbw4
  clear hbw4
  go_wp2_with fail
  refine (HB.out _).mono ?_
  rintro e w5 ⟨rfl, hbw5⟩
  have HBw5 := Lib.hid hbw5
  clear hbw5
  go_wp2_with fail
  refine (HC.out _).mono ?_
  rintro e w6 ⟨rfl, hbw6⟩
  have HBw6 := Lib.hid hbw6
  clear hbw6
  go_wp2_with fail
  refine (HD.out _).mono ?_
  rintro e w7 ⟨rfl, hbw7⟩
  have HBw7 := Lib.hid hbw7
  clear hbw7
  go_wp2_with fail
  refine (awake1 _).mono ?_
  rintro e w9 ⟨rfl, hbw9⟩
  have HBw9 := Lib.hid hbw9
  clear hbw9
  go_wp2_with fail
  go_ret
  exact ⟨rfl, bthen (bthen (bthen (bthen (bthen (bthen (bthen (HBw1.out) HBw2.out) HBw3.out) HBw4.out) HBw5.out) HBw6.out) HBw7.out) HBw9.out⟩
set_option maxRecDepth 100000 in
set_option maxHeartbeats 2000000 in
theorem scales_ftf (a b c : Int) (ha : isB a = true) (hb : isB b = true) (hc : isB c = true) (hA : addOk b c = false) (hB : mulOk a b = true) (hC : mulOk a c = false) (w : World) :
    Calls Try.prog 10 #[.int .i64 a, .int .i64 b, .int .i64 c] w fun e w' => e = .returned (.bool true) ∧ Below w.heap.size w w' := by
  have H0 := Lib.hid (fun w => mul_to (mul_0 ha) (Int.mul_zero a) w)
  have H1 := Lib.hid (fun w => mul_to (mul_1 ha) (Int.mul_one a) w)
  have H2 := Lib.hid (fun w => mul_to (mul_m1 ha) (show a * (-1) = -a by omega) w)
  have HA := Lib.hid (fun w => add_no hA w)
  have HB := Lib.hid (fun w => mul_to hB rfl w)
  have HC := Lib.hid (fun w => mul_no hC w)
  have HD := Lib.hid (fun w => mul_to (mul_0 ha) (Int.mul_zero a) w)
  obtain ⟨a1, a2⟩ := isB_iff.1 ha
  clear hA hB hC
  go_enter Try.func10, Try.ntmps10
  go_wp2_with fail
  refine (is_any _ _).mono ?_
  rintro e _ ⟨rfl, rfl⟩
  go_wp2_with fail
  refine (is_any _ _).mono ?_
  rintro e _ ⟨rfl, rfl⟩
  go_wp2_with fail
  refine (is_any _ _).mono ?_
  rintro e _ ⟨rfl, rfl⟩
  go_wp2_with fail
  refine (H0.out _).mono ?_
  rintro e w1 ⟨rfl, hbw1⟩
  have HBw1 := Lib.hid hbw1
  clear hbw1
  go_wp2_with fail
  refine (H1.out _).mono ?_
  rintro e w2 ⟨rfl, hbw2⟩
  have HBw2 := Lib.hid hbw2
  clear hbw2
  go_wp2_with fail
  refine (H2.out _).mono ?_
  rintro e w3 ⟨rfl, hbw3⟩
  have HBw3 := Lib.hid hbw3
  clear hbw3
  go_wp2_with fail
  refine (HA.out _).mono ?_
  rintro e w4 ⟨rfl, hbw4⟩
  have HBw4 := Lib.hid hbw4
  clear hbw4
  go_wp2_with fail
  refine (HB.out _).mono ?_
  rintro e w5 ⟨rfl, hbw5⟩
  have HBw5 := Lib.hid hbw5
  clear hbw5
  go_wp2_with fail
  refine (HC.out _).mono ?_
  rintro e w6 ⟨rfl, hbw6⟩
  have HBw6 := Lib.hid hbw6
  clear hbw6
  go_wp2_with fail
  refine (HD.out _).mono ?_
  rintro e w7 ⟨rfl, hbw7⟩
  have HBw7 := Lib.hid hbw7
  clear hbw7
  go_wp2_with fail
  refine (awake1 _).mono ?_
  rintro e w9 ⟨rfl, hbw9⟩
  have HBw9 := Lib.hid hbw9
  clear hbw9
  go_wp2_with fail
  go_ret
  exact ⟨rfl, bthen (bthen (bthen (bthen (bthen (bthen (bthen (HBw1.out) HBw2.out) HBw3.out) HBw4.out) HBw5.out) HBw6.out) HBw7.out) HBw9.out⟩
set_option maxRecDepth 100000 in
set_option maxHeartbeats 2000000 in
theorem scales_fft (a b c : Int) (ha : isB a = true) (hb : isB b = true) (hc : isB c = true) (hA : addOk b c = false) (hB : mulOk a b = false) (hC : mulOk a c = true) (w : World) :
    Calls Try.prog 10 #[.int .i64 a, .int .i64 b, .int .i64 c] w fun e w' => e = .returned (.bool true) ∧ Below w.heap.size w w' := by
  have H0 := Lib.hid (fun w => mul_to (mul_0 ha) (Int.mul_zero a) w)
  have H1 := Lib.hid (fun w => mul_to (mul_1 ha) (Int.mul_one a) w)
  have H2 := Lib.hid (fun w => mul_to (mul_m1 ha) (show a * (-1) = -a by omega) w)
  have HA := Lib.hid (fun w => add_no hA w)
  have HB := Lib.hid (fun w => mul_no hB w)
  have HC := Lib.hid (fun w => mul_to hC rfl w)
  have HD := Lib.hid (fun w => mul_to (mul_0 ha) (Int.mul_zero a) w)
  obtain ⟨a1, a2⟩ := isB_iff.1 ha
  clear hA hB hC
  go_enter Try.func10, Try.ntmps10
  go_wp2_with fail
  refine (is_any _ _).mono ?_
  rintro e _ ⟨rfl, rfl⟩
  go_wp2_with fail
  refine (is_any _ _).mono ?_
  rintro e _ ⟨rfl, rfl⟩
  go_wp2_with fail
  refine (is_any _ _).mono ?_
  rintro e _ ⟨rfl, rfl⟩
  go_wp2_with fail
  refine (H0.out _).mono ?_
  rintro e w1 ⟨rfl, hbw1⟩
  have HBw1 := Lib.hid hbw1
  clear hbw1
  go_wp2_with fail
  refine (H1.out _).mono ?_
  rintro e w2 ⟨rfl, hbw2⟩
  have HBw2 := Lib.hid hbw2
  clear hbw2
  go_wp2_with fail
  refine (H2.out _).mono ?_
  rintro e w3 ⟨rfl, hbw3⟩
  have HBw3 := Lib.hid hbw3
  clear hbw3
  go_wp2_with fail
  refine (HA.out _).mono ?_
  rintro e w4 ⟨rfl, hbw4⟩
  have HBw4 := Lib.hid hbw4
  clear hbw4
  go_wp2_with fail
  refine (HB.out _).mono ?_
  rintro e w5 ⟨rfl, hbw5⟩
  have HBw5 := Lib.hid hbw5
  clear hbw5
  go_wp2_with fail
  refine (HC.out _).mono ?_
  rintro e w6 ⟨rfl, hbw6⟩
  have HBw6 := Lib.hid hbw6
  clear hbw6
  go_wp2_with fail
  refine (HD.out _).mono ?_
  rintro e w7 ⟨rfl, hbw7⟩
  have HBw7 := Lib.hid hbw7
  clear hbw7
  go_wp2_with fail
  refine (awake1 _).mono ?_
  rintro e w9 ⟨rfl, hbw9⟩
  have HBw9 := Lib.hid hbw9
  clear hbw9
  go_wp2_with fail
  go_ret
  exact ⟨rfl, bthen (bthen (bthen (bthen (bthen (bthen (bthen (HBw1.out) HBw2.out) HBw3.out) HBw4.out) HBw5.out) HBw6.out) HBw7.out) HBw9.out⟩
set_option maxRecDepth 100000 in
set_option maxHeartbeats 2000000 in
theorem scales_fff (a b c : Int) (ha : isB a = true) (hb : isB b = true) (hc : isB c = true) (hA : addOk b c = false) (hB : mulOk a b = false) (hC : mulOk a c = false) (w : World) :
    Calls Try.prog 10 #[.int .i64 a, .int .i64 b, .int .i64 c] w fun e w' => e = .returned (.bool true) ∧ Below w.heap.size w w' := by
  have H0 := Lib.hid (fun w => mul_to (mul_0 ha) (Int.mul_zero a) w)
  have H1 := Lib.hid (fun w => mul_to (mul_1 ha) (Int.mul_one a) w)
  have H2 := Lib.hid (fun w => mul_to (mul_m1 ha) (show a * (-1) = -a by omega) w)
  have HA := Lib.hid (fun w => add_no hA w)
  have HB := Lib.hid (fun w => mul_no hB w)
  have HC := Lib.hid (fun w => mul_no hC w)
  have HD := Lib.hid (fun w => mul_to (mul_0 ha) (Int.mul_zero a) w)
  obtain ⟨a1, a2⟩ := isB_iff.1 ha
  clear hA hB hC
  go_enter Try.func10, Try.ntmps10
  go_wp2_with fail
  refine (is_any _ _).mono ?_
  rintro e _ ⟨rfl, rfl⟩
  go_wp2_with fail
  refine (is_any _ _).mono ?_
  rintro e _ ⟨rfl, rfl⟩
  go_wp2_with fail
  refine (is_any _ _).mono ?_
  rintro e _ ⟨rfl, rfl⟩
  go_wp2_with fail
  refine (H0.out _).mono ?_
  rintro e w1 ⟨rfl, hbw1⟩
  have HBw1 := Lib.hid hbw1
  clear hbw1
  go_wp2_with fail
  refine (H1.out _).mono ?_
  rintro e w2 ⟨rfl, hbw2⟩
  have HBw2 := Lib.hid hbw2
  clear hbw2
  go_wp2_with fail
  refine (H2.out _).mono ?_
  rintro e w3 ⟨rfl, hbw3⟩
  have HBw3 := Lib.hid hbw3
  clear hbw3
  go_wp2_with fail
  refine (HA.out _).mono ?_
  rintro e w4 ⟨rfl, hbw4⟩
  have HBw4 := Lib.hid hbw4
  clear hbw4
  go_wp2_with fail
  refine (HB.out _).mono ?_
  rintro e w5 ⟨rfl, hbw5⟩
  have HBw5 := Lib.hid hbw5
  clear hbw5
  go_wp2_with fail
  refine (HC.out _).mono ?_
  rintro e w6 ⟨rfl, hbw6⟩
  have HBw6 := Lib.hid hbw6
  clear hbw6
  go_wp2_with fail
  refine (HD.out _).mono ?_
  rintro e w7 ⟨rfl, hbw7⟩
  have HBw7 := Lib.hid hbw7
  clear hbw7
  go_wp2_with fail
  refine (awake1 _).mono ?_
  rintro e w9 ⟨rfl, hbw9⟩
  have HBw9 := Lib.hid hbw9
  clear hbw9
  go_wp2_with fail
  go_ret
  exact ⟨rfl, bthen (bthen (bthen (bthen (bthen (bthen (bthen (HBw1.out) HBw2.out) HBw3.out) HBw4.out) HBw5.out) HBw6.out) HBw7.out) HBw9.out⟩
theorem numScales_walk (a : Int) (_ha : -9223372036854775808 ≤ a ∧ a ≤ 9223372036854775807) (b : Int) (_hb : -9223372036854775808 ≤ b ∧ b ≤ 9223372036854775807) (c : Int) (_hc : -9223372036854775808 ≤ c ∧ c ≤ 9223372036854775807) (w : World) :
    Calls Try.prog 10 #[.int .i64 a, .int .i64 b, .int .i64 c] w fun e w' => e = .returned (.bool true) ∧ Below w.heap.size w w' := by
  cases ha : isB a
  · exact scales_a a b c ha w
  cases hb : isB b
  · exact scales_b a b c ha hb w
  cases hc : isB c
  · exact scales_c a b c ha hb hc w
  cases hA : addOk b c <;> cases hB : mulOk a b <;> cases hC : mulOk a c <;> cases hD : mulOk a (b + c)
  · exact scales_fff a b c ha hb hc hA hB hC w
  · exact scales_fff a b c ha hb hc hA hB hC w
  · exact scales_fft a b c ha hb hc hA hB hC w
  · exact scales_fft a b c ha hb hc hA hB hC w
  · exact scales_ftf a b c ha hb hc hA hB hC w
  · exact scales_ftf a b c ha hb hc hA hB hC w
  · exact scales_ftt a b c ha hb hc hA hB hC w
  · exact scales_ftt a b c ha hb hc hA hB hC w
  · exact scales_tfff a b c ha hb hc hA hB hC hD w
  · exact scales_tfft a b c ha hb hc hA hB hC hD w
  · exact scales_tftf a b c ha hb hc hA hB hC hD w
  · exact scales_tftt a b c ha hb hc hA hB hC hD w
  · exact scales_ttff a b c ha hb hc hA hB hC hD w
  · exact scales_ttft a b c ha hb hc hA hB hC hD w
  · exact scales_tttf a b c ha hb hc hA hB hC hD w
  · exact scales_tttt a b c ha hb hc hA hB hC hD w
end Go.Proofs.Ytlpfdokaionkjaa
