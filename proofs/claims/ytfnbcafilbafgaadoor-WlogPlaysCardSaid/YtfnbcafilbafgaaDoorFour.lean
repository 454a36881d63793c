/-
  Layer 9 (frame): four bytes for a number, and back.
-/
import Derived.Test.YtfnbcafilbafgaaDoorCrcSum
import Derived.Test.YtfnbcafilbafgaaDoorDisk
import Derived.Test.YtfnbcafilbafgaaDoorHeld
namespace Go.Proofs.YtfnbcafilbafgaaDoor
open Go.RowKit
set_option linter.unusedSimpArgs false
set_option linter.unusedVariables false
attribute [local go_sem] Later.cell
/-- A number's four bytes. -/
def fourL (n : Nat) : List UInt8 := [UInt8.ofNat n, UInt8.ofNat (n / 256), UInt8.ofNat (n / 65536), UInt8.ofNat (n / 16777216)]
/-- The number of four bytes. -/
def numL (l : List UInt8) : Nat := (l.getD 0 0).toNat + (l.getD 1 0).toNat * 256 + (l.getD 2 0).toNat * 65536 + (l.getD 3 0).toNat * 16777216
theorem numL_four (n : Nat) (h : n < 4294967296) (t : List UInt8) : numL (fourL n ++ t) = n := by
  simp [numL, fourL]
  omega
theorem numL_lt (l : List UInt8) : numL l < 4294967296 := by
  unfold numL
  have h0 := u8_lt (l.getD 0 0)
  have h1 := u8_lt (l.getD 1 0)
  have h2 := u8_lt (l.getD 2 0)
  have h3 := u8_lt (l.getD 3 0)
  omega
theorem fourL_len (n : Nat) : (fourL n).length = 4 := rfl
theorem bc_ofNat (n : Nat) (z : Int) (h : z = ((n % 256 : Nat) : Int)) : Value.int .u8 z = bc (UInt8.ofNat n) := by
  subst h
  simp [bc]
set_option maxHeartbeats 1000000 in
theorem ffour_any (n : Nat) (hn : n < 4294967296) (w : World) :
    Calls Tryd.prog 44 #[.int .u32 n] w fun e w' => ∃ g, e = .returned (.slice (some ⟨g, 0, none⟩) 4 4) ∧ rowAt w' g = some (((fourL n).map bc).toArray, 5) ∧ w.heap.size ≤ g ∧ Below w.heap.size w w' := by
  go_enter Tryd.func44, Tryd.ntmps44
  go_wp2_with fail
  go_ret
  refine ⟨w.heap.size, rfl, ?_, Nat.le_refl _, (Below.refl _ _).alloc (Nat.le_refl _) _⟩
  rw [rowAt_alloc_at _ _ _ _ rfl]
  have e0 : Value.int .u8 ((n : Int) % 256) = bc (UInt8.ofNat n) := bc_ofNat n _ (by omega)
  have e1 : Value.int .u8 ((n : Int) / 256 % 256) = bc (UInt8.ofNat (n / 256)) := bc_ofNat _ _ (by omega)
  have e2 : Value.int .u8 ((n : Int) / 65536 % 256) = bc (UInt8.ofNat (n / 65536)) := bc_ofNat _ _ (by omega)
  have e3 : Value.int .u8 ((n : Int) / 16777216) = bc (UInt8.ofNat (n / 16777216)) := bc_ofNat _ _ (by omega)
  rw [e0, e1, e2, e3]
  rfl
theorem or_add (a b k : Nat) (ha : a < 2 ^ k) (h : a + b * 2 ^ k < 4294967296) : bits .or .u32 (a : Int) ((b * 2 ^ k : Nat) : Int) = ((a + b * 2 ^ k : Nat) : Int) := by
  rw [u32_or_nat a _ (by omega) (by omega)]
  have h1 := Nat.two_pow_add_eq_or_of_lt ha b
  rw [Nat.mul_comm] at h1
  rw [Nat.or_comm, ← h1, Nat.add_comm]
theorem or_four (x0 x1 x2 x3 : UInt8) : bits BinOp.or IntKind.u32 (bits BinOp.or IntKind.u32 (bits BinOp.or IntKind.u32 ((x0.toNat : Int) % 4294967296) ((x1.toNat : Int) % 4294967296 * 256 % 4294967296)) ((x2.toNat : Int) % 4294967296 * 65536 % 4294967296)) ((x3.toNat : Int) % 4294967296 * 16777216 % 4294967296)
    = ((x0.toNat + x1.toNat * 256 + x2.toNat * 65536 + x3.toNat * 16777216 : Nat) : Int) := by
  have y0 := u8_lt x0
  have y1 := u8_lt x1
  have y2 := u8_lt x2
  have y3 := u8_lt x3
  rw [show (x0.toNat : Int) % 4294967296 = ((x0.toNat : Nat) : Int) by omega, show (x1.toNat : Int) % 4294967296 * 256 % 4294967296 = ((x1.toNat * 2 ^ 8 : Nat) : Int) by omega,
    show (x2.toNat : Int) % 4294967296 * 65536 % 4294967296 = ((x2.toNat * 2 ^ 16 : Nat) : Int) by omega, show (x3.toNat : Int) % 4294967296 * 16777216 % 4294967296 = ((x3.toNat * 2 ^ 24 : Nat) : Int) by omega]
  rw [or_add _ _ 8 (by omega) (by omega), or_add _ _ 16 (by omega) (by omega), or_add _ _ 24 (by omega) (by omega)]
set_option maxHeartbeats 1000000 in
theorem fnumber_any (A : Option Addr) (l : List UInt8) (c : Nat) (w : World) (hl : IsBy w A l) (h4 : 4 ≤ l.length) :
    Calls Tryd.prog 41 #[.slice A l.length c] w fun e w' => e = .returned (.int .u32 (numL l : Nat)) ∧ Below w.heap.size w w' := by
  obtain ⟨b, o, rfl, c0⟩ := hl 0 (by omega)
  obtain ⟨b1, o1, e1, c1⟩ := hl 1 (by omega)
  obtain ⟨b2, o2, e2, c2⟩ := hl 2 (by omega)
  obtain ⟨b3, o3, e3, c3⟩ := hl 3 (by omega)
  injection e1 with e1; injection e1 with e1a e1b; subst e1a e1b
  injection e2 with e2; injection e2 with e2a e2b; subst e2a e2b
  injection e3 with e3; injection e3 with e3a e3b; subst e3a e3b
  have d0 : decide (l.length ≤ 0) = false := decide_eq_false (by omega)
  have d1 : decide (l.length ≤ 1) = false := decide_eq_false (by omega)
  have d2 : decide (l.length ≤ 2) = false := decide_eq_false (by omega)
  have d3 : decide (l.length ≤ 3) = false := decide_eq_false (by omega)
  have HV : Hid (numL l = (l.getD 0 0).toNat + (l.getD 1 0).toNat * 256 + (l.getD 2 0).toNat * 65536 + (l.getD 3 0).toNat * 16777216) := Lib.hid rfl
  generalize l.getD 0 0 = x0 at *
  generalize l.getD 1 0 = x1 at *
  generalize l.getD 2 0 = x2 at *
  generalize l.getD 3 0 = x3 at *
  unfold bc at c0 c1 c2 c3
  rw [Nat.add_zero] at c0
  have hbw : b < w.heap.size := World.block_lt_of_cell? _ _ c0
  clear hl
  go_enter Tryd.func41, Tryd.ntmps41
  go_upto_region 1 with fail
  refine region_quiet (by kernel_rfl) (by kernel_rfl) ?_
  repeat (go_big_quiet_step (fail))
  refine wpQuiet_nil ?_
  intro w4 hb4
  have HB4 := Lib.hid hb4
  clear hb4
  rw [or_four x0 x1 x2 x3]
  rw [← HV.out]
  go_wp2_with fail
  go_ret
  exact ⟨rfl, HB4.out⟩
set_option maxHeartbeats 1000000 in
theorem rnumber_any (A : Option Addr) (l : List UInt8) (c : Nat) (w : World) (hl : IsBy w A l) (h4 : 4 ≤ l.length) :
    Calls Tryd.prog 28 #[.slice A l.length c] w fun e w' => e = .returned (.int .i64 (numL l : Nat)) ∧ Below w.heap.size w w' := by
  obtain ⟨b, o, rfl, c0⟩ := hl 0 (by omega)
  obtain ⟨b1, o1, e1, c1⟩ := hl 1 (by omega)
  obtain ⟨b2, o2, e2, c2⟩ := hl 2 (by omega)
  obtain ⟨b3, o3, e3, c3⟩ := hl 3 (by omega)
  injection e1 with e1; injection e1 with e1a e1b; subst e1a e1b
  injection e2 with e2; injection e2 with e2a e2b; subst e2a e2b
  injection e3 with e3; injection e3 with e3a e3b; subst e3a e3b
  have d0 : decide (l.length ≤ 0) = false := decide_eq_false (by omega)
  have d1 : decide (l.length ≤ 1) = false := decide_eq_false (by omega)
  have d2 : decide (l.length ≤ 2) = false := decide_eq_false (by omega)
  have d3 : decide (l.length ≤ 3) = false := decide_eq_false (by omega)
  have HV : Hid (numL l = (l.getD 0 0).toNat + (l.getD 1 0).toNat * 256 + (l.getD 2 0).toNat * 65536 + (l.getD 3 0).toNat * 16777216) := Lib.hid rfl
  generalize l.getD 0 0 = x0 at *
  generalize l.getD 1 0 = x1 at *
  generalize l.getD 2 0 = x2 at *
  generalize l.getD 3 0 = x3 at *
  have y0 := u8_lt x0
  have y1 := u8_lt x1
  have y2 := u8_lt x2
  have y3 := u8_lt x3
  unfold bc at c0 c1 c2 c3
  rw [Nat.add_zero] at c0
  have hbw : b < w.heap.size := World.block_lt_of_cell? _ _ c0
  clear hl
  go_enter Tryd.func28, Tryd.ntmps28
  go_upto_region 1 with fail
  refine region_quiet (by kernel_rfl) (by kernel_rfl) ?_
  repeat (go_big_quiet_step (fail))
  refine wpQuiet_nil ?_
  intro w4 hb4
  have HB4 := Lib.hid hb4
  clear hb4
  go_wp2_with fail
  go_ret
  refine ⟨?_, HB4.out⟩
  rw [HV.out]
  exact congrArg (fun z => Ending.returned (.int .i64 z)) (by omega)
theorem fourL_take {n k : Nat} (h : k < 4) : (fourL n).take (k + 1) = (fourL n).take k ++ [UInt8.ofNat (n / 256 ^ k)] := by
  rcases k with _ | _ | _ | _ | k
  · simp [fourL]
  · simp [fourL]
  · simp [fourL]
  · simp [fourL]
  · omega
set_option maxHeartbeats 1000000 in
theorem rfour_any (n : Nat) (hn : n < 4294967296) (w : World) :
    Calls Tryd.prog 40 #[.int .u32 n] w fun e w' => ∃ v, e = .returned v ∧ OwnBy w' w.heap.size v (fourL n) ∧ Below w.heap.size w w' := by
  go_enter Tryd.func40, Tryd.ntmps40
  go_wp2_with fail
  go_loopw [0, 3, 4] (fun m v i w' => ∃ k : Nat, k ≤ 4 ∧ m = .int .u32 (n / 256 ^ k : Nat) ∧ i = .int .i64 k ∧ OwnBy w' w.heap.size v ((fourL n).take k) ∧ Below w.heap.size w w') (fun _ _ i _ => 4 - (intOf i).toNat)
  case atStart => exact ⟨0, Nat.zero_le _, by simp, rfl, OwnBy.nil _ _, Below.refl _ _⟩
  case round =>
    rename World => wr
    obtain ⟨k, hk, rfl, rfl, hown, hb⟩ := hrel
    have HO := Lib.hid hown
    have HB := Lib.hid hb
    clear hown hb
    by_cases hlt : k < 4
    · have HT := Lib.hid (fourL_take (n := n) hlt)
      have hp : n / 256 ^ (k + 1) = n / 256 ^ k / 256 := by rw [Nat.pow_succ, Nat.div_div_eq_div_mul]
      have HP := Lib.hid hp
      have hmn : n / 256 ^ k < 4294967296 := Nat.lt_of_le_of_lt (Nat.div_le_self _ _) hn
      generalize n / 256 ^ k = m at *
      have hlen : ((fourL n).take k).length ≤ 4 := by rw [List.length_take, fourL_len]; omega
      clear hp
      go_wp2_with (at_builtin; refine wl_append_byte rfl _ _ rfl w.heap.size _ _ (UInt8.ofNat m) ?c0 HO.out rfl rfl rfl ?c3 HB.out.size ?_)
      case c0 => simp
      case c3 => omega
      intro v' w3 hown hb
      have HO3 := Lib.hid hown
      have HB3 := Lib.hid (HB.out.trans hb)
      clear hown hb HO HB
      go_wp2_with fail
      go_roundw
      case rel => exact ⟨k + 1, by omega, by rw [HP.out]; rfl, by go_num, by rw [HT.out]; exact HO3.out, HB3.out⟩
      case measure => simp [intOf]; omega
    · obtain rfl : k = 4 := by omega
      go_wp2_with fail
      go_ret
      exact ⟨_, rfl, HO.out, HB.out⟩
end Go.Proofs.YtfnbcafilbafgaaDoor
