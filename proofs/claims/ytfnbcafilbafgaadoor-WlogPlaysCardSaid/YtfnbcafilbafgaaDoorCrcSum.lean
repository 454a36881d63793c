/-
  Layer 9 (frame): the sum in both.
-/
import Derived.Test.YtfnbcafilbafgaaDoorCrc
import Derived.Test.YtfnbcafilbafgaaDoorBytes
import Derived.Test.YtfnbcafilbafgaaDoorTail
import Derived.Laws.BitsAllLaws
namespace Go.Proofs.YtfnbcafilbafgaaDoor
open Go.RowKit
set_option linter.unusedSimpArgs false
set_option linter.unusedVariables false
/-- The table of half bytes lies as it was laid. -/
def Nib (w : World) : Prop := ∀ i, i < 16 → w.cell? ⟨0, i, none⟩ = some (.int .u32 (nibs.getD i 0))
theorem Nib.below {w w' : World} (h : Nib w) (hb : Below w.heap.size w w') : Nib w' := fun i hi => (hb.cell (World.block_lt_of_cell? _ _ (h i hi))).trans (h i hi)
theorem nib_at {w : World} (h : Nib w) (j : Nat) (hj : j < 16) : w.cell? ⟨0, j, none⟩ = some (.int .u32 (nibN j : Nat)) := by
  rw [h j hj]
  have : ∀ j, j < 16 → nibs.getD j 0 = ((nibN j : Nat) : Int) := by decide
  rw [this j hj]
theorem and15 (n : Nat) (h : n < 4294967296) : bits .and .u32 (n : Int) 15 = ((n % 16 : Nat) : Int) := by
  rw [show (15 : Int) = ((15 : Nat) : Int) from rfl, u32_and_nat n 15 h (by decide)]
  exact congrArg _ (Nat.and_two_pow_sub_one_eq_mod n 4)
set_option maxHeartbeats 2000000 in
theorem fsum_any (A : Option Addr) (l : List UInt8) (c : Nat) (w : World) (hN : Nib w) (hl : IsBy w A l) (hlen : l.length ≤ 70368744177664) :
    Calls Tryd.prog 42 #[.slice A l.length c] w fun e w' => e = .returned (.int .u32 (crc l : Nat)) ∧ w = w' := by
  have HN := Lib.hid hN
  have HL := Lib.hid hl
  clear hN hl
  go_enter Tryd.func42, Tryd.ntmps42
  go_wp2_with fail
  go_loopw [3, 8] (fun v i w' => ∃ k : Nat, k ≤ l.length ∧ v = .int .u32 (crcS 4294967295 (l.take k) : Nat) ∧ i = .int .i64 k ∧ w = w') (fun _ i _ => l.length - (intOf i).toNat)
  case atStart => exact ⟨0, Nat.zero_le _, rfl, rfl, rfl⟩
  case round =>
    obtain ⟨k, hk, rfl, rfl, rfl⟩ := hrel
    by_cases hlt : k < l.length
    · obtain ⟨b, o, rfl, hc⟩ := HL.out k hlt
      have hs := crcS_take 4294967295 l k hlt
      have hn := crcS_lt (l.take k) 4294967295 (by decide)
      rw [byteS_nibs] at hs
      generalize crcS 4294967295 (l.take k) = n at *
      generalize l.getD k 0 = x at *
      have hx := u8_lt x
      unfold bc at hc
      have e1 : bits .xor .u32 (n : Int) (x.toNat : Int) = ((n ^^^ x.toNat : Nat) : Int) := u32_xor_nat n _ hn (by omega)
      have hm : n ^^^ x.toNat < 4294967296 := Nat.xor_lt_two_pow (n := 32) hn (by omega)
      generalize n ^^^ x.toNat = m at *
      have e2 := and15 m hm
      have hj : m % 16 < 16 := Nat.mod_lt _ (by decide)
      have c1 := nib_at HN.out (m % 16) hj
      have e3 : bits .xor .u32 (nibN (m % 16) : Int) ((m : Int) / 16) = ((nibN (m % 16) ^^^ m / 16 : Nat) : Int) := u32_xor_nat _ _ (nibN_lt _) (Nat.lt_of_le_of_lt (Nat.div_le_self _ _) hm)
      have hm1 : nibN (m % 16) ^^^ m / 16 < 4294967296 := Nat.xor_lt_two_pow (n := 32) (nibN_lt _) (Nat.lt_of_le_of_lt (Nat.div_le_self _ _) hm)
      generalize nibN (m % 16) ^^^ m / 16 = m1 at *
      generalize nibN (m % 16) = q at *
      generalize m % 16 = j at *
      go_upto_region 7 with fail
      have e4 := and15 m1 hm1
      have hj1 : m1 % 16 < 16 := Nat.mod_lt _ (by decide)
      have c2 := nib_at HN.out (m1 % 16) hj1
      have e5 : bits .xor .u32 (nibN (m1 % 16) : Int) ((m1 : Int) / 16) = ((nibN (m1 % 16) ^^^ m1 / 16 : Nat) : Int) := u32_xor_nat _ _ (nibN_lt _) (Nat.lt_of_le_of_lt (Nat.div_le_self _ _) hm1)
      generalize nibN (m1 % 16) ^^^ m1 / 16 = m2 at *
      generalize nibN (m1 % 16) = q1 at *
      generalize m1 % 16 = j1 at *
      have HS := Lib.hid hs
      clear hs c1 e1 e2 e3
      go_wp2_with fail
      go_roundw
      case rel => exact ⟨k + 1, by omega, by rw [HS.out], by go_num, trivial⟩
      case measure => simp [intOf]; omega
    · obtain rfl : k = l.length := by omega
      have hn := crcS_lt l 4294967295 (by decide)
      have e1 : bits .xor .u32 IntKind.u32.max (crcS 4294967295 l : Int) = ((crcS 4294967295 l ^^^ 4294967295 : Nat) : Int) := by rw [Nat.xor_comm]; exact u32_xor_nat 4294967295 _ (by decide) hn
      rw [List.take_length]
      have HC : Hid (crc l = crcS 4294967295 l ^^^ 4294967295) := Lib.hid rfl
      generalize crcS 4294967295 l ^^^ 4294967295 = r at *
      generalize crcS 4294967295 l = n at *
      go_wp2_with fail
      go_ret
      refine ⟨?_, rfl⟩
      rw [HC.out]; rfl
def bitN : Nat → Nat → Nat
  | 0, n => n
  | k + 1, n => bitS (bitN k n)
theorem bitN_lt {n : Nat} (h : n < 4294967296) : ∀ k, bitN k n < 4294967296
  | 0 => h
  | k + 1 => bitS_lt (bitN_lt h k)
set_option maxHeartbeats 2000000 in
theorem rsum_any (A : Option Addr) (l : List UInt8) (c : Nat) (w : World) (hl : IsBy w A l) (hlen : l.length ≤ 70368744177664) :
    Calls Tryd.prog 29 #[.slice A l.length c] w fun e w' => e = .returned (.int .u32 (crc l : Nat)) ∧ w = w' := by
  have HL := Lib.hid hl
  clear hl
  go_enter Tryd.func29, Tryd.ntmps29
  go_wp2_with fail
  go_loopw [3, 4] (fun v i w' => ∃ k : Nat, k ≤ l.length ∧ v = .int .u32 (crcS 4294967295 (l.take k) : Nat) ∧ i = .int .i64 k ∧ w = w') (fun _ i _ => l.length - (intOf i).toNat)
  case atStart => exact ⟨0, Nat.zero_le _, rfl, rfl, rfl⟩
  case round =>
    obtain ⟨k, hk, rfl, rfl, rfl⟩ := hrel
    by_cases hlt : k < l.length
    · obtain ⟨b, o, rfl, hc⟩ := HL.out k hlt
      have hs := crcS_take 4294967295 l k hlt
      have hn := crcS_lt (l.take k) 4294967295 (by decide)
      generalize crcS 4294967295 (l.take k) = n at *
      generalize l.getD k 0 = x at *
      have hx := u8_lt x
      unfold bc at hc
      have e1 : bits .xor .u32 (n : Int) (x.toNat : Int) = ((n ^^^ x.toNat : Nat) : Int) := u32_xor_nat n _ hn (by omega)
      have hm : n ^^^ x.toNat < 4294967296 := Nat.xor_lt_two_pow (n := 32) hn (by omega)
      have hs2 : crcS 4294967295 (l.take (k + 1)) = bitN 8 (n ^^^ x.toNat) := hs
      generalize n ^^^ x.toNat = m at *
      have HS := Lib.hid hs2
      clear hs hs2
      go_wp2_with fail
      go_loopw [3, 5] (fun v i w' => ∃ j : Nat, j ≤ 8 ∧ v = .int .u32 (bitN j m : Nat) ∧ i = .int .i64 j ∧ w = w') (fun _ i _ => 8 - (intOf i).toNat)
      case atStart => exact ⟨0, Nat.zero_le _, rfl, rfl, rfl⟩
      case round =>
        obtain ⟨j, hj, rfl, rfl, rfl⟩ := hrel
        by_cases hj8 : j < 8
        · have hp := bitN_lt hm j
          have HB : Hid (bitN (j + 1) m = bitS (bitN j m)) := Lib.hid rfl
          generalize bitN j m = p at *
          have e2 : bits .xor .u32 ((p : Int) / 2) 3988292384 = ((p / 2 ^^^ 3988292384 : Nat) : Int) := u32_xor_nat (p / 2) 3988292384 (by omega) (by decide)
          by_cases ho : p % 2 = 1
          · have ho' : (p : Int) % 2 = 1 := by omega
            have hb : bitS p = p / 2 ^^^ 3988292384 := by unfold bitS; rw [if_pos ho]
            have HB2 := Lib.hid hb
            clear hb
            generalize p / 2 ^^^ 3988292384 = q at *
            go_wp2_with fail
            go_roundw
            case rel => exact ⟨j + 1, by omega, by rw [HB.out, HB2.out], by go_num, trivial⟩
            case measure => simp [intOf]; omega
          · have ho' : (p : Int) % 2 = 0 := by omega
            have hb : bitS p = p / 2 := by unfold bitS; rw [if_neg ho, Nat.xor_zero]
            have HB2 := Lib.hid hb
            clear hb
            go_wp2_with fail
            go_roundw
            case rel => exact ⟨j + 1, by omega, by rw [HB.out, HB2.out]; rfl, by go_num, trivial⟩
            case measure => simp [intOf]; omega
        · obtain rfl : j = 8 := by omega
          go_wp2_with fail
          go_roundw
          case rel => exact ⟨k + 1, by omega, by rw [HS.out], by go_num, trivial⟩
          case measure => simp [intOf]; omega
    · obtain rfl : k = l.length := by omega
      have hn := crcS_lt l 4294967295 (by decide)
      have e1 : bits .xor .u32 (crcS 4294967295 l : Int) 4294967295 = ((crcS 4294967295 l ^^^ 4294967295 : Nat) : Int) := u32_xor_nat _ 4294967295 hn (by decide)
      rw [List.take_length]
      have HC : Hid (crc l = crcS 4294967295 l ^^^ 4294967295) := Lib.hid rfl
      generalize crcS 4294967295 l ^^^ 4294967295 = r at *
      generalize crcS 4294967295 l = n at *
      go_wp2_with fail
      go_ret
      refine ⟨?_, rfl⟩
      rw [HC.out]; rfl
end Go.Proofs.YtfnbcafilbafgaaDoor
