/-
  The walk of VecGrows.
-/
import Derived.Test.YtlpfdokaionkjaaVecSumsWalk
import Derived.IntWalk
namespace Go.Proofs.Ytlpfdokaionkjaa
open Go.RowKit
attribute [local go_sem] rowCells rowAt_drewN get_ints getE_ints set_ints size_ints rowAt_alloc rowAt_drew setRow_alloc setRow_drewN setRow_drew setCell_alloc setCell_drewN splice_ints ext_ints0 extract_ints splice_all load_vec store_vec eql_vec neq_vec index_vec
attribute [local go_sem ↓] xload_vec xstore_vec xalloc_vec xeql_vec xneq_vec xindex_vec xbuild_vec0 xbuild_vec2
attribute [local go_sem] rowAt_setRow rowAt_setCell load_vec_later Later.cell Later.frozen
attribute [local go_sem] rn_true rn_false re_true re_false eqI_self

attribute [local go_sem] eqI_self
set_option maxRecDepth 100000 in
set_option maxHeartbeats 2000000 in
/-- Nothing grows. -/
theorem vecGrows_no (f : Nat → Int) (k n m : Int) (h : growE f k n ≠ 0) (w : World) :
    Calls Try.prog 5 #[.agg (ints 16 f), .int .i64 k, .int .i64 n, .int .i64 m] w fun e w' => e = .returned (.bool true) ∧ Below w.heap.size w w' := by
  have hG : growF f k n = fun _ => 0 := by
    cases hat : growAt k n with
    | false => exact growF_bad hat
    | true =>
      cases hok : addOk (f k.toNat) n with
      | false => exact growF_no hok
      | true => rw [growE_at hat, hok] at h; exact absurd rfl h
  have c1 := grow_any f k n
  rw [hG] at c1
  generalize growE f k n = E at h c1
  have C1 := Lib.hid c1
  clear c1 hG
  go_enter Try.func5, Try.ntmps5
  go_wp2_with fail
  refine (C1.out _).mono ?_
  rintro e w1 ⟨rfl, hb1⟩
  have HB1 := Lib.hid (((Below.refl _ _).alloc (Nat.le_refl _) _).trans (hb1.mono (by simp)))
  clear hb1
  go_wp2_with fail
  refine (awake2 _).mono ?_
  rintro e w2 ⟨rfl, hb2⟩
  have HB2 := Lib.hid (bthen (HB1.out.alloc HB1.out.size _) hb2)
  clear hb2
  go_wp2
  go_ret
  exact ⟨rfl, HB2.out⟩
set_option maxRecDepth 100000 in
set_option maxHeartbeats 4000000 in
theorem vecGrows_yes (f : Nat → Int) (k : Nat) (n m : Int) (hk : k < 16) (hn : 0 ≤ n) (hok : addOk (f k) n = true) (_hm : -9223372036854775808 ≤ m ∧ m ≤ 9223372036854775807) (w : World) :
    Calls Try.prog 5 #[.agg (ints 16 f), .int .i64 k, .int .i64 n, .int .i64 m] w fun e w' => e = .returned (.bool true) ∧ Below w.heap.size w w' := by
  have hat : growAt k n = true := growAt_iff.2 ⟨by omega, by omega, hn⟩
  have hE : growE f k n = 0 := by rw [growE_at hat, Int.toNat_natCast, hok]; rfl
  have hG := growF_to (f := f) hat (by rw [Int.toNat_natCast]; exact hok)
  have c1 := grow_any f k n
  rw [hE] at c1
  have hov := growF_over hE
  have hk1 : growF f k n k = f k + n := by rw [hG]; simp
  have hk2 : ∀ j, j ≠ k → growF f k n j = f j := fun j hj => by rw [hG]; simp [hj]
  have hjo : eqI 16 (joinV (growF f k n) f) (growF f k n) = true := hov
  clear hE
  have hadd := hok
  simp only [addOk, Bool.and_eq_true, isB_iff] at hadd
  generalize growF f k n = A at c1 hov hk1 hk2 hjo hG
  -- what the second growing does
  have hm : growE A k m = 0 → 0 ≤ m ∧ m ≤ 1099511627776 ∧ (isB (n + m) = true → growE f k (n + m) = 0 ∧ ints 16 (growF f k (n + m)) = ints 16 (growF A k m)) ∧ (isB (n + m) = false → growE f k (n + m) = 2) := by
    intro h
    have hat2 : growAt k m = true := by
      cases h2 : growAt k m with
      | true => rfl
      | false => rw [growE_bad h2] at h; exact absurd h (by decide)
    have h0 := (growAt_iff.1 hat2).2.2
    have hok2 : addOk (A k) m = true := by
      cases h2 : addOk (A k) m with
      | true => rfl
      | false => rw [growE_at hat2, Int.toNat_natCast, h2] at h; exact absurd h (by decide)
    have hadd2 := hok2
    simp only [addOk, Bool.and_eq_true, isB_iff] at hadd2
    rw [hk1] at hadd2
    have hat3 : growAt k (n + m) = true := growAt_iff.2 ⟨by omega, by omega, by omega⟩
    refine ⟨h0, by omega, fun hi => ?_, fun hi => ?_⟩
    · have hi' := isB_iff.1 hi
      have hok3 : addOk (f k) (n + m) = true := by
        simp only [addOk, Bool.and_eq_true, isB_iff]
        omega
      refine ⟨by rw [growE_at hat3, Int.toNat_natCast, hok3]; rfl, ?_⟩
      rw [growF_to hat3 (by rw [Int.toNat_natCast]; exact hok3), growF_to hat2 (by rw [Int.toNat_natCast]; exact hok2)]
      refine ints_congr fun i hi => ?_
      simp only [Int.toNat_natCast]
      by_cases hik : i = k
      · subst hik; rw [if_pos rfl, if_pos rfl, hk1]; omega
      · rw [if_neg hik, if_neg hik, hk2 i hik]
    · have hok3 : addOk (f k) (n + m) = false := by
        cases h2 : addOk (f k) (n + m) with
        | false => rfl
        | true => simp only [addOk, Bool.and_eq_true] at h2; rw [hi] at h2; exact absurd h2.1.2 (by decide)
      rw [growE_at hat3, Int.toNat_natCast, hok3]; rfl
  have c2 := grow_any A k m
  generalize growE A k m = E2 at hm c2
  generalize growF A k m = G2 at hm c2
  have C1 := Lib.hid c1
  have C2 := Lib.hid c2
  clear c1 c2
  have hkn : (k : Int) < 16 := by omega
  have HK2 := Lib.hid hk2
  have hnle : n ≤ 1099511627776 := by omega
  have hfk1 : -1099511627776 ≤ f k := by omega
  have hfk2 : f k ≤ 1099511627776 := by omega
  clear hG hat hk2 hok hadd
  -- the loop and what stands behind it
  by_cases h0 : E2 = 0
  · subst h0
    obtain ⟨hm0, hm1, hyes, hno⟩ := hm rfl
    clear hm
    cases hi : isB (n + m)
    · have hE3 := hno hi
      clear hyes hno
      have c3 := grow_any f k (n + m)
      rw [hE3] at c3
      have c4 : ∀ w, Calls Try.prog 19 #[.int .i64 (n + m)] w fun e w' => e = .returned (.bool false) ∧ w = w' := fun w => by rw [← hi]; exact is_any _ w
      generalize growF f k (n + m) = G3 at c3
      have C3 := Lib.hid c3
      have C4 := Lib.hid c4
      clear c3 c4 hE3
      go_enter Try.func5, Try.ntmps5
      go_wp2_with fail
      refine (C1.out _).mono ?_
      rintro e w1 ⟨rfl, hb1⟩
      have r1 : rowAt w1 w.heap.size = some (ints 16 f, 23) := rowKeep hb1 (by simp [rowAt_alloc] <;> omega)
      have HB1 := Lib.hid (((Below.refl _ _).alloc (Nat.le_refl _) _).trans (hb1.mono (by simp)))
      have n1 := Nat.ne_of_lt (rowAt_lt r1)
      clear hb1
      go_wp2_with fail
      refine (C2.out _).mono ?_
      rintro e w2 ⟨rfl, hb2⟩
      have r2 : rowAt w2 w.heap.size = some (ints 16 f, 23) := rowKeep hb2 (rowPast r1)
      have r3 : rowAt w2 w1.heap.size = some (ints 16 A, 23) := rowKeep hb2 (by simp [rowAt_alloc] <;> omega)
      have HB2 := Lib.hid (bthen (HB1.out.alloc HB1.out.size _) hb2)
      have l2 := rowAt_lt r2
      have l3 := rowAt_lt r3
      clear hb2 r1 n1
      have n2 := Nat.ne_of_lt l2
      have n3 := Nat.ne_of_lt l3
      go_wp2_with fail
      refine (C3.out _).mono ?_
      rintro e w3 ⟨rfl, hb3⟩
      have r4 : rowAt w3 w.heap.size = some (ints 16 f, 23) := rowKeep hb3 (rowPast r2)
      have r5 : rowAt w3 w1.heap.size = some (ints 16 A, 23) := rowKeep hb3 (rowPast r3)
      have r6 : rowAt w3 w2.heap.size = some (ints 16 G2, 23) := rowKeep hb3 (by simp [rowAt_alloc] <;> omega)
      have HB3 := Lib.hid (bthen (HB2.out.alloc HB2.out.size _) hb3)
      have n4 := Nat.ne_of_lt (rowAt_lt r4)
      have n5 := Nat.ne_of_lt (rowAt_lt r5)
      have n6 := Nat.ne_of_lt (rowAt_lt r6)
      clear hb3 r2 r3 l2 l3 n2 n3
      go_upto_region 7 with fail
      go_upto_region 9 with (go_at_call 19; refine (C4.out _).mono ?_; rintro e w' ⟨rfl, rfl⟩)
      generalize hW : w3.alloc (.cells (ints 16 G3) 23) = WW
      have r4 : rowAt WW w.heap.size = some (ints 16 f, 23) := hW ▸ rowPast r4
      have r5 : rowAt WW w1.heap.size = some (ints 16 A, 23) := hW ▸ rowPast r5
      have hB3 : Below w.heap.size w WW := hW ▸ (HB3.out.alloc HB3.out.size _)
      clear hW r6 n4 n5 n6 HB3
      have HB3 := Lib.hid hB3
      have l4 := rowAt_lt r4
      have l5 := rowAt_lt r5
      clear hB3
      have m1 : ∀ i, i < 16 → WW.cell? ⟨w.heap.size, i, none⟩ = some (.int .i64 (f i)) := fun i hi => by rw [cell_of_rowAt r4]; exact get_ints 16 f i hi
      have m2 : ∀ i, i < 16 → WW.cell? ⟨w1.heap.size, i, none⟩ = some (.int .i64 (A i)) := fun i hi => by rw [cell_of_rowAt r5]; exact get_ints 16 A i hi
      have M1 := Lib.hid m1
      have M2 := Lib.hid m2
      clear m1 m2
      go_wp2_with fail
      go_loopw [66] (fun i w' => ∃ j q : Nat, j ≤ 16 ∧ i = .int .i64 j ∧ w' = WW.drewN q) (fun i _ => 16 - (intOf i).toNat)
      case atStart => exact ⟨0, 0, by omega, rfl, rfl⟩
      case round =>
        obtain ⟨j, q, hj, rfl, rfl⟩ := hrel
        by_cases hlt : j < 16
        · have hlt' : (j : Int) < 16 := by omega
          have m1 := M1.out j hlt
          have m2 := M2.out j hlt
          by_cases hjk : j = k
          · subst hjk
            rw [hk1] at m2
            have hwr : IntKind.i64.wrap (f j + n) = f j + n := IntWalk.i64_in _ (by omega)
            go_wp2
            go_quiet (fail)
            go_wp2
            go_roundw
            case rel => exact ⟨j + 1, _, by omega, by go_num, rfl⟩
            case measure => simp [intOf]; omega
          · have hq3 : ((j : Int) == (k : Int)) = false := beq_eq_false_iff_ne.2 (by omega)
            have hq4 : decide ((j : Int) = (k : Int)) = false := decide_eq_false (by omega)
            have hq5 : ((j : Int) != (k : Int)) = true := bne_iff_ne.2 (by omega)
            rw [HK2.out j hjk] at m2
            go_wp2
            go_quiet (fail)
            go_wp2
            go_roundw
            case rel => exact ⟨j + 1, _, by omega, by go_num, rfl⟩
            case measure => simp [intOf]; omega
        · go_upto_region 15 with fail
          refine region_quiet (by kernel_rfl) (by kernel_rfl) ?_
          repeat (go_big_quiet_step ((first | (go_at_call 15; exact quiet_call (by simp) (join_any _ _ _)) | (go_at_call 16; exact quiet_call (by simp) (over_is (by assumption) _)) | (go_at_call 17; exact quiet_call (by simp) (awake2 _)))))
          refine wpQuiet_nil ?_
          intro w4 hb4
          have HB4 := Lib.hid (bthen (below_drewN HB3.out q) hb4)
          clear hb4
          go_wp2
          go_ret
          exact ⟨by simp [*], HB4.out⟩
    · obtain ⟨hE3, hG3⟩ := hyes hi
      clear hyes hno
      have c3 := grow_any f k (n + m)
      rw [hE3, hG3] at c3
      have C3 := Lib.hid c3
      clear c3 hE3 hG3
      go_enter Try.func5, Try.ntmps5
      go_wp2_with fail
      refine (C1.out _).mono ?_
      rintro e w1 ⟨rfl, hb1⟩
      have r1 : rowAt w1 w.heap.size = some (ints 16 f, 23) := rowKeep hb1 (by simp [rowAt_alloc] <;> omega)
      have HB1 := Lib.hid (((Below.refl _ _).alloc (Nat.le_refl _) _).trans (hb1.mono (by simp)))
      have n1 := Nat.ne_of_lt (rowAt_lt r1)
      clear hb1
      go_wp2_with fail
      refine (C2.out _).mono ?_
      rintro e w2 ⟨rfl, hb2⟩
      have r2 : rowAt w2 w.heap.size = some (ints 16 f, 23) := rowKeep hb2 (rowPast r1)
      have r3 : rowAt w2 w1.heap.size = some (ints 16 A, 23) := rowKeep hb2 (by simp [rowAt_alloc] <;> omega)
      have HB2 := Lib.hid (bthen (HB1.out.alloc HB1.out.size _) hb2)
      have l2 := rowAt_lt r2
      have l3 := rowAt_lt r3
      clear hb2 r1 n1
      have n2 := Nat.ne_of_lt l2
      have n3 := Nat.ne_of_lt l3
      go_wp2_with fail
      refine (C3.out _).mono ?_
      rintro e w3 ⟨rfl, hb3⟩
      have r4 : rowAt w3 w.heap.size = some (ints 16 f, 23) := rowKeep hb3 (rowPast r2)
      have r5 : rowAt w3 w1.heap.size = some (ints 16 A, 23) := rowKeep hb3 (rowPast r3)
      have r6 : rowAt w3 w2.heap.size = some (ints 16 G2, 23) := rowKeep hb3 (by simp [rowAt_alloc] <;> omega)
      have HB3 := Lib.hid (bthen (HB2.out.alloc HB2.out.size _) hb3)
      have n4 := Nat.ne_of_lt (rowAt_lt r4)
      have n5 := Nat.ne_of_lt (rowAt_lt r5)
      have n6 := Nat.ne_of_lt (rowAt_lt r6)
      clear hb3 r2 r3 l2 l3 n2 n3
      go_upto_region 9 with fail
      generalize hW : w3.alloc (.cells (ints 16 G2) 23) = WW
      have r4 : rowAt WW w.heap.size = some (ints 16 f, 23) := hW ▸ rowPast r4
      have r5 : rowAt WW w1.heap.size = some (ints 16 A, 23) := hW ▸ rowPast r5
      have hB3 : Below w.heap.size w WW := hW ▸ (HB3.out.alloc HB3.out.size _)
      clear hW r6 n4 n5 n6 HB3
      have HB3 := Lib.hid hB3
      have l4 := rowAt_lt r4
      have l5 := rowAt_lt r5
      clear hB3
      have m1 : ∀ i, i < 16 → WW.cell? ⟨w.heap.size, i, none⟩ = some (.int .i64 (f i)) := fun i hi => by rw [cell_of_rowAt r4]; exact get_ints 16 f i hi
      have m2 : ∀ i, i < 16 → WW.cell? ⟨w1.heap.size, i, none⟩ = some (.int .i64 (A i)) := fun i hi => by rw [cell_of_rowAt r5]; exact get_ints 16 A i hi
      have M1 := Lib.hid m1
      have M2 := Lib.hid m2
      clear m1 m2
      go_wp2_with fail
      go_loopw [66] (fun i w' => ∃ j q : Nat, j ≤ 16 ∧ i = .int .i64 j ∧ w' = WW.drewN q) (fun i _ => 16 - (intOf i).toNat)
      case atStart => exact ⟨0, 0, by omega, rfl, rfl⟩
      case round =>
        obtain ⟨j, q, hj, rfl, rfl⟩ := hrel
        by_cases hlt : j < 16
        · have hlt' : (j : Int) < 16 := by omega
          have m1 := M1.out j hlt
          have m2 := M2.out j hlt
          by_cases hjk : j = k
          · subst hjk
            rw [hk1] at m2
            have hwr : IntKind.i64.wrap (f j + n) = f j + n := IntWalk.i64_in _ (by omega)
            go_wp2
            go_quiet (fail)
            go_wp2
            go_roundw
            case rel => exact ⟨j + 1, _, by omega, by go_num, rfl⟩
            case measure => simp [intOf]; omega
          · have hq3 : ((j : Int) == (k : Int)) = false := beq_eq_false_iff_ne.2 (by omega)
            have hq4 : decide ((j : Int) = (k : Int)) = false := decide_eq_false (by omega)
            have hq5 : ((j : Int) != (k : Int)) = true := bne_iff_ne.2 (by omega)
            rw [HK2.out j hjk] at m2
            go_wp2
            go_quiet (fail)
            go_wp2
            go_roundw
            case rel => exact ⟨j + 1, _, by omega, by go_num, rfl⟩
            case measure => simp [intOf]; omega
        · go_upto_region 15 with fail
          refine region_quiet (by kernel_rfl) (by kernel_rfl) ?_
          repeat (go_big_quiet_step ((first | (go_at_call 15; exact quiet_call (by simp) (join_any _ _ _)) | (go_at_call 16; exact quiet_call (by simp) (over_is (by assumption) _)) | (go_at_call 17; exact quiet_call (by simp) (awake2 _)))))
          refine wpQuiet_nil ?_
          intro w4 hb4
          have HB4 := Lib.hid (bthen (below_drewN HB3.out q) hb4)
          clear hb4
          go_wp2
          go_ret
          exact ⟨by simp [*], HB4.out⟩
  · have hq1 : (E2 == 0) = false := beq_eq_false_iff_ne.2 h0
    have hq2 : decide (E2 = 0) = false := decide_eq_false h0
    clear hm
    go_enter Try.func5, Try.ntmps5
    go_wp2_with fail
    refine (C1.out _).mono ?_
    rintro e w1 ⟨rfl, hb1⟩
    have r1 : rowAt w1 w.heap.size = some (ints 16 f, 23) := rowKeep hb1 (by simp [rowAt_alloc] <;> omega)
    have HB1 := Lib.hid (((Below.refl _ _).alloc (Nat.le_refl _) _).trans (hb1.mono (by simp)))
    have n1 := Nat.ne_of_lt (rowAt_lt r1)
    clear hb1
    go_wp2_with fail
    refine (C2.out _).mono ?_
    rintro e w2 ⟨rfl, hb2⟩
    have r2 : rowAt w2 w.heap.size = some (ints 16 f, 23) := rowKeep hb2 (rowPast r1)
    have r3 : rowAt w2 w1.heap.size = some (ints 16 A, 23) := rowKeep hb2 (by simp [rowAt_alloc] <;> omega)
    have HB2 := Lib.hid (bthen (HB1.out.alloc HB1.out.size _) hb2)
    have l2 := rowAt_lt r2
    have l3 := rowAt_lt r3
    clear hb2 r1 n1
    go_upto_region 9 with fail
    generalize hW : w2.alloc (.cells (ints 16 G2) 23) = WW
    have r4 : rowAt WW w.heap.size = some (ints 16 f, 23) := hW ▸ rowPast r2
    have r5 : rowAt WW w1.heap.size = some (ints 16 A, 23) := hW ▸ rowPast r3
    have hB3 : Below w.heap.size w WW := hW ▸ (HB2.out.alloc HB2.out.size _)
    clear hW r2 r3 l2 l3
    have HB3 := Lib.hid hB3
    have l4 := rowAt_lt r4
    have l5 := rowAt_lt r5
    clear hB3
    have m1 : ∀ i, i < 16 → WW.cell? ⟨w.heap.size, i, none⟩ = some (.int .i64 (f i)) := fun i hi => by rw [cell_of_rowAt r4]; exact get_ints 16 f i hi
    have m2 : ∀ i, i < 16 → WW.cell? ⟨w1.heap.size, i, none⟩ = some (.int .i64 (A i)) := fun i hi => by rw [cell_of_rowAt r5]; exact get_ints 16 A i hi
    have M1 := Lib.hid m1
    have M2 := Lib.hid m2
    clear m1 m2
    go_wp2_with fail
    go_loopw [66] (fun i w' => ∃ j q : Nat, j ≤ 16 ∧ i = .int .i64 j ∧ w' = WW.drewN q) (fun i _ => 16 - (intOf i).toNat)
    case atStart => exact ⟨0, 0, by omega, rfl, rfl⟩
    case round =>
      obtain ⟨j, q, hj, rfl, rfl⟩ := hrel
      by_cases hlt : j < 16
      · have hlt' : (j : Int) < 16 := by omega
        have m1 := M1.out j hlt
        have m2 := M2.out j hlt
        by_cases hjk : j = k
        · subst hjk
          rw [hk1] at m2
          have hwr : IntKind.i64.wrap (f j + n) = f j + n := IntWalk.i64_in _ (by omega)
          go_wp2
          go_quiet (fail)
          go_wp2
          go_roundw
          case rel => exact ⟨j + 1, _, by omega, by go_num, rfl⟩
          case measure => simp [intOf]; omega
        · have hq3 : ((j : Int) == (k : Int)) = false := beq_eq_false_iff_ne.2 (by omega)
          have hq4 : decide ((j : Int) = (k : Int)) = false := decide_eq_false (by omega)
          have hq5 : ((j : Int) != (k : Int)) = true := bne_iff_ne.2 (by omega)
          rw [HK2.out j hjk] at m2
          go_wp2
          go_quiet (fail)
          go_wp2
          go_roundw
          case rel => exact ⟨j + 1, _, by omega, by go_num, rfl⟩
          case measure => simp [intOf]; omega
      · go_upto_region 15 with fail
        refine region_quiet (by kernel_rfl) (by kernel_rfl) ?_
        repeat (go_big_quiet_step ((first | (go_at_call 15; exact quiet_call (by simp) (join_any _ _ _)) | (go_at_call 16; exact quiet_call (by simp) (over_is (by assumption) _)) | (go_at_call 17; exact quiet_call (by simp) (awake2 _)))))
        refine wpQuiet_nil ?_
        intro w4 hb4
        have HB4 := Lib.hid (bthen (below_drewN HB3.out q) hb4)
        clear hb4
        go_wp2
        go_ret
        exact ⟨by simp [*], HB4.out⟩
theorem vecGrows_walk (f : Nat → Int) (_hf : ∀ i, i < 16 → -9223372036854775808 ≤ f i ∧ f i ≤ 9223372036854775807) (k : Int) (_hk : -9223372036854775808 ≤ k ∧ k ≤ 9223372036854775807) (n : Int) (_hn : -9223372036854775808 ≤ n ∧ n ≤ 9223372036854775807) (m : Int) (_hm : -9223372036854775808 ≤ m ∧ m ≤ 9223372036854775807) (w : World) :
    Calls Try.prog 5 #[.agg (ints 16 f), .int .i64 k, .int .i64 n, .int .i64 m] w fun e w' => e = .returned (.bool true) ∧ Below w.heap.size w w' := by
  by_cases h : growE f k n = 0
  · cases hat : growAt k n with
    | false => rw [growE_bad hat] at h; exact absurd h (by decide)
    | true =>
      cases hok : addOk (f k.toNat) n with
      | false => rw [growE_at hat, hok] at h; exact absurd h (by decide)
      | true =>
        obtain ⟨h0, h1, h2⟩ := growAt_iff.1 hat
        obtain ⟨k, rfl⟩ := Int.eq_ofNat_of_zero_le h0
        rw [Int.toNat_natCast] at hok
        exact vecGrows_yes f k n m (by omega) h2 hok _hm w
  · exact vecGrows_no f k n m h w
end Go.Proofs.Ytlpfdokaionkjaa
