/-
  Layer 2 (vec): Sum; the reference.
-/
import Derived.Test.YtifnjgedohdjhaaRRRVecJoin
namespace Go.Proofs.YtifnjgedohdjhaaRRR
open Go.RowKit
attribute [local go_sem] rowCells rowAt_drewN get_ints getE_ints set_ints size_ints rowAt_alloc rowAt_drew setRow_alloc setRow_drewN setRow_drew setCell_alloc setCell_drewN splice_ints ext_ints0 extract_ints splice_all load_vec store_vec eql_vec neq_vec index_vec
attribute [local go_sem ↓] xload_vec xstore_vec xalloc_vec xeql_vec xneq_vec xindex_vec xbuild_vec0
attribute [local go_sem] rowAt_setRow rowAt_setCell load_vec_later Later.cell Later.frozen
attribute [local go_sem] rn_true rn_false re_true re_false
/-- The cells as a list. -/
def lst (f : Nat → Int) : List Int := (List.range 16).map f
theorem lst_len (f : Nat → Int) : (lst f).length = 16 := rfl
theorem lst_get (f : Nat → Int) (i : Nat) (h : i < 16) : (lst f).getD i 0 = f i := by simp [lst, List.getD, h]
theorem isInts_lst {w : World} {g : Nat} {t : TypeId} {f : Nat → Int} (h : rowAt w g = some (ints 16 f, t)) : IsInts w (some ⟨g, 0, none⟩) (lst f) :=
  isInts_row h fun i hi => by
    rw [lst_len] at hi
    rw [Nat.zero_add, get_ints 16 f i hi, lst_get f i hi]
set_option maxHeartbeats 400000 in
theorem vsum_any (f : Nat → Int) (w : World) : Calls Try.prog 55 #[.agg (ints 16 f)] w fun e w' =>
    e = .returned (.tuple #[.int .i64 (sumN (lst f)), .int .i64 (sumE (lst f))]) ∧ Below w.heap.size w w' := by
  have c := sum_any (some ⟨w.heap.size, 0, none⟩) 16 (lst f) (w.alloc (.cells (ints 16 f) 23)) (isInts_lst (rowAt_alloc_at _ _ _ _ rfl)) (by rw [lst_len]; omega)
  rw [lst_len] at c
  have C := Lib.hid c
  clear c
  go_enter Try.func55, Try.ntmps55
  go_wp2_with fail
  refine (C.out).mono ?_
  rintro e w1 ⟨rfl, hb1⟩
  have HB := Lib.hid (((Below.refl _ _).alloc (Nat.le_refl _) _).trans (hb1.mono (by simp)))
  clear hb1 C
  go_wp2
  go_ret2
  exact ⟨rfl, HB.out⟩
set_option maxHeartbeats 400000 in
theorem rvsum_any (f : Nat → Int) (w : World) : Calls Try.prog 32 #[.agg (ints 16 f)] w fun e w' =>
    e = .returned (.tuple #[.int .i64 (sumN (lst f)), .int .i64 (sumE (lst f))]) ∧ Below w.heap.size w w' := by
  have c := rsum_any (some ⟨w.heap.size, 0, none⟩) 16 (lst f) (w.alloc (.cells (ints 16 f) 23)) (isInts_lst (rowAt_alloc_at _ _ _ _ rfl)) (by rw [lst_len]; omega)
  rw [lst_len] at c
  have C := Lib.hid c
  clear c
  go_enter Try.func32, Try.ntmps32
  go_wp2_with fail
  refine (C.out).mono ?_
  rintro e w1 ⟨rfl, rfl⟩
  clear C
  go_wp2
  go_ret2
  exact ⟨rfl, (Below.refl _ _).alloc (Nat.le_refl _) _⟩
set_option maxHeartbeats 1000000 in
theorem rgrow_any (f : Nat → Int) (k n : Int) (w : World) : Calls Try.prog 65 #[.agg (ints 16 f), .int .i64 k, .int .i64 n] w fun e w' =>
    e = .returned (.tuple #[.agg (ints 16 (growF f k n)), .int .i64 (growE f k n)]) ∧ Below w.heap.size w w' := by
  by_cases hbad : 0 ≤ k ∧ k < 16 ∧ 0 ≤ n
  · have hat := growAt_iff.2 hbad
    obtain ⟨h0, h1, h2⟩ := hbad
    obtain ⟨k, rfl⟩ := Int.eq_ofNat_of_zero_le h0
    have hk : k < 16 := by omega
    cases hok : addOk (f k) n
    · go_enter Try.func65, Try.ntmps65
      go_wp2_with (go_at_call 33; refine (radd_any _ _ _).mono ?_; rintro e w1 ⟨rfl, rfl⟩)
      refine ret_ct rfl rfl rfl rfl (by simp [go_sem]; rfl) ?_
      refine ⟨?_, ((Below.refl _ _).alloc (Nat.le_refl _) _).alloc (by simp) _⟩
      rw [growF_no hok, growE_at hat, Int.toNat_natCast, hok]
      rfl
    · go_enter Try.func65, Try.ntmps65
      go_wp2_with (go_at_call 33; refine (radd_any _ _ _).mono ?_; rintro e w1 ⟨rfl, rfl⟩)
      refine ret_ct rfl rfl rfl rfl (by simp [go_sem]; rfl) ?_
      refine ⟨?_, ((Below.refl _ _).alloc (Nat.le_refl _) _).alloc (by simp) _⟩
      rw [growF_to hat hok, growE_at hat, Int.toNat_natCast, hok]
      congr 5
      refine ints_congr fun i hi => ?_
      by_cases h : i = k <;> simp [h]
  · have hat := growAt_false hbad
    rw [growF_bad hat, growE_bad hat]
    by_cases h0 : 0 ≤ k
    · by_cases h1 : k ≤ 15
      · have h2 : n < 0 := by omega
        go_enter Try.func65, Try.ntmps65
        go_wp2
        refine ret_ct rfl rfl rfl rfl (by simp [go_sem]; rfl) ?_
        exact ⟨rfl, (((Below.refl _ _).alloc (Nat.le_refl _) _).alloc (by simp) _)⟩
      · go_enter Try.func65, Try.ntmps65
        go_wp2
        refine ret_ct rfl rfl rfl rfl (by simp [go_sem]; rfl) ?_
        exact ⟨rfl, (((Below.refl _ _).alloc (Nat.le_refl _) _).alloc (by simp) _)⟩
    · go_enter Try.func65, Try.ntmps65
      go_wp2
      refine ret_ct rfl rfl rfl rfl (by simp [go_sem]; rfl) ?_
      exact ⟨rfl, (((Below.refl _ _).alloc (Nat.le_refl _) _).alloc (by simp) _)⟩
set_option maxHeartbeats 1000000 in
theorem rright_any (f : Nat → Int) (w : World) : Calls Try.prog 62 #[.agg (ints 16 f)] w fun e w' => e = .returned (.bool (rightV f)) ∧ Below w.heap.size w w' := by
  go_enter Try.func62, Try.ntmps62
  go_wp2
  go_loop [3] (fun i => ∃ k : Nat, k ≤ 16 ∧ i = .int .i64 k ∧ ∀ j, j < k → 0 ≤ f j ∧ f j ≤ 1099511627776) (fun i => 16 - (intOf i).toNat)
  case atStart => exact ⟨0, by omega, rfl, fun j hj => by omega⟩
  case round =>
    obtain ⟨k, hk, rfl, hall⟩ := hrel
    have HA := Lib.hid hall
    clear hall
    by_cases hlt : k < 16
    · by_cases h0 : f k < 0
      · go_wp2
        go_ret
        exact ⟨by rw [rightV_false hlt (by omega)]; rfl, (Below.refl _ _).alloc (Nat.le_refl _) _⟩
      · by_cases h1 : f k ≤ 1099511627776
        · go_wp2
          go_round
          case rel =>
            refine ⟨k + 1, by omega, by go_num, fun j hj => ?_⟩
            by_cases hjk : j = k
            · rw [hjk]; omega
            · exact HA.out j (by omega)
          case measure => simp [intOf]; omega
        · go_wp2
          go_ret
          exact ⟨by rw [rightV_false hlt (by omega)]; rfl, (Below.refl _ _).alloc (Nat.le_refl _) _⟩
    · go_wp2
      go_ret
      exact ⟨by rw [rightV_iff.2 fun i hi => HA.out i (by omega)]; rfl, (Below.refl _ _).alloc (Nat.le_refl _) _⟩
set_option maxHeartbeats 1000000 in
theorem rjoin_any (f g : Nat → Int) (w : World) : Calls Try.prog 68 #[.agg (ints 16 f), .agg (ints 16 g)] w fun e w' => e = .returned (.agg (ints 16 (joinV f g))) ∧ Below w.heap.size w w' := by
  go_enter Try.func68, Try.ntmps68
  go_wp2
  go_loopw [6] (fun i w' => ∃ k n : Nat, k ≤ 16 ∧ i = .int .i64 k ∧ w' = ((((w.alloc (.cells (ints 16 f) 23)).alloc (.cells (ints 16 g) 23)).alloc (.cells (ints 16 fun _ => 0) 23)).alloc (.cells (ints 16 fun j => if j < k then joinV f g j else 0) 23)).drewN n) (fun i _ => 16 - (intOf i).toNat)
  case atStart => exact ⟨0, 0, by omega, rfl, rfl⟩
  case round =>
    obtain ⟨k, n, hk, rfl, rfl⟩ := hrel
    by_cases hlt : k < 16
    · have hlt' : (k : Int) < 16 := by omega
      by_cases h0 : f k < g k
      · go_wp2
        go_quiet (fail)
        go_wp2
        go_roundw
        case rel =>
          refine ⟨k + 1, n + nq, by omega, by go_num, ?_⟩
          rw [← show (ints 16 fun j => if j = k then g k else if j = k then f k else if j < k then joinV f g j else 0) = ints 16 fun j => if j < k + 1 then joinV f g j else 0 from by
            refine ints_congr fun i hi => ?_
            by_cases h1 : i = k
            · subst h1; simp [joinV, h0]
            · have : (i < k + 1) ↔ (i < k) := by omega
              simp [h1, this]]
        case measure => simp [intOf]; omega
      · go_wp2
        go_quiet (fail)
        go_wp2
        go_roundw
        case rel =>
          refine ⟨k + 1, n + nq, by omega, by go_num, ?_⟩
          rw [← show (ints 16 fun j => if j = k then f k else if j < k then joinV f g j else 0) = ints 16 fun j => if j < k + 1 then joinV f g j else 0 from by
            refine ints_congr fun i hi => ?_
            by_cases h1 : i = k
            · subst h1; simp [joinV]; omega
            · have : (i < k + 1) ↔ (i < k) := by omega
              simp [h1, this]]
        case measure => simp [intOf]; omega
    · go_wp2_with fail
      obtain rfl : k = 16 := by omega
      refine ret_c rfl rfl rfl (by simp [go_sem]; rfl) ?_
      refine ⟨?_, ?_⟩
      · congr 2
      · exact below_drewN (((((Below.refl _ _).alloc (Nat.le_refl _) _).alloc (by simp) _).alloc (by simp; omega) _).alloc (by simp; omega) _) _
end Go.Proofs.YtifnjgedohdjhaaRRR
