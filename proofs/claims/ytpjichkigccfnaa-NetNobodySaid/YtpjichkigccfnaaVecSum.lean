/-
  Layer 2 (vec): Sum; the reference.
-/
import Derived.Test.YtpjichkigccfnaaVecJoin
namespace Go.Proofs.Ytpjichkigccfnaa
set_option maxRecDepth 20000
open Go.RowKit
attribute [local go_sem] rowCells rowAt_drewN get_ints getE_ints set_ints size_ints rowAt_alloc rowAt_drew setRow_alloc setRow_drewN setRow_drew setCell_alloc setCell_drewN splice_ints ext_ints0 extract_ints splice_all load_vec store_vec eql_vec neq_vec index_vec
attribute [local go_sem ↓] xload_vec xstore_vec xalloc_vec xeql_vec xneq_vec xindex_vec xbuild_vec0
attribute [local go_sem] rowAt_setRow rowAt_setCell load_vec_later Later.cell Later.frozen
attribute [local go_sem] rn_true rn_false re_true re_false
/-- The cells as a list. -/
def lst (f : Nat → Int) : List Int := (List.range 16).map f
theorem lst_len (f : Nat → Int) : (lst f).length = 16 := rfl
theorem lst_get (f : Nat → Int) (i : Nat) (h : i < 16) : (lst f).getD i 0 = f i := by simp [lst, List.getD, h]
theorem isInts_lst {w : World} {g : Nat} {t : TypeId} {f : Nat → Int} (h : rowAt w g = some (ints 16 f, t)) : IsInts w (some ⟨g, 0, none⟩) (lst f) :=
  isInts_row h fun i hi => by
    rw [lst_len] at hi
    rw [Nat.zero_add, get_ints 16 f i hi, lst_get f i hi]
set_option maxHeartbeats 400000 in
theorem vsum_any (f : Nat → Int) (w : World) : Calls Try.prog 108 #[.agg (ints 16 f)] w fun e w' =>
    e = .returned (.tuple #[.int .i64 (sumN (lst f)), .int .i64 (sumE (lst f))]) ∧ Below w.heap.size w w' := by
  have c := sum_any (some ⟨w.heap.size, 0, none⟩) 16 (lst f) (w.alloc (.cells (ints 16 f) 40)) (isInts_lst (rowAt_alloc_at _ _ _ _ rfl)) (by rw [lst_len]; omega)
  rw [lst_len] at c
  have C := Lib.hid c
  clear c
  go_enter Try.func108, Try.ntmps108
  go_wp2_with fail
  refine (C.out).mono ?_
  rintro e w1 ⟨rfl, hb1⟩
  have HB := Lib.hid (((Below.refl _ _).alloc (Nat.le_refl _) _).trans (hb1.mono (by simp)))
  clear hb1 C
  go_wp2
  go_ret2
  exact ⟨rfl, HB.out⟩
set_option maxHeartbeats 400000 in
theorem rvsum_any (f : Nat → Int) (w : World) : Calls Try.prog 94 #[.agg (ints 16 f)] w fun e w' =>
    e = .returned (.tuple #[.int .i64 (sumN (lst f)), .int .i64 (sumE (lst f))]) ∧ Below w.heap.size w w' := by
  have c := rsum_any (some ⟨w.heap.size, 0, none⟩) 16 (lst f) (w.alloc (.cells (ints 16 f) 40)) (isInts_lst (rowAt_alloc_at _ _ _ _ rfl)) (by rw [lst_len]; omega)
  rw [lst_len] at c
  have C := Lib.hid c
  clear c
  go_enter Try.func94, Try.ntmps94
  go_wp2_with fail
  refine (C.out).mono ?_
  rintro e w1 ⟨rfl, rfl⟩
  clear C
  go_wp2
  go_ret2
  exact ⟨rfl, (Below.refl _ _).alloc (Nat.le_refl _) _⟩
set_option maxHeartbeats 1000000 in
theorem rright_any (f : Nat → Int) (w : World) : Calls Try.prog 104 #[.agg (ints 16 f)] w fun e w' => e = .returned (.bool (rightV f)) ∧ Below w.heap.size w w' := by
  go_enter Try.func104, Try.ntmps104
  go_wp2
  go_loop [3] (fun i => ∃ k : Nat, k ≤ 16 ∧ i = .int .i64 k ∧ ∀ j, j < k → 0 ≤ f j ∧ f j ≤ 1099511627776) (fun i => 16 - (intOf i).toNat)
  case atStart => exact ⟨0, by omega, rfl, fun j hj => by omega⟩
  case round =>
    obtain ⟨k, hk, rfl, hall⟩ := hrel
    have HA := Lib.hid hall
    clear hall
    by_cases hlt : k < 16
    · by_cases h0 : f k < 0
      · go_wp2
        go_ret
        exact ⟨by rw [rightV_false hlt (by omega)]; rfl, (Below.refl _ _).alloc (Nat.le_refl _) _⟩
      · by_cases h1 : f k ≤ 1099511627776
        · go_wp2
          go_round
          case rel =>
            refine ⟨k + 1, by omega, by go_num, fun j hj => ?_⟩
            by_cases hjk : j = k
            · rw [hjk]; omega
            · exact HA.out j (by omega)
          case measure => simp [intOf]; omega
        · go_wp2
          go_ret
          exact ⟨by rw [rightV_false hlt (by omega)]; rfl, (Below.refl _ _).alloc (Nat.le_refl _) _⟩
    · go_wp2
      go_ret
      exact ⟨by rw [rightV_iff.2 fun i hi => HA.out i (by omega)]; rfl, (Below.refl _ _).alloc (Nat.le_refl _) _⟩
end Go.Proofs.Ytpjichkigccfnaa
