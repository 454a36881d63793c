/-
  Layer 3 (rights): Free; the reference's.
-/
import Derived.Test.YtifnjgedohdjhaaRRRFree
namespace Go.Proofs.YtifnjgedohdjhaaRRR
open Go.RowKit
attribute [local go_sem] rowCells rowAt_drewN get_ints getE_ints set_ints size_ints rowAt_alloc rowAt_drew setRow_alloc setRow_drewN setRow_drew setCell_alloc setCell_drewN splice_upd splice_all load_vec_cut load_vecs_cut load_rights_cut store_vec store_rights eql_vec neq_vec index_vec eql_rights neq_rights index_vecs cut_ints sub_zero
attribute [local go_sem ↓] xload_vec xstore_vec xalloc_vec xeql_vec xneq_vec xindex_vec xbuild_vec0 xload_rights xstore_rights xalloc_rights xeql_rights xneq_rights xbuild_rights0 xload_vecs xindex_vecs
attribute [local go_sem] rowAt_setRow rowAt_setCell load_vec_cut_later load_rights_later Later.cell Later.frozen
attribute [local go_sem] rn_true rn_false re_true re_false eqI_self

/-- What i moved to j. -/
def mv (r : Nat → Int) (i j : Nat) : Int := r (32 + i * 16 + j)
def inL (n : Nat) (r : Nat → Int) (k : Nat) : List Int := r k :: (List.range n).map fun j => mv r j k
theorem inL_succ (n : Nat) (r : Nat → Int) (k : Nat) : inL (n + 1) r k = inL n r k ++ [mv r n k] := by simp [inL, List.range_succ]
theorem inL_len (n : Nat) (r : Nat → Int) (k : Nat) : (inL n r k).length = n + 1 := by simp [inL]
theorem lessL_len (n : Nat) (f : Nat → Int) : (lessL n f).length = n := by simp [lessL]
/-- All that is summed. -/
def freeL (r : Nat → Int) (k : Nat) : List Int := (inL 16 r k ++ [ng (r (16 + k))]) ++ lessL 16 (mv r k)
def freeN (r : Nat → Int) (k : Int) : Int := if isK k then sumN (freeL r k.toNat) else 0
def freeE (r : Nat → Int) (k : Int) : Int := if isK k then sumE (freeL r k.toNat) else 1
theorem freeN_no {r : Nat → Int} {k : Int} (h : isK k = false) : freeN r k = 0 := by simp [freeN, h]
theorem freeE_no {r : Nat → Int} {k : Int} (h : isK k = false) : freeE r k = 1 := by simp [freeE, h]
theorem freeN_is {r : Nat → Int} {k : Nat} (h : isK (k : Int) = true) : freeN r k = sumN (freeL r k) := by simp [freeN, h]
theorem freeE_is {r : Nat → Int} {k : Nat} (h : isK (k : Int) = true) : freeE r k = sumE (freeL r k) := by simp [freeE, h]
/-- The own slice of one int. -/
theorem own_one (w : World) (x : Int) : OwnI (w.alloc (.cells #[.int .i64 x] 3)) w.heap.size (.slice (some ⟨w.heap.size, 0, none⟩) 1 1) [x] := OwnI.row (xs := [x]) (rowAt_alloc_at _ _ _ _ rfl) (by simp)
set_option maxHeartbeats 2000000 in
theorem free_any (r : Nat → Int) (k : Int) (w : World) : Calls Try.prog 30 #[.agg (ints 288 r), .int .i64 k] w fun e w' =>
    e = .returned (.tuple #[.int .i64 (freeN r k), .int .i64 (freeE r k)]) ∧ Below w.heap.size w w' := by
  cases hK : isK k
  · rw [freeN_no hK, freeE_no hK]
    go_enter Try.func30, Try.ntmps30
    go_wp2_with (go_at_call 60; refine (isk_any _ _).mono ?_; rintro e w' ⟨rfl, rfl⟩)
    go_ret2
    exact ⟨rfl, (Below.refl _ _).alloc (Nat.le_refl _) _⟩
  · obtain ⟨h0, h1⟩ := isK_iff.1 hK
    obtain ⟨k, rfl⟩ := Int.eq_ofNat_of_zero_le h0
    rw [freeN_is hK, freeE_is hK]
    have hk : k < 16 := by omega
    have hk288 : k < 288 := by omega
    go_enter Try.func30, Try.ntmps30
    go_wp2_with (go_at_call 60; refine (isk_any _ _).mono ?_; rintro e w' ⟨rfl, rfl⟩)
    go_loopw [6, 19] (fun v i w' => ∃ j : Nat, j ≤ 16 ∧ i = .int .i64 j ∧ OwnI w' (w.heap.size + 1) v (inL j r k) ∧ Below (w.heap.size + 1) (w.alloc (.cells (ints 288 r) 26)) w') (fun _ i _ => 16 - (intOf i).toNat)
    case atStart =>
      refine ⟨0, by omega, rfl, ?_, (Below.refl _ _).alloc (by simp) _⟩
      have := own_one (w.alloc (.cells (ints 288 r) 26)) (r k)
      rw [World.size_alloc] at this
      exact this
    case round =>
      rename_i wr
      obtain ⟨j, hj, rfl, hown, hb⟩ := hrel
      have hr : rowAt wr w.heap.size = some (ints 288 r, 26) := (rowAt_below hb _ (by omega)).trans (rowAt_alloc_at _ _ _ _ rfl)
      have HO := Lib.hid hown
      have HB := Lib.hid hb
      have hz : w.heap.size + 1 ≤ wr.heap.size := by have := hb.size; simpa using this
      clear hown hb
      by_cases hlt : j < 16
      · go_wp2_with (at_builtin; go_loud (refine wl_append_one rfl _ _ rfl (w.heap.size + 1) _ _ _ (HO.out.alloc _) rfl rfl (by simp) (by rw [inL_len]; omega) (by simp; omega) ?_))
        intro v' w1 hown hb
        have HO' := Lib.hid hown
        have HB' := Lib.hid ((HB.out.alloc (by simpa using hz) _).trans hb)
        clear hown hb HO
        go_wp2
        go_roundw
        case rel =>
          refine ⟨j + 1, by omega, by go_num, ?_, HB'.out⟩
          have := HO'.out
          rw [inL_succ]
          simpa [sub, mv, Nat.add_assoc] using this
        case measure => simp [intOf]; omega
      · obtain rfl : j = 16 := by omega
        have hc1 : wr.cell? ⟨w.heap.size, 16 + k, none⟩ = some (.int .i64 (r (16 + k))) := by rw [cell_of_rowAt hr]; exact get_ints 288 r _ (by omega)
        go_wp2_with (at_builtin; go_loud (refine wl_append_one rfl _ _ rfl (w.heap.size + 1) _ _ _ HO.out rfl rfl (by simp) (by rw [inL_len]; omega) hz ?_))
        intro v' w1 hown hb
        have hr1 : rowAt w1 w.heap.size = some (ints 288 r, 26) := (rowAt_below hb _ (by omega)).trans hr
        have HO' := Lib.hid hown
        have HB' := Lib.hid (HB.out.trans hb)
        have hz1 : w.heap.size + 1 ≤ w1.heap.size := Nat.le_trans hz hb.size
        clear hown hb HO HB hr hc1
        have hle : 32 + k * 16 + 16 ≤ 288 := by omega
        go_wp2_with fail
        refine (less_any _ _).mono ?_
        rintro e w2 ⟨v2, rfl, hown2, hb2⟩
        obtain ⟨a2, cap2, rfl, hi2, hA2⟩ := hown2.isInts
        have HO2 := Lib.hid (HO'.out.below hb2)
        have HB2 := Lib.hid (HB'.out.trans (hb2.mono hz1))
        have hz2 : w.heap.size + 1 ≤ w2.heap.size := Nat.le_trans hz1 hb2.size
        have HI2 := Lib.hid hi2
        have HA2 := Lib.hid hA2
        clear hown2 hb2 HO' HB' hi2 hA2
        go_wp2_with (at_builtin; go_loud (refine wl_append_ints rfl _ _ rfl (w.heap.size + 1) v' _ (lessL 16 (sub (32 + k * 16) r)) a2 cap2 rfl HO2.out rfl HI2.out HA2.out (by rw [lessL_len, List.length_append, inL_len]; simp) hz2 ?_))
        intro v3 w3 hown3 hg3
        have HB3 := Lib.hid (HB2.out.trans (HO2.out.grown hz2 hg3))
        obtain ⟨a3, cap3, rfl, hi3, hA3⟩ := hown3.isInts
        have HI3 := Lib.hid hi3
        clear hown3 hg3 hi3 hA3
        go_wp2_with fail
        refine (sum_any a3 cap3 _ _ HI3.out (by simp [inL_len, lessL_len])).mono ?_
        rintro e w4 ⟨rfl, hb4⟩
        have HB4 := Lib.hid (((Below.refl _ _).alloc (Nat.le_refl _) _).trans (((HB3.out.mono (by omega)).trans (hb4.mono (by have := HB3.out.size; simp at this; omega)))))
        clear hb4
        go_wp2
        go_ret2
        exact ⟨rfl, HB4.out⟩
set_option maxHeartbeats 2000000 in
theorem rfree_any (r : Nat → Int) (k : Int) (w : World) : Calls Try.prog 13 #[.agg (ints 288 r), .int .i64 k] w fun e w' =>
    e = .returned (.tuple #[.int .i64 (freeN r k), .int .i64 (freeE r k)]) ∧ Below w.heap.size w w' := by
  cases hK : isK k
  · rw [freeN_no hK, freeE_no hK]
    have hn : ¬ (0 ≤ k ∧ k < 16) := fun h => by rw [isK_iff.2 h] at hK; cases hK
    by_cases h0 : 0 ≤ k
    · have h1 : 15 < k := by omega
      go_enter Try.func13, Try.ntmps13
      go_wp2_with fail
      go_ret2
      exact ⟨rfl, (Below.refl _ _).alloc (Nat.le_refl _) _⟩
    · go_enter Try.func13, Try.ntmps13
      go_wp2_with fail
      go_ret2
      exact ⟨rfl, (Below.refl _ _).alloc (Nat.le_refl _) _⟩
  · obtain ⟨h0, h1⟩ := isK_iff.1 hK
    obtain ⟨k, rfl⟩ := Int.eq_ofNat_of_zero_le h0
    rw [freeN_is hK, freeE_is hK]
    have hk : k < 16 := by omega
    have hk288 : k < 288 := by omega
    have hk15 : (k : Int) ≤ 15 := by omega
    go_enter Try.func13, Try.ntmps13
    go_wp2_with fail
    go_loopw [6, 7] (fun v i w' => ∃ j : Nat, j ≤ 16 ∧ i = .int .i64 j ∧ OwnI w' (w.heap.size + 1) v (inL j r k) ∧ Below (w.heap.size + 1) (w.alloc (.cells (ints 288 r) 26)) w') (fun _ i _ => 16 - (intOf i).toNat)
    case atStart =>
      refine ⟨0, by omega, rfl, ?_, (Below.refl _ _).alloc (by simp) _⟩
      have := own_one (w.alloc (.cells (ints 288 r) 26)) (r k)
      rw [World.size_alloc] at this
      exact this
    case round =>
      rename_i wr
      obtain ⟨j, hj, rfl, hown, hb⟩ := hrel
      have hr : rowAt wr w.heap.size = some (ints 288 r, 26) := (rowAt_below hb _ (by omega)).trans (rowAt_alloc_at _ _ _ _ rfl)
      have HO := Lib.hid hown
      have HB := Lib.hid hb
      have hz : w.heap.size + 1 ≤ wr.heap.size := by have := hb.size; simpa using this
      clear hown hb
      by_cases hlt : j < 16
      · have hc1 : wr.cell? ⟨w.heap.size, 32 + j * 16 + k, none⟩ = some (.int .i64 (mv r j k)) := by rw [cell_of_rowAt hr]; exact get_ints 288 r _ (by omega)
        go_wp2_with (at_builtin; go_loud (refine wl_append_one rfl _ _ rfl (w.heap.size + 1) _ _ _ HO.out rfl rfl (by simp) (by rw [inL_len]; omega) hz ?_))
        intro v' w1 hown hb
        have HO' := Lib.hid hown
        have HB' := Lib.hid (HB.out.trans hb)
        clear hown hb HO
        go_wp2
        go_roundw
        case rel => exact ⟨j + 1, by omega, by go_num, by rw [inL_succ]; exact HO'.out, HB'.out⟩
        case measure => simp [intOf]; omega
      · obtain rfl : j = 16 := by omega
        have hc1 : wr.cell? ⟨w.heap.size, 16 + k, none⟩ = some (.int .i64 (r (16 + k))) := by rw [cell_of_rowAt hr]; exact get_ints 288 r _ (by omega)
        go_wp2_with (at_builtin; go_loud (refine wl_append_one rfl _ _ rfl (w.heap.size + 1) _ _ _ HO.out rfl rfl (by simp) (by rw [inL_len]; omega) hz ?_))
        intro v' w1 hown hb
        have HO' := Lib.hid hown
        have HB' := Lib.hid (HB.out.trans hb)
        clear hown hb HO HB hr hc1 hz
        go_wp2_with fail
        go_loopw [6, 8] (fun v i w' => ∃ j : Nat, j ≤ 16 ∧ i = .int .i64 j ∧ OwnI w' (w.heap.size + 1) v (inL 16 r k ++ [ng (r (16 + k))] ++ lessL j (mv r k)) ∧ Below (w.heap.size + 1) (w.alloc (.cells (ints 288 r) 26)) w') (fun _ i _ => 16 - (intOf i).toNat)
        case atStart => exact ⟨0, by omega, rfl, by rw [show lessL 0 (mv r k) = [] from rfl, List.append_nil]; exact HO'.out, HB'.out⟩
        case round =>
          rename_i wr
          obtain ⟨j, hj, rfl, hown, hb⟩ := hrel
          have hr : rowAt wr w.heap.size = some (ints 288 r, 26) := (rowAt_below hb _ (by omega)).trans (rowAt_alloc_at _ _ _ _ rfl)
          have HO := Lib.hid hown
          have HB := Lib.hid hb
          have hz : w.heap.size + 1 ≤ wr.heap.size := by have := hb.size; simpa using this
          clear hown hb HO' HB'
          by_cases hlt : j < 16
          · have hc1 : wr.cell? ⟨w.heap.size, 32 + k * 16 + j, none⟩ = some (.int .i64 (mv r k j)) := by rw [cell_of_rowAt hr]; exact get_ints 288 r _ (by omega)
            go_wp2_with (at_builtin; go_loud (refine wl_append_one rfl _ _ rfl (w.heap.size + 1) _ _ _ HO.out rfl rfl (by simp) (by simp [inL_len, lessL_len]; omega) hz ?_))
            intro v' w1 hown hb
            have HO' := Lib.hid hown
            have HB' := Lib.hid (HB.out.trans hb)
            clear hown hb HO
            go_wp2
            go_roundw
            case rel => exact ⟨j + 1, by omega, by go_num, by rw [lessL_succ, ← List.append_assoc]; exact HO'.out, HB'.out⟩
            case measure => simp [intOf]; omega
          · obtain rfl : j = 16 := by omega
            obtain ⟨a3, cap3, rfl, hi3, hA3⟩ := HO.out.isInts
            have HI3 := Lib.hid hi3
            clear hi3 hA3 HO
            go_wp2_with fail
            refine (rsum_any a3 cap3 _ _ HI3.out (by simp [inL_len, lessL_len])).mono ?_
            rintro e w4 ⟨rfl, rfl⟩
            go_wp2
            go_ret2
            exact ⟨rfl, ((Below.refl _ _).alloc (Nat.le_refl _) _).trans (HB.out.mono (by omega))⟩
end Go.Proofs.YtifnjgedohdjhaaRRR
