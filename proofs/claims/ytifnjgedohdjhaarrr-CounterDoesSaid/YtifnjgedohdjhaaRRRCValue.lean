/-
  Layer 4 (counter): Value.
-/
import Derived.Test.YtifnjgedohdjhaaRRRCRef
import Derived.Test.YtifnjgedohdjhaaRRRRFree
namespace Go.Proofs.YtifnjgedohdjhaaRRR
open Go.RowKit
set_option linter.unusedSimpArgs false
attribute [local go_sem] rowCells rowAt_drewN get_ints getE_ints set_ints size_ints rowAt_alloc rowAt_drew setRow_alloc setRow_drewN setRow_drew setCell_alloc setCell_drewN splice_upd splice_put splice_all load_vec_cut load_vecs_cut load_rights_cut load_counter store_vec store_rights store_counter eql_vec neq_vec index_vec eql_rights neq_rights eql_counter index_vecs cut_ints sub_zero
attribute [local go_sem ↓] xload_vec xstore_vec xalloc_vec xeql_vec xneq_vec xindex_vec xbuild_vec0 xload_rights xstore_rights xalloc_rights xeql_rights xneq_rights xbuild_rights0 xload_vecs xindex_vecs xload_counter xstore_counter xalloc_counter xbuild_counter0 xeql_counter xbuild_counter3
attribute [local go_sem] rowAt_setRow rowAt_setCell load_vec_cut_later load_rights_later load_counter_later Later.cell Later.frozen build3_ints
attribute [local go_sem] rn_true rn_false re_true re_false eqI_self
def valL (c : Nat → Int) : List Int := (c 0 :: lst (sub 307 c)) ++ lessL 16 (sub 19 c)
def upL (n : Nat) (c : Nat → Int) : List Int := c 0 :: (List.range n).map (sub 307 c)
theorem upL_succ (n : Nat) (c : Nat → Int) : upL (n + 1) c = upL n c ++ [sub 307 c n] := by simp [upL, List.range_succ]
theorem upL_len (n : Nat) (c : Nat → Int) : (upL n c).length = n + 1 := by simp [upL]
theorem upL_all (c : Nat → Int) : upL 16 c = c 0 :: lst (sub 307 c) := rfl
set_option maxHeartbeats 2000000 in
theorem rvalue_any (c : Nat → Int) (w : World) : Calls Try.prog 11 #[.agg (ints 579 c)] w fun e w' =>
    e = .returned (.tuple #[.int .i64 (sumN (valL c)), .int .i64 (sumE (valL c))]) ∧ Below w.heap.size w w' := by
  go_enter Try.func11, Try.ntmps11
  go_wp2_with fail
  go_loopw [4, 5] (fun v i w' => ∃ j : Nat, j ≤ 16 ∧ i = .int .i64 j ∧ OwnI w' (w.heap.size + 1) v (upL j c) ∧ Below (w.heap.size + 1) (w.alloc (.cells (ints 579 c) 28)) w') (fun _ i _ => 16 - (intOf i).toNat)
  case atStart =>
    refine ⟨0, by omega, rfl, ?_, (Below.refl _ _).alloc (by simp) _⟩
    have := own_one (w.alloc (.cells (ints 579 c) 28)) (c 0)
    rw [World.size_alloc] at this
    exact this
  case round =>
    rename_i wr
    obtain ⟨j, hj, rfl, hown, hb⟩ := hrel
    have hr : rowAt wr w.heap.size = some (ints 579 c, 28) := (rowAt_below hb _ (by omega)).trans (rowAt_alloc_at _ _ _ _ rfl)
    have HO := Lib.hid hown
    have HB := Lib.hid hb
    have hz : w.heap.size + 1 ≤ wr.heap.size := by have := hb.size; simpa using this
    clear hown hb
    by_cases hlt : j < 16
    · have hc1 : wr.cell? ⟨w.heap.size, 307 + j, none⟩ = some (.int .i64 (sub 307 c j)) := by rw [cell_of_rowAt hr]; exact get_ints 579 c _ (by omega)
      go_wp2_with (at_builtin; go_loud (refine wl_append_one rfl _ _ rfl (w.heap.size + 1) _ _ _ HO.out rfl rfl (by simp) (by rw [upL_len]; omega) hz ?_))
      intro v' w1 hown hb
      have HO' := Lib.hid hown
      have HB' := Lib.hid (HB.out.trans hb)
      clear hown hb HO
      go_wp2
      go_roundw
      case rel => exact ⟨j + 1, by omega, by go_num, by rw [upL_succ]; exact HO'.out, HB'.out⟩
      case measure => simp [intOf]; omega
    · have hj16 : j = 16 := by omega
      have HO1 := HO.out
      rw [hj16] at HO1
      have HO1 := Lib.hid HO1
      obtain ⟨z, hz0⟩ : ∃ z : Int, (j : Int) = z := ⟨_, rfl⟩
      rw [hz0]
      have hzz : ¬ z < 16 := by omega
      clear hr hj16 hz0 hlt hj HO
      go_wp2_with fail
      go_loopw [4, 6] (fun v i w' => ∃ j : Nat, j ≤ 16 ∧ i = .int .i64 j ∧ OwnI w' (w.heap.size + 1) v (upL 16 c ++ lessL j (sub 19 c)) ∧ Below (w.heap.size + 1) (w.alloc (.cells (ints 579 c) 28)) w') (fun _ i _ => 16 - (intOf i).toNat)
      case atStart => exact ⟨0, by omega, rfl, by rw [show lessL 0 (sub 19 c) = [] from rfl, List.append_nil]; exact HO1.out, HB.out⟩
      case round =>
        rename_i wr
        obtain ⟨j, hj, rfl, hown, hb⟩ := hrel
        have hr : rowAt wr w.heap.size = some (ints 579 c, 28) := (rowAt_below hb _ (by omega)).trans (rowAt_alloc_at _ _ _ _ rfl)
        clear HO1 HB hz
        have HO := Lib.hid hown
        have HB := Lib.hid hb
        have hz : w.heap.size + 1 ≤ wr.heap.size := by have := hb.size; simpa using this
        clear hown hb
        by_cases hlt : j < 16
        · have hc1 : wr.cell? ⟨w.heap.size, 19 + j, none⟩ = some (.int .i64 (sub 19 c j)) := by rw [cell_of_rowAt hr]; exact get_ints 579 c _ (by omega)
          go_wp2_with (at_builtin; go_loud (refine wl_append_one rfl _ _ rfl (w.heap.size + 1) _ _ _ HO.out rfl rfl (by simp) (by simp [upL_len, lessL_len]; omega) hz ?_))
          intro v' w1 hown hb
          have HO' := Lib.hid hown
          have HB' := Lib.hid (HB.out.trans hb)
          clear hown hb HO
          go_wp2
          go_roundw
          case rel => exact ⟨j + 1, by omega, by go_num, by rw [lessL_succ, ← List.append_assoc]; simpa [ng] using HO'.out, HB'.out⟩
          case measure => simp [intOf]; omega
        · obtain rfl : j = 16 := by omega
          obtain ⟨a3, cap3, rfl, hi3, hA3⟩ := HO.out.isInts
          have HI3 := Lib.hid hi3
          clear hi3 hA3 HO
          go_wp2_with fail
          refine (rsum_any a3 cap3 _ _ HI3.out (by simp [upL_len, lessL_len])).mono ?_
          rintro e w4 ⟨rfl, rfl⟩
          go_wp2
          go_ret2
          exact ⟨rfl, ((Below.refl _ _).alloc (Nat.le_refl _) _).trans (HB.out.mono (by omega))⟩
set_option maxHeartbeats 2000000 in
theorem value_any (c : Nat → Int) (w : World) : Calls Try.prog 10 #[.agg (ints 579 c)] w fun e w' =>
    e = .returned (.tuple #[.int .i64 (sumN (valL c)), .int .i64 (sumE (valL c))]) ∧ Below w.heap.size w w' := by
  go_enter Try.func10, Try.ntmps10
  go_upto_region 1 with fail
  go_cut [4] from 7 (fun v wx => OwnI wx (w.heap.size + 1) v (upL 16 c) ∧ Below (w.heap.size + 1) (w.alloc (.cells (ints 579 c) 28)) wx)
  case first =>
    have hq : ¬ 281474976710656 < Builtin.nextslicecap 17 1 * Try.t3.bytes := by decide +kernel
    go_region
    go_wp2_with fail
    go_meet
    obtain ⟨K, hK⟩ : ∃ K, (Question.appendCap 17 1 3).cut (w.tape (w.drawn + 1) (Question.appendCap 17 1 3)) = K := ⟨_, rfl⟩
    have hK1 : 17 ≤ K := by rw [← hK]; simp only [Question.cut]; omega
    have hK2 : K ≤ maxLen := by
      rw [← hK]
      have := Nat.mod_lt (w.tape (w.drawn + 1) (Question.appendCap 17 1 3)) (show 0 < 2 ^ 63 - 17 by omega)
      simp only [Question.cut, maxLen]
      omega
    rw [hK]
    refine ⟨⟨by simp [upL_len], .inr ⟨w.heap.size + 1 + 1, K, _, rfl, by omega, rowAt_iff.1 (by rw [rowAt_drew, rowAt_drew]; exact rowAt_alloc_at _ _ _ _ (by simp)), hK1, hK2, ?_, ?_⟩⟩, (((Below.refl _ _).alloc (by simp) _).alloc (by simp) _).drew.drew⟩
    · simp [size_zeroCells]; omega
    · simp [upL, List.range_succ, sub]
  case rest =>
    obtain ⟨W0, hW0⟩ : ∃ W0, w.alloc (.cells (ints 579 c) 28) = W0 := ⟨_, rfl⟩
    have HR0 : Hid (rowAt W0 w.heap.size = some (ints 579 c, 28)) := Lib.hid (by rw [← hW0]; exact rowAt_alloc_at _ _ _ _ rfl)
    have HB0 : Hid (Below w.heap.size w W0) := Lib.hid (by rw [← hW0]; exact (Below.refl _ _).alloc (Nat.le_refl _) _)
    have hsz : w.heap.size + 1 = W0.heap.size := by rw [← hW0]; simp
    rw [hW0, hsz] at hcut
    clear hW0 hsz
    obtain ⟨hown, hb⟩ := hcut
    have hr : rowAt wc w.heap.size = some (ints 579 c, 28) := rowKeep hb HR0.out
    have HO1 := Lib.hid hown
    have HB1 := Lib.hid hb
    clear hown hb
    go_wp2_with fail
    go_loopw [4, 17] (fun v i w' => ∃ k : Nat, k ≤ 16 ∧ i = .int .i64 k ∧ OwnI w' W0.heap.size v (upL 16 c ++ lessL k (sub 19 c)) ∧ Below W0.heap.size W0 w') (fun _ i _ => 16 - (intOf i).toNat)
    case atStart => exact ⟨0, by omega, rfl, by rw [show lessL 0 (sub 19 c) = [] from rfl, List.append_nil]; exact HO1.out, HB1.out⟩
    case round =>
      rename_i wr
      obtain ⟨k, hk, rfl, hown, hb⟩ := hrel
      clear HO1 HB1 hr
      by_cases hlt : k < 16
      · have HO := Lib.hid hown
        have HB := Lib.hid hb
        clear hown hb
        go_wp2_with (at_builtin; go_loud (refine wl_append_one rfl _ _ rfl W0.heap.size _ _ _ HO.out rfl rfl (by simp) (by simp [upL_len, lessL_len]; omega) HB.out.size ?_))
        intro v' w1 hown hb
        have HO' := Lib.hid hown
        have HB' := Lib.hid (HB.out.trans hb)
        clear hown hb HO
        go_wp2
        go_roundw
        case rel => exact ⟨k + 1, by omega, by go_num, by rw [lessL_succ, ← List.append_assoc]; simpa [ng] using HO'.out, HB'.out⟩
        case measure => simp [intOf]; omega
      · obtain rfl : k = 16 := by omega
        obtain ⟨a3, cap3, rfl, hi3, hA3⟩ := hown.isInts
        have HI3 := Lib.hid hi3
        have HB := Lib.hid hb
        clear hi3 hA3 hown hb
        go_wp2_with fail
        refine (sum_any a3 cap3 _ _ HI3.out (by simp [upL_len, lessL_len])).mono ?_
        rintro e w4 ⟨rfl, hb4⟩
        have HB4 := Lib.hid (HB0.out.trans ((HB.out.trans (hb4.mono HB.out.size)).mono HB0.out.size))
        clear hb4
        go_wp2
        go_ret2
        exact ⟨rfl, HB4.out⟩
end Go.Proofs.YtifnjgedohdjhaaRRR
