/-
  Layer 3 (rights): Move; the reference's.
-/
import Derived.Test.YtifnjgedohdjhaaRRRRDo
namespace Go.Proofs.YtifnjgedohdjhaaRRR
open Go.RowKit
set_option linter.unusedSimpArgs false
attribute [local go_sem] rowCells rowAt_drewN get_ints getE_ints set_ints size_ints rowAt_alloc rowAt_drew setRow_alloc setRow_drewN setRow_drew setCell_alloc setCell_drewN splice_upd splice_all load_vec_cut load_vecs_cut load_rights_cut store_vec store_rights eql_vec neq_vec index_vec eql_rights neq_rights index_vecs cut_ints sub_zero
attribute [local go_sem ↓] xload_vec xstore_vec xalloc_vec xeql_vec xneq_vec xindex_vec xbuild_vec0 xload_rights xstore_rights xalloc_rights xeql_rights xneq_rights xbuild_rights0 xload_vecs xindex_vecs
attribute [local go_sem] rowAt_setRow rowAt_setCell load_vec_cut_later load_rights_later Later.cell Later.frozen
attribute [local go_sem] rn_true rn_false re_true re_false eqI_self

theorem moveAt_iff {i k : Int} : moveAt i k = true ↔ isK i = true ∧ isK k = true ∧ i ≠ k := by simp [moveAt, and_assoc]
set_option maxHeartbeats 1000000 in
theorem move_bad (r : Nat → Int) (i k n : Int) (w : World) (h : moveAt i k = false) : Calls Try.prog 47 #[.agg (ints 288 r), .int .i64 i, .int .i64 k, .int .i64 n] w fun e w' =>
    e = .returned (.tuple #[.agg (ints 288 fun _ => 0), .int .i64 1]) ∧ Below w.heap.size w w' := by
  cases hi : isK i
  · go_enter Try.func47, Try.ntmps47
    go_wp2_with (go_at_call 60; refine (isk_any _ _).mono ?_; rintro e w' ⟨rfl, rfl⟩)
    refine ret_ct rfl rfl rfl rfl (by simp [go_sem, *]; rfl) ?_
    exact ⟨rfl, ((Below.refl _ _).alloc (Nat.le_refl _) _).alloc (by simp) _⟩
  · cases hk : isK k
    · go_enter Try.func47, Try.ntmps47
      go_wp2_with (go_at_call 60; refine (isk_any _ _).mono ?_; rintro e w' ⟨rfl, rfl⟩)
      refine ret_ct rfl rfl rfl rfl (by simp [go_sem, *]; rfl) ?_
      exact ⟨rfl, ((Below.refl _ _).alloc (Nat.le_refl _) _).alloc (by simp) _⟩
    · have he : i = k := by
        simp only [moveAt, hi, hk, Bool.true_and, Bool.not_eq_false', decide_eq_true_eq] at h
        exact h
      subst he
      go_enter Try.func47, Try.ntmps47
      go_wp2_with (go_at_call 60; refine (isk_any _ _).mono ?_; rintro e w' ⟨rfl, rfl⟩)
      refine ret_ct rfl rfl rfl rfl (by simp [go_sem, *]; rfl) ?_
      exact ⟨rfl, ((Below.refl _ _).alloc (Nat.le_refl _) _).alloc (by simp) _⟩
set_option maxHeartbeats 1000000 in
theorem move_any (r : Nat → Int) (i k n : Int) (w : World) : Calls Try.prog 47 #[.agg (ints 288 r), .int .i64 i, .int .i64 k, .int .i64 n] w fun e w' =>
    e = .returned (.tuple #[.agg (ints 288 (moveF r i k n)), .int .i64 (moveE r i k n)]) ∧ Below w.heap.size w w' := by
  cases hat : moveAt i k
  · have h1 : moveE r i k n = 1 := by simp [moveE, hat]
    have h2 : moveF r i k n = fun _ => 0 := by unfold moveF; rw [h1]; rfl
    rw [h1, h2]
    exact move_bad r i k n w hat
  · obtain ⟨hi, hk, hik⟩ := moveAt_iff.1 hat
    obtain ⟨h0, h1⟩ := isK_iff.1 hi
    obtain ⟨i, rfl⟩ := Int.eq_ofNat_of_zero_le h0
    have hile : 32 + i * 16 + 16 ≤ 288 := by omega
    have hi16 : i < 16 := by omega
    have c1 := enough_any r i n
    have c2 := grow_any (sub (32 + i * 16) r) k n
    unfold moveF moveE
    rw [hat, Int.toNat_natCast]
    simp only [if_true]
    generalize enoughE r i n = E1 at *
    generalize growF (sub (32 + i * 16) r) k n = G at *
    generalize growE (sub (32 + i * 16) r) k n = E at *
    have C1 := Lib.hid c1
    have C2 := Lib.hid c2
    clear c1 c2 hat h0 h1
    have hik1 : ((i : Int) == k) = false := beq_eq_false_iff_ne.2 hik
    have hik2 : decide ((i : Int) = k) = false := decide_eq_false hik
    by_cases h1 : E1 = 0
    · rw [if_pos h1]
      subst h1
      by_cases h0 : E = 0
      · rw [if_pos h0]
        subst h0
        go_enter Try.func47, Try.ntmps47
        go_wp2_with (go_at_call 60; refine (isk_any _ _).mono ?_; rintro e w' ⟨rfl, rfl⟩)
        refine (C1.out _).mono ?_
        rintro e w1 ⟨rfl, hb1⟩
        have r1 : rowAt w1 w.heap.size = some (ints 288 r, 26) := rowKeep hb1 (by simp [rowAt_alloc] <;> omega)
        have r2 : rowAt w1 (w.heap.size + 1) = some (ints 288 fun _ => 0, 26) := rowKeep hb1 (by simp [rowAt_alloc] <;> omega)
        have n1 := Nat.ne_of_lt (rowAt_lt r1)
        have n2 := Nat.ne_of_lt (rowAt_lt r2)
        have l1 := rowAt_lt r1
        have HB1 := Lib.hid (below2 hb1)
        clear hb1
        go_wp2_with fail
        refine (C2.out _).mono ?_
        rintro e w2 ⟨rfl, hb2⟩
        have r3 : rowAt w2 w.heap.size = some (ints 288 r, 26) := rowKeep hb2 (rowPast r1)
        have r4 : rowAt w2 (w.heap.size + 1) = some (ints 288 fun _ => 0, 26) := rowKeep hb2 (rowPast r2)
        have r5 : rowAt w2 w1.heap.size = some (ints 16 fun _ => 0, 23) := rowKeep hb2 (by simp [rowAt_alloc] <;> omega)
        have HB2 := Lib.hid (bthen (below_allocS HB1.out _) hb2)
        clear hb2 r1 r2
        go_wp2
        refine ret_ct rfl rfl rfl rfl (by simp [go_sem, *]; rfl) ?_
        refine ⟨?_, by repeat (first | exact HB2.out | refine below_allocS ?_ _ | refine below_setRow' ?_ (by omega) _)⟩
        rfl
      · rw [if_neg h0]
        have hq1 : (E == 0) = false := beq_eq_false_iff_ne.2 h0
        have hq2 : decide (E = 0) = false := decide_eq_false h0
        go_enter Try.func47, Try.ntmps47
        go_wp2_with (go_at_call 60; refine (isk_any _ _).mono ?_; rintro e w' ⟨rfl, rfl⟩)
        refine (C1.out _).mono ?_
        rintro e w1 ⟨rfl, hb1⟩
        have r1 : rowAt w1 w.heap.size = some (ints 288 r, 26) := rowKeep hb1 (by simp [rowAt_alloc] <;> omega)
        have r2 : rowAt w1 (w.heap.size + 1) = some (ints 288 fun _ => 0, 26) := rowKeep hb1 (by simp [rowAt_alloc] <;> omega)
        have n1 := Nat.ne_of_lt (rowAt_lt r1)
        have n2 := Nat.ne_of_lt (rowAt_lt r2)
        have l1 := rowAt_lt r1
        have HB1 := Lib.hid (below2 hb1)
        clear hb1
        go_wp2_with fail
        refine (C2.out _).mono ?_
        rintro e w2 ⟨rfl, hb2⟩
        have r3 : rowAt w2 w.heap.size = some (ints 288 r, 26) := rowKeep hb2 (rowPast r1)
        have r4 : rowAt w2 (w.heap.size + 1) = some (ints 288 fun _ => 0, 26) := rowKeep hb2 (rowPast r2)
        have r5 : rowAt w2 w1.heap.size = some (ints 16 fun _ => 0, 23) := rowKeep hb2 (by simp [rowAt_alloc] <;> omega)
        have HB2 := Lib.hid (bthen (below_allocS HB1.out _) hb2)
        clear hb2 r1 r2
        go_wp2
        refine ret_ct rfl rfl rfl rfl (by simp [go_sem, *]; rfl) ?_
        refine ⟨?_, by repeat (first | exact HB2.out | refine below_allocS ?_ _ | refine below_setRow' ?_ (by omega) _)⟩
        rfl
    · rw [if_neg h1, if_neg h1]
      have h0 := h1
      have hq1 : (E1 == 0) = false := beq_eq_false_iff_ne.2 h0
      have hq2 : decide (E1 = 0) = false := decide_eq_false h0
      go_enter Try.func47, Try.ntmps47
      go_wp2_with (go_at_call 60; refine (isk_any _ _).mono ?_; rintro e w' ⟨rfl, rfl⟩)
      refine (C1.out _).mono ?_
      rintro e w1 ⟨rfl, hb1⟩
      have r1 : rowAt w1 w.heap.size = some (ints 288 r, 26) := rowKeep hb1 (by simp [rowAt_alloc] <;> omega)
      have r2 : rowAt w1 (w.heap.size + 1) = some (ints 288 fun _ => 0, 26) := rowKeep hb1 (by simp [rowAt_alloc] <;> omega)
      have n1 := Nat.ne_of_lt (rowAt_lt r1)
      have n2 := Nat.ne_of_lt (rowAt_lt r2)
      have l1 := rowAt_lt r1
      have HB1 := Lib.hid (below2 hb1)
      clear hb1
      go_wp2
      refine ret_ct rfl rfl rfl rfl (by simp [go_sem, *]; rfl) ?_
      refine ⟨?_, by repeat (first | exact HB1.out | refine below_allocS ?_ _ | refine below_setRow' ?_ (by omega) _)⟩
      rfl
set_option maxHeartbeats 1000000 in
theorem rmove_bad (r : Nat → Int) (i k n : Int) (w : World) (h : ¬ (0 ≤ i ∧ i ≤ 15 ∧ 0 ≤ k ∧ k ≤ 15 ∧ i ≠ k ∧ 0 ≤ n)) : Calls Try.prog 50 #[.agg (ints 288 r), .int .i64 i, .int .i64 k, .int .i64 n] w fun e w' =>
    e = .returned (.tuple #[.agg (ints 288 fun _ => 0), .int .i64 1]) ∧ Below w.heap.size w w' := by
  by_cases h1 : 0 ≤ i
  · by_cases h2 : i ≤ 15
    · by_cases h3 : 0 ≤ k
      · by_cases h4 : k ≤ 15
        · by_cases h5 : i = k
          · subst h5
            clear h
            go_enter Try.func50, Try.ntmps50
            go_wp2_with fail
            refine ret_ct rfl rfl rfl rfl (by simp [go_sem, *]; rfl) ?_
            exact ⟨rfl, ((Below.refl _ _).alloc (Nat.le_refl _) _).alloc (by simp) _⟩
          · have h6 : n < 0 := by omega
            have hik1 : (i == k) = false := beq_eq_false_iff_ne.2 h5
            have hik2 : decide (i = k) = false := decide_eq_false h5
            clear h
            go_enter Try.func50, Try.ntmps50
            go_wp2_with fail
            refine ret_ct rfl rfl rfl rfl (by simp [go_sem, *]; rfl) ?_
            exact ⟨rfl, ((Below.refl _ _).alloc (Nat.le_refl _) _).alloc (by simp) _⟩
        · clear h
          go_enter Try.func50, Try.ntmps50
          go_wp2_with fail
          refine ret_ct rfl rfl rfl rfl (by simp [go_sem, *]; rfl) ?_
          exact ⟨rfl, ((Below.refl _ _).alloc (Nat.le_refl _) _).alloc (by simp) _⟩
      · clear h
        go_enter Try.func50, Try.ntmps50
        go_wp2_with fail
        refine ret_ct rfl rfl rfl rfl (by simp [go_sem, *]; rfl) ?_
        exact ⟨rfl, ((Below.refl _ _).alloc (Nat.le_refl _) _).alloc (by simp) _⟩
    · clear h
      go_enter Try.func50, Try.ntmps50
      go_wp2_with fail
      refine ret_ct rfl rfl rfl rfl (by simp [go_sem, *]; rfl) ?_
      exact ⟨rfl, ((Below.refl _ _).alloc (Nat.le_refl _) _).alloc (by simp) _⟩
  · clear h
    go_enter Try.func50, Try.ntmps50
    go_wp2_with fail
    refine ret_ct rfl rfl rfl rfl (by simp [go_sem, *]; rfl) ?_
    exact ⟨rfl, ((Below.refl _ _).alloc (Nat.le_refl _) _).alloc (by simp) _⟩
set_option maxHeartbeats 1000000 in
theorem rmove_any (r : Nat → Int) (i k n : Int) (w : World) : Calls Try.prog 50 #[.agg (ints 288 r), .int .i64 i, .int .i64 k, .int .i64 n] w fun e w' =>
    e = .returned (.tuple #[.agg (ints 288 (moveF r i k n)), .int .i64 (moveE r i k n)]) ∧ Below w.heap.size w w' := by
  by_cases hok : 0 ≤ i ∧ i ≤ 15 ∧ 0 ≤ k ∧ k ≤ 15 ∧ i ≠ k ∧ 0 ≤ n
  · obtain ⟨h1, h2, h3, h4, hik, hn⟩ := hok
    have hat : moveAt i k = true := moveAt_iff.2 ⟨isK_iff.2 ⟨h1, by omega⟩, isK_iff.2 ⟨h3, by omega⟩, hik⟩
    obtain ⟨i, rfl⟩ := Int.eq_ofNat_of_zero_le h1
    have hile : 32 + i * 16 + 16 ≤ 288 := by omega
    have hi16 : i < 16 := by omega
    have hn' : ¬ n < 0 := by omega
    have c1 := rfree_any r i
    have c2 := rgrow_any (sub (32 + i * 16) r) k n
    unfold moveF moveE enoughE
    rw [hat, Int.toNat_natCast]
    simp only [if_true, if_neg hn']
    generalize freeE r i = E1 at *
    generalize freeN r i = N at *
    generalize growF (sub (32 + i * 16) r) k n = G at *
    generalize growE (sub (32 + i * 16) r) k n = E at *
    have C1 := Lib.hid c1
    have C2 := Lib.hid c2
    clear c1 c2 hat
    have hik1 : ((i : Int) == k) = false := beq_eq_false_iff_ne.2 hik
    have hik2 : decide ((i : Int) = k) = false := decide_eq_false hik
    clear hn'
    by_cases h1 : E1 = 0
    · subst h1
      simp only [if_true]
      by_cases hl : N < n
      · simp only [if_pos hl, show ((8 : Int) = 0) = False by decide, if_false]
        go_enter Try.func50, Try.ntmps50
        go_wp2_with fail
        refine (C1.out _).mono ?_
        rintro e w1 ⟨rfl, hb1⟩
        have r1 : rowAt w1 w.heap.size = some (ints 288 r, 26) := rowKeep hb1 (by simp [rowAt_alloc] <;> omega)
        have r2 : rowAt w1 (w.heap.size + 1) = some (ints 288 fun _ => 0, 26) := rowKeep hb1 (by simp [rowAt_alloc] <;> omega)
        have n1 := Nat.ne_of_lt (rowAt_lt r1)
        have n2 := Nat.ne_of_lt (rowAt_lt r2)
        have l1 := rowAt_lt r1
        have HB1 := Lib.hid (below2 hb1)
        clear hb1
        go_wp2
        refine ret_ct rfl rfl rfl rfl (by simp [go_sem, *]; rfl) ?_
        refine ⟨?_, by repeat (first | exact HB1.out | refine below_allocS ?_ _ | refine below_setRow' ?_ (by omega) _)⟩
        rfl
      · simp only [if_neg hl, if_true]
        have hl' : n ≤ N := by omega
        by_cases h0 : E = 0
        · subst h0
          simp only [if_true]
          go_enter Try.func50, Try.ntmps50
          go_wp2_with fail
          refine (C1.out _).mono ?_
          rintro e w1 ⟨rfl, hb1⟩
          have r1 : rowAt w1 w.heap.size = some (ints 288 r, 26) := rowKeep hb1 (by simp [rowAt_alloc] <;> omega)
          have r2 : rowAt w1 (w.heap.size + 1) = some (ints 288 fun _ => 0, 26) := rowKeep hb1 (by simp [rowAt_alloc] <;> omega)
          have n1 := Nat.ne_of_lt (rowAt_lt r1)
          have n2 := Nat.ne_of_lt (rowAt_lt r2)
          have l1 := rowAt_lt r1
          have HB1 := Lib.hid (below2 hb1)
          clear hb1
          go_wp2_with fail
          refine (C2.out _).mono ?_
          rintro e w2 ⟨rfl, hb2⟩
          have r3 : rowAt w2 w.heap.size = some (ints 288 r, 26) := rowKeep hb2 r1
          have r4 : rowAt w2 (w.heap.size + 1) = some (ints 288 fun _ => 0, 26) := rowKeep hb2 r2
          have n3 := Nat.ne_of_lt (rowAt_lt r3)
          have n4 := Nat.ne_of_lt (rowAt_lt r4)
          have HB2 := Lib.hid (bthen HB1.out hb2)
          clear hb2 r1 r2
          go_wp2
          refine ret_ct rfl rfl rfl rfl (by simp [go_sem, *]; rfl) ?_
          refine ⟨?_, by repeat (first | exact HB2.out | refine below_allocS ?_ _ | refine below_setRow' ?_ (by omega) _)⟩
          rfl
        · simp only [if_neg h0]
          have hq1 : (E == 0) = false := beq_eq_false_iff_ne.2 h0
          have hq2 : decide (E = 0) = false := decide_eq_false h0
          go_enter Try.func50, Try.ntmps50
          go_wp2_with fail
          refine (C1.out _).mono ?_
          rintro e w1 ⟨rfl, hb1⟩
          have r1 : rowAt w1 w.heap.size = some (ints 288 r, 26) := rowKeep hb1 (by simp [rowAt_alloc] <;> omega)
          have r2 : rowAt w1 (w.heap.size + 1) = some (ints 288 fun _ => 0, 26) := rowKeep hb1 (by simp [rowAt_alloc] <;> omega)
          have n1 := Nat.ne_of_lt (rowAt_lt r1)
          have n2 := Nat.ne_of_lt (rowAt_lt r2)
          have l1 := rowAt_lt r1
          have HB1 := Lib.hid (below2 hb1)
          clear hb1
          go_wp2_with fail
          refine (C2.out _).mono ?_
          rintro e w2 ⟨rfl, hb2⟩
          have r3 : rowAt w2 w.heap.size = some (ints 288 r, 26) := rowKeep hb2 r1
          have r4 : rowAt w2 (w.heap.size + 1) = some (ints 288 fun _ => 0, 26) := rowKeep hb2 r2
          have n3 := Nat.ne_of_lt (rowAt_lt r3)
          have n4 := Nat.ne_of_lt (rowAt_lt r4)
          have HB2 := Lib.hid (bthen HB1.out hb2)
          clear hb2 r1 r2
          go_wp2
          refine ret_ct rfl rfl rfl rfl (by simp [go_sem, *]; rfl) ?_
          refine ⟨?_, by repeat (first | exact HB2.out | refine below_allocS ?_ _ | refine below_setRow' ?_ (by omega) _)⟩
          rfl
    · simp only [if_neg h1]
      have h0 := h1
      have hq1 : (E1 == 0) = false := beq_eq_false_iff_ne.2 h0
      have hq2 : decide (E1 = 0) = false := decide_eq_false h0
      go_enter Try.func50, Try.ntmps50
      go_wp2_with fail
      refine (C1.out _).mono ?_
      rintro e w1 ⟨rfl, hb1⟩
      have r1 : rowAt w1 w.heap.size = some (ints 288 r, 26) := rowKeep hb1 (by simp [rowAt_alloc] <;> omega)
      have r2 : rowAt w1 (w.heap.size + 1) = some (ints 288 fun _ => 0, 26) := rowKeep hb1 (by simp [rowAt_alloc] <;> omega)
      have n1 := Nat.ne_of_lt (rowAt_lt r1)
      have n2 := Nat.ne_of_lt (rowAt_lt r2)
      have l1 := rowAt_lt r1
      have HB1 := Lib.hid (below2 hb1)
      clear hb1
      go_wp2
      refine ret_ct rfl rfl rfl rfl (by simp [go_sem, *]; rfl) ?_
      refine ⟨?_, by repeat (first | exact HB1.out | refine below_allocS ?_ _ | refine below_setRow' ?_ (by omega) _)⟩
      rfl
  · have h1 : moveE r i k n = 1 := by
      unfold moveE
      split
      · rename_i hat
        obtain ⟨hi, hk, hik⟩ := moveAt_iff.1 hat
        have := isK_iff.1 hi
        have := isK_iff.1 hk
        have hn : n < 0 := by omega
        have : enoughE r i n = 1 := by unfold enoughE; rw [if_pos hn]
        rw [this]; rfl
      · rfl
    have h2 : moveF r i k n = fun _ => 0 := by unfold moveF; rw [h1]; rfl
    rw [h1, h2]
    exact rmove_bad r i k n w hok
end Go.Proofs.YtifnjgedohdjhaaRRR
