/-
  Layer 4 (counter): the reference's Inc, Dec, Hand.
-/
import Derived.Test.YtifnjgedohdjhaaRRRCDo
namespace Go.Proofs.YtifnjgedohdjhaaRRR
open Go.RowKit
set_option linter.unusedSimpArgs false
attribute [local go_sem] rowCells rowAt_drewN get_ints getE_ints set_ints size_ints rowAt_alloc rowAt_drew setRow_alloc setRow_drewN setRow_drew setCell_alloc setCell_drewN splice_upd splice_put splice_all load_vec_cut load_vecs_cut load_rights_cut load_counter store_vec store_rights store_counter eql_vec neq_vec index_vec eql_rights neq_rights eql_counter index_vecs cut_ints sub_zero
attribute [local go_sem ↓] xload_vec xstore_vec xalloc_vec xeql_vec xneq_vec xindex_vec xbuild_vec0 xload_rights xstore_rights xalloc_rights xeql_rights xneq_rights xbuild_rights0 xload_vecs xindex_vecs xload_counter xstore_counter xalloc_counter xbuild_counter0 xeql_counter xbuild_counter3
attribute [local go_sem] rowAt_setRow rowAt_setCell load_vec_cut_later load_rights_later load_counter_later Later.cell Later.frozen build3_ints
attribute [local go_sem] rn_true rn_false re_true re_false eqI_self
theorem ruse_is {r : Nat → Int} {k n e : Int} (h : useE r k n = e) (w : World) : Calls Try.prog 41 #[.agg (ints 288 r), .int .i64 k, .int .i64 n] w fun x w' => x = .returned (.tuple #[.agg (ints 288 (useF r k n)), .int .i64 e]) ∧ Below w.heap.size w w' := by subst h; exact ruse_any r k n w
theorem rgive_is {r : Nat → Int} {k n e : Int} (h : giveE r k n = e) (w : World) : Calls Try.prog 42 #[.agg (ints 288 r), .int .i64 k, .int .i64 n] w fun x w' => x = .returned (.tuple #[.agg (ints 288 (giveF r k n)), .int .i64 e]) ∧ Below w.heap.size w w' := by subst h; exact rgive_any r k n w
theorem rmove_is {r : Nat → Int} {i k n e : Int} (h : moveE r i k n = e) (w : World) : Calls Try.prog 50 #[.agg (ints 288 r), .int .i64 i, .int .i64 k, .int .i64 n] w fun x w' => x = .returned (.tuple #[.agg (ints 288 (moveF r i k n)), .int .i64 e]) ∧ Below w.heap.size w w' := by subst h; exact rmove_any r i k n w
set_option maxHeartbeats 2000000 in
theorem rinc_any (c : Nat → Int) (k n : Int) (w : World) : Calls Try.prog 16 #[.agg (ints 579 c), .int .i64 k, .int .i64 n] w fun e w' =>
    e = .returned (.tuple #[.agg (ints 579 (incF c k n)), .int .i64 (incE c k n)]) ∧ Below w.heap.size w w' := by
  unfold incF incE doneF
  generalize hA : useE (sub 291 c) k n = A
  generalize hS : giveE (sub 3 c) k n = S
  by_cases h1 : A = 0
  · subst h1
    rw [if_pos rfl]
    by_cases h2 : S = 0
    · subst h2
      rw [if_pos rfl]
      go_enter Try.func16, Try.ntmps16
      go_wp2_with fail
      refine (ruse_is hA _).mono ?_
      rintro e w1 ⟨rfl, hb1⟩
      have r1 : rowAt w1 w.heap.size = some (ints 579 c, 28) := rowKeep hb1 (rowPast (rowAt_alloc_at _ _ _ _ rfl))
      have r2 : rowAt w1 (w.heap.size + 1) = some (ints 579 fun _ => 0, 28) := rowKeep hb1 (rowAt_alloc_at _ _ _ _ (by simp))
      have n1 := rowAt_lt r1
      have n2 := rowAt_lt r2
      have HB1 := Lib.hid (below2 hb1)
      clear hb1
      go_wp2_with fail
      refine (rgive_is hS _).mono ?_
      rintro e w2 ⟨rfl, hb2⟩
      have r3 : rowAt w2 w.heap.size = some (ints 579 c, 28) := rowKeep hb2 (rowPast r1)
      have r4 : rowAt w2 (w.heap.size + 1) = some (ints 579 fun _ => 0, 28) := rowKeep hb2 (rowPast r2)
      have r5 : rowAt w2 w1.heap.size = some (ints 288 (useF (sub 291 c) k n), 26) := rowKeep hb2 (rowAt_alloc_at _ _ _ _ rfl)
      have m3 := Nat.ne_of_lt (rowAt_lt r3)
      have m4 := Nat.ne_of_lt (rowAt_lt r4)
      have m5 := Nat.ne_of_lt (rowAt_lt r5)
      have m6 := Nat.ne_of_lt n1
      have m7 := Nat.ne_of_lt n2
      have HB2 := Lib.hid (bthen (below_allocS HB1.out _) hb2)
      clear hb2 r1 r2
      go_wp2
      refine ret_ct rfl rfl rfl rfl (by simp [go_sem, *]; rfl) ?_
      refine ⟨?_, by repeat (first | exact HB2.out | refine below_allocS ?_ _ | refine below_setRow' ?_ (by omega) _)⟩
      rw [← put_dn]
      rfl
    · rw [if_neg h2]
      have g1 : (S == 0) = false := beq_eq_false_iff_ne.2 h2
      have g2 : decide (S = 0) = false := decide_eq_false h2
      go_enter Try.func16, Try.ntmps16
      go_wp2_with fail
      refine (ruse_is hA _).mono ?_
      rintro e w1 ⟨rfl, hb1⟩
      have r1 : rowAt w1 w.heap.size = some (ints 579 c, 28) := rowKeep hb1 (rowPast (rowAt_alloc_at _ _ _ _ rfl))
      have r2 : rowAt w1 (w.heap.size + 1) = some (ints 579 fun _ => 0, 28) := rowKeep hb1 (rowAt_alloc_at _ _ _ _ (by simp))
      have n1 := rowAt_lt r1
      have n2 := rowAt_lt r2
      have HB1 := Lib.hid (below2 hb1)
      clear hb1
      go_wp2_with fail
      refine (rgive_is hS _).mono ?_
      rintro e w2 ⟨rfl, hb2⟩
      have r3 : rowAt w2 w.heap.size = some (ints 579 c, 28) := rowKeep hb2 (rowPast r1)
      have r4 : rowAt w2 (w.heap.size + 1) = some (ints 579 fun _ => 0, 28) := rowKeep hb2 (rowPast r2)
      have r5 : rowAt w2 w1.heap.size = some (ints 288 (useF (sub 291 c) k n), 26) := rowKeep hb2 (rowAt_alloc_at _ _ _ _ rfl)
      have m3 := Nat.ne_of_lt (rowAt_lt r3)
      have m4 := Nat.ne_of_lt (rowAt_lt r4)
      have m5 := Nat.ne_of_lt (rowAt_lt r5)
      have m6 := Nat.ne_of_lt n1
      have m7 := Nat.ne_of_lt n2
      have HB2 := Lib.hid (bthen (below_allocS HB1.out _) hb2)
      clear hb2 r1 r2
      go_wp2
      refine ret_ct rfl rfl rfl rfl (by simp [go_sem, *]; rfl) ?_
      refine ⟨?_, by repeat (first | exact HB2.out | refine below_allocS ?_ _ | refine below_setRow' ?_ (by omega) _)⟩
      rfl
  · rw [if_neg h1, if_neg h1]
    have g1 : (A == 0) = false := beq_eq_false_iff_ne.2 h1
    have g2 : decide (A = 0) = false := decide_eq_false h1
    go_enter Try.func16, Try.ntmps16
    go_wp2_with fail
    refine (ruse_is hA _).mono ?_
    rintro e w1 ⟨rfl, hb1⟩
    have r1 : rowAt w1 w.heap.size = some (ints 579 c, 28) := rowKeep hb1 (rowPast (rowAt_alloc_at _ _ _ _ rfl))
    have r2 : rowAt w1 (w.heap.size + 1) = some (ints 579 fun _ => 0, 28) := rowKeep hb1 (rowAt_alloc_at _ _ _ _ (by simp))
    have n1 := rowAt_lt r1
    have n2 := rowAt_lt r2
    have HB1 := Lib.hid (below2 hb1)
    clear hb1
    have m6 := Nat.ne_of_lt n1
    have m7 := Nat.ne_of_lt n2
    go_wp2
    refine ret_ct rfl rfl rfl rfl (by simp [go_sem, *]; rfl) ?_
    refine ⟨?_, by repeat (first | exact HB1.out | refine below_allocS ?_ _ | refine below_setRow' ?_ (by omega) _)⟩
    rfl
set_option maxHeartbeats 2000000 in
theorem rdec_any (c : Nat → Int) (k n : Int) (w : World) : Calls Try.prog 18 #[.agg (ints 579 c), .int .i64 k, .int .i64 n] w fun e w' =>
    e = .returned (.tuple #[.agg (ints 579 (decF c k n)), .int .i64 (decE c k n)]) ∧ Below w.heap.size w w' := by
  unfold decF decE doneF
  generalize hA : useE (sub 3 c) k n = A
  generalize hS : giveE (sub 291 c) k n = S
  by_cases h1 : A = 0
  · subst h1
    rw [if_pos rfl]
    by_cases h2 : S = 0
    · subst h2
      rw [if_pos rfl]
      go_enter Try.func18, Try.ntmps18
      go_wp2_with fail
      refine (ruse_is hA _).mono ?_
      rintro e w1 ⟨rfl, hb1⟩
      have r1 : rowAt w1 w.heap.size = some (ints 579 c, 28) := rowKeep hb1 (rowPast (rowAt_alloc_at _ _ _ _ rfl))
      have r2 : rowAt w1 (w.heap.size + 1) = some (ints 579 fun _ => 0, 28) := rowKeep hb1 (rowAt_alloc_at _ _ _ _ (by simp))
      have n1 := rowAt_lt r1
      have n2 := rowAt_lt r2
      have HB1 := Lib.hid (below2 hb1)
      clear hb1
      go_wp2_with fail
      refine (rgive_is hS _).mono ?_
      rintro e w2 ⟨rfl, hb2⟩
      have r3 : rowAt w2 w.heap.size = some (ints 579 c, 28) := rowKeep hb2 (rowPast r1)
      have r4 : rowAt w2 (w.heap.size + 1) = some (ints 579 fun _ => 0, 28) := rowKeep hb2 (rowPast r2)
      have r5 : rowAt w2 w1.heap.size = some (ints 288 (useF (sub 3 c) k n), 26) := rowKeep hb2 (rowAt_alloc_at _ _ _ _ rfl)
      have m3 := Nat.ne_of_lt (rowAt_lt r3)
      have m4 := Nat.ne_of_lt (rowAt_lt r4)
      have m5 := Nat.ne_of_lt (rowAt_lt r5)
      have m6 := Nat.ne_of_lt n1
      have m7 := Nat.ne_of_lt n2
      have HB2 := Lib.hid (bthen (below_allocS HB1.out _) hb2)
      clear hb2 r1 r2
      go_wp2
      refine ret_ct rfl rfl rfl rfl (by simp [go_sem, *]; rfl) ?_
      refine ⟨?_, by repeat (first | exact HB2.out | refine below_allocS ?_ _ | refine below_setRow' ?_ (by omega) _)⟩
      rw [← put_nd]
      rfl
    · rw [if_neg h2]
      have g1 : (S == 0) = false := beq_eq_false_iff_ne.2 h2
      have g2 : decide (S = 0) = false := decide_eq_false h2
      go_enter Try.func18, Try.ntmps18
      go_wp2_with fail
      refine (ruse_is hA _).mono ?_
      rintro e w1 ⟨rfl, hb1⟩
      have r1 : rowAt w1 w.heap.size = some (ints 579 c, 28) := rowKeep hb1 (rowPast (rowAt_alloc_at _ _ _ _ rfl))
      have r2 : rowAt w1 (w.heap.size + 1) = some (ints 579 fun _ => 0, 28) := rowKeep hb1 (rowAt_alloc_at _ _ _ _ (by simp))
      have n1 := rowAt_lt r1
      have n2 := rowAt_lt r2
      have HB1 := Lib.hid (below2 hb1)
      clear hb1
      go_wp2_with fail
      refine (rgive_is hS _).mono ?_
      rintro e w2 ⟨rfl, hb2⟩
      have r3 : rowAt w2 w.heap.size = some (ints 579 c, 28) := rowKeep hb2 (rowPast r1)
      have r4 : rowAt w2 (w.heap.size + 1) = some (ints 579 fun _ => 0, 28) := rowKeep hb2 (rowPast r2)
      have r5 : rowAt w2 w1.heap.size = some (ints 288 (useF (sub 3 c) k n), 26) := rowKeep hb2 (rowAt_alloc_at _ _ _ _ rfl)
      have m3 := Nat.ne_of_lt (rowAt_lt r3)
      have m4 := Nat.ne_of_lt (rowAt_lt r4)
      have m5 := Nat.ne_of_lt (rowAt_lt r5)
      have m6 := Nat.ne_of_lt n1
      have m7 := Nat.ne_of_lt n2
      have HB2 := Lib.hid (bthen (below_allocS HB1.out _) hb2)
      clear hb2 r1 r2
      go_wp2
      refine ret_ct rfl rfl rfl rfl (by simp [go_sem, *]; rfl) ?_
      refine ⟨?_, by repeat (first | exact HB2.out | refine below_allocS ?_ _ | refine below_setRow' ?_ (by omega) _)⟩
      rfl
  · rw [if_neg h1, if_neg h1]
    have g1 : (A == 0) = false := beq_eq_false_iff_ne.2 h1
    have g2 : decide (A = 0) = false := decide_eq_false h1
    go_enter Try.func18, Try.ntmps18
    go_wp2_with fail
    refine (ruse_is hA _).mono ?_
    rintro e w1 ⟨rfl, hb1⟩
    have r1 : rowAt w1 w.heap.size = some (ints 579 c, 28) := rowKeep hb1 (rowPast (rowAt_alloc_at _ _ _ _ rfl))
    have r2 : rowAt w1 (w.heap.size + 1) = some (ints 579 fun _ => 0, 28) := rowKeep hb1 (rowAt_alloc_at _ _ _ _ (by simp))
    have n1 := rowAt_lt r1
    have n2 := rowAt_lt r2
    have HB1 := Lib.hid (below2 hb1)
    clear hb1
    have m6 := Nat.ne_of_lt n1
    have m7 := Nat.ne_of_lt n2
    go_wp2
    refine ret_ct rfl rfl rfl rfl (by simp [go_sem, *]; rfl) ?_
    refine ⟨?_, by repeat (first | exact HB1.out | refine below_allocS ?_ _ | refine below_setRow' ?_ (by omega) _)⟩
    rfl
set_option maxHeartbeats 2000000 in
theorem rhand_any (c : Nat → Int) (i k n m : Int) (w : World) : Calls Try.prog 20 #[.agg (ints 579 c), .int .i64 i, .int .i64 k, .int .i64 n, .int .i64 m] w fun e w' =>
    e = .returned (.tuple #[.agg (ints 579 (handF c i k n m)), .int .i64 (handE c i k n m)]) ∧ Below w.heap.size w w' := by
  unfold handF handE doneF
  generalize hA : moveE (sub 3 c) i k n = A
  generalize hS : moveE (sub 291 c) i k m = S
  by_cases h1 : A = 0
  · subst h1
    rw [if_pos rfl]
    by_cases h2 : S = 0
    · subst h2
      rw [if_pos rfl]
      go_enter Try.func20, Try.ntmps20
      go_wp2_with fail
      refine (rmove_is hA _).mono ?_
      rintro e w1 ⟨rfl, hb1⟩
      have r1 : rowAt w1 w.heap.size = some (ints 579 c, 28) := rowKeep hb1 (rowPast (rowAt_alloc_at _ _ _ _ rfl))
      have r2 : rowAt w1 (w.heap.size + 1) = some (ints 579 fun _ => 0, 28) := rowKeep hb1 (rowAt_alloc_at _ _ _ _ (by simp))
      have n1 := rowAt_lt r1
      have n2 := rowAt_lt r2
      have HB1 := Lib.hid (below2 hb1)
      clear hb1
      go_wp2_with fail
      refine (rmove_is hS _).mono ?_
      rintro e w2 ⟨rfl, hb2⟩
      have r3 : rowAt w2 w.heap.size = some (ints 579 c, 28) := rowKeep hb2 (rowPast r1)
      have r4 : rowAt w2 (w.heap.size + 1) = some (ints 579 fun _ => 0, 28) := rowKeep hb2 (rowPast r2)
      have r5 : rowAt w2 w1.heap.size = some (ints 288 (moveF (sub 3 c) i k n), 26) := rowKeep hb2 (rowAt_alloc_at _ _ _ _ rfl)
      have m3 := Nat.ne_of_lt (rowAt_lt r3)
      have m4 := Nat.ne_of_lt (rowAt_lt r4)
      have m5 := Nat.ne_of_lt (rowAt_lt r5)
      have m6 := Nat.ne_of_lt n1
      have m7 := Nat.ne_of_lt n2
      have HB2 := Lib.hid (bthen (below_allocS HB1.out _) hb2)
      clear hb2 r1 r2
      go_wp2
      refine ret_ct rfl rfl rfl rfl (by simp [go_sem, *]; rfl) ?_
      refine ⟨?_, by repeat (first | exact HB2.out | refine below_allocS ?_ _ | refine below_setRow' ?_ (by omega) _)⟩
      rw [← put_nd]
      rfl
    · rw [if_neg h2]
      have g1 : (S == 0) = false := beq_eq_false_iff_ne.2 h2
      have g2 : decide (S = 0) = false := decide_eq_false h2
      go_enter Try.func20, Try.ntmps20
      go_wp2_with fail
      refine (rmove_is hA _).mono ?_
      rintro e w1 ⟨rfl, hb1⟩
      have r1 : rowAt w1 w.heap.size = some (ints 579 c, 28) := rowKeep hb1 (rowPast (rowAt_alloc_at _ _ _ _ rfl))
      have r2 : rowAt w1 (w.heap.size + 1) = some (ints 579 fun _ => 0, 28) := rowKeep hb1 (rowAt_alloc_at _ _ _ _ (by simp))
      have n1 := rowAt_lt r1
      have n2 := rowAt_lt r2
      have HB1 := Lib.hid (below2 hb1)
      clear hb1
      go_wp2_with fail
      refine (rmove_is hS _).mono ?_
      rintro e w2 ⟨rfl, hb2⟩
      have r3 : rowAt w2 w.heap.size = some (ints 579 c, 28) := rowKeep hb2 (rowPast r1)
      have r4 : rowAt w2 (w.heap.size + 1) = some (ints 579 fun _ => 0, 28) := rowKeep hb2 (rowPast r2)
      have r5 : rowAt w2 w1.heap.size = some (ints 288 (moveF (sub 3 c) i k n), 26) := rowKeep hb2 (rowAt_alloc_at _ _ _ _ rfl)
      have m3 := Nat.ne_of_lt (rowAt_lt r3)
      have m4 := Nat.ne_of_lt (rowAt_lt r4)
      have m5 := Nat.ne_of_lt (rowAt_lt r5)
      have m6 := Nat.ne_of_lt n1
      have m7 := Nat.ne_of_lt n2
      have HB2 := Lib.hid (bthen (below_allocS HB1.out _) hb2)
      clear hb2 r1 r2
      go_wp2
      refine ret_ct rfl rfl rfl rfl (by simp [go_sem, *]; rfl) ?_
      refine ⟨?_, by repeat (first | exact HB2.out | refine below_allocS ?_ _ | refine below_setRow' ?_ (by omega) _)⟩
      rfl
  · rw [if_neg h1, if_neg h1]
    have g1 : (A == 0) = false := beq_eq_false_iff_ne.2 h1
    have g2 : decide (A = 0) = false := decide_eq_false h1
    go_enter Try.func20, Try.ntmps20
    go_wp2_with fail
    refine (rmove_is hA _).mono ?_
    rintro e w1 ⟨rfl, hb1⟩
    have r1 : rowAt w1 w.heap.size = some (ints 579 c, 28) := rowKeep hb1 (rowPast (rowAt_alloc_at _ _ _ _ rfl))
    have r2 : rowAt w1 (w.heap.size + 1) = some (ints 579 fun _ => 0, 28) := rowKeep hb1 (rowAt_alloc_at _ _ _ _ (by simp))
    have n1 := rowAt_lt r1
    have n2 := rowAt_lt r2
    have HB1 := Lib.hid (below2 hb1)
    clear hb1
    have m6 := Nat.ne_of_lt n1
    have m7 := Nat.ne_of_lt n2
    go_wp2
    refine ret_ct rfl rfl rfl rfl (by simp [go_sem, *]; rfl) ?_
    refine ⟨?_, by repeat (first | exact HB1.out | refine below_allocS ?_ _ | refine below_setRow' ?_ (by omega) _)⟩
    rfl
end Go.Proofs.YtifnjgedohdjhaaRRR
