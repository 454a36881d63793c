/-
  The walk of RightsDo.
-/
import Derived.Test.YtpicfjlcepfneaaAwake3
namespace Go.Proofs.Ytpicfjlcepfneaa
open Go.RowKit
attribute [local go_sem] rowCells rowAt_drewN get_ints getE_ints set_ints size_ints rowAt_alloc rowAt_drew setRow_alloc setRow_drewN setRow_drew setCell_alloc setCell_drewN splice_upd splice_all load_vec_cut load_vecs_cut load_rights_cut store_vec store_rights eql_vec neq_vec index_vec eql_rights neq_rights index_vecs cut_ints sub_zero
attribute [local go_sem ↓] xload_vec xstore_vec xalloc_vec xeql_vec xneq_vec xindex_vec xbuild_vec0 xload_rights xstore_rights xalloc_rights xeql_rights xneq_rights xbuild_rights0 xload_vecs xindex_vecs
attribute [local go_sem] rowAt_setRow rowAt_setCell load_vec_cut_later load_rights_later Later.cell Later.frozen
attribute [local go_sem] rn_true rn_false re_true re_false eqI_self

set_option maxRecDepth 100000 in
set_option maxHeartbeats 4000000 in
theorem rightsDo_walk (r : Nat → Int) (_hr : ∀ i, i < 288 → -9223372036854775808 ≤ r i ∧ r i ≤ 9223372036854775807) (i : Int) (_hi : -9223372036854775808 ≤ i ∧ i ≤ 9223372036854775807) (k : Int) (_hk : -9223372036854775808 ≤ k ∧ k ≤ 9223372036854775807) (n : Int) (_hn : -9223372036854775808 ≤ n ∧ n ≤ 9223372036854775807) (w : World) :
    Calls Try.prog 3 #[.agg (ints 288 r), .int .i64 i, .int .i64 k, .int .i64 n] w fun e w' => e = .returned (.bool true) ∧ Below w.heap.size w w' := by
  clear _hr _hi _hk _hn
  have c1 := give_any r k n
  have c2 := rgive_any r k n
  have c3 := use_any r k n
  have c4 := ruse_any r k n
  have c5 := move_any r i k n
  have c6 := rmove_any r i k n
  generalize giveF r k n = F1 at *
  generalize giveE r k n = E1 at *
  generalize useF r k n = F2 at *
  generalize useE r k n = E2 at *
  generalize moveF r i k n = F3 at *
  generalize moveE r i k n = E3 at *
  have C1 := Lib.hid c1
  have C2 := Lib.hid c2
  have C3 := Lib.hid c3
  have C4 := Lib.hid c4
  have C5 := Lib.hid c5
  have C6 := Lib.hid c6
  clear c1 c2 c3 c4 c5 c6
  go_enter Try.func3, Try.ntmps3
  go_wp2_with fail
  refine (C1.out _).mono ?_
  rintro e w1 ⟨rfl, hb⟩
  have r1_0 : rowAt w1 (w.heap.size) = some (ints 288 r, 26) := rowKeep hb (by simp [rowAt_alloc])
  have HB1 := Lib.hid (((Below.refl _ _).alloc (Nat.le_refl _) _).trans (hb.mono (by simp)))
  clear hb
  have n1_0 := Nat.ne_of_lt (rowAt_lt r1_0)
  have l1_0 := rowAt_lt r1_0
  go_wp2_with fail
  refine (C2.out _).mono ?_
  rintro e w2 ⟨rfl, hb⟩
  have r2_0 : rowAt w2 (w.heap.size) = some (ints 288 r, 26) := rowKeep hb (rowPast r1_0)
  have r2_1 : rowAt w2 (w1.heap.size) = some (ints 288 F1, 26) := rowKeep hb (by simp [rowAt_alloc])
  have HB2 := Lib.hid (bthen (below_allocS HB1.out _) hb)
  clear hb r1_0
  have n2_0 := Nat.ne_of_lt (rowAt_lt r2_0)
  have l2_0 := rowAt_lt r2_0
  have n2_1 := Nat.ne_of_lt (rowAt_lt r2_1)
  have l2_1 := rowAt_lt r2_1
  go_wp2_with fail
  refine (C3.out _).mono ?_
  rintro e w3 ⟨rfl, hb⟩
  have r3_0 : rowAt w3 (w.heap.size) = some (ints 288 r, 26) := rowKeep hb (rowPast r2_0)
  have r3_1 : rowAt w3 (w1.heap.size) = some (ints 288 F1, 26) := rowKeep hb (rowPast r2_1)
  have r3_2 : rowAt w3 (w2.heap.size) = some (ints 288 F1, 26) := rowKeep hb (by simp [rowAt_alloc])
  have HB3 := Lib.hid (bthen (below_allocS HB2.out _) hb)
  clear hb r2_0 r2_1
  have n3_0 := Nat.ne_of_lt (rowAt_lt r3_0)
  have l3_0 := rowAt_lt r3_0
  have n3_1 := Nat.ne_of_lt (rowAt_lt r3_1)
  have l3_1 := rowAt_lt r3_1
  have n3_2 := Nat.ne_of_lt (rowAt_lt r3_2)
  have l3_2 := rowAt_lt r3_2
  go_wp2_with fail
  refine (C4.out _).mono ?_
  rintro e w4 ⟨rfl, hb⟩
  have r4_0 : rowAt w4 (w.heap.size) = some (ints 288 r, 26) := rowKeep hb (rowPast r3_0)
  have r4_1 : rowAt w4 (w1.heap.size) = some (ints 288 F1, 26) := rowKeep hb (rowPast r3_1)
  have r4_2 : rowAt w4 (w2.heap.size) = some (ints 288 F1, 26) := rowKeep hb (rowPast r3_2)
  have r4_3 : rowAt w4 (w3.heap.size) = some (ints 288 F2, 26) := rowKeep hb (by simp [rowAt_alloc])
  have HB4 := Lib.hid (bthen (below_allocS HB3.out _) hb)
  clear hb r3_0 r3_1 r3_2
  have n4_0 := Nat.ne_of_lt (rowAt_lt r4_0)
  have l4_0 := rowAt_lt r4_0
  have n4_1 := Nat.ne_of_lt (rowAt_lt r4_1)
  have l4_1 := rowAt_lt r4_1
  have n4_2 := Nat.ne_of_lt (rowAt_lt r4_2)
  have l4_2 := rowAt_lt r4_2
  have n4_3 := Nat.ne_of_lt (rowAt_lt r4_3)
  have l4_3 := rowAt_lt r4_3
  go_wp2_with fail
  refine (C5.out _).mono ?_
  rintro e w5 ⟨rfl, hb⟩
  have r5_0 : rowAt w5 (w.heap.size) = some (ints 288 r, 26) := rowKeep hb (rowPast r4_0)
  have r5_1 : rowAt w5 (w1.heap.size) = some (ints 288 F1, 26) := rowKeep hb (rowPast r4_1)
  have r5_2 : rowAt w5 (w2.heap.size) = some (ints 288 F1, 26) := rowKeep hb (rowPast r4_2)
  have r5_3 : rowAt w5 (w3.heap.size) = some (ints 288 F2, 26) := rowKeep hb (rowPast r4_3)
  have r5_4 : rowAt w5 (w4.heap.size) = some (ints 288 F2, 26) := rowKeep hb (by simp [rowAt_alloc])
  have HB5 := Lib.hid (bthen (below_allocS HB4.out _) hb)
  clear hb r4_0 r4_1 r4_2 r4_3
  have n5_0 := Nat.ne_of_lt (rowAt_lt r5_0)
  have l5_0 := rowAt_lt r5_0
  have n5_1 := Nat.ne_of_lt (rowAt_lt r5_1)
  have l5_1 := rowAt_lt r5_1
  have n5_2 := Nat.ne_of_lt (rowAt_lt r5_2)
  have l5_2 := rowAt_lt r5_2
  have n5_3 := Nat.ne_of_lt (rowAt_lt r5_3)
  have l5_3 := rowAt_lt r5_3
  have n5_4 := Nat.ne_of_lt (rowAt_lt r5_4)
  have l5_4 := rowAt_lt r5_4
  go_wp2_with fail
  refine (C6.out _).mono ?_
  rintro e w6 ⟨rfl, hb⟩
  have r6_0 : rowAt w6 (w.heap.size) = some (ints 288 r, 26) := rowKeep hb (rowPast r5_0)
  have r6_1 : rowAt w6 (w1.heap.size) = some (ints 288 F1, 26) := rowKeep hb (rowPast r5_1)
  have r6_2 : rowAt w6 (w2.heap.size) = some (ints 288 F1, 26) := rowKeep hb (rowPast r5_2)
  have r6_3 : rowAt w6 (w3.heap.size) = some (ints 288 F2, 26) := rowKeep hb (rowPast r5_3)
  have r6_4 : rowAt w6 (w4.heap.size) = some (ints 288 F2, 26) := rowKeep hb (rowPast r5_4)
  have r6_5 : rowAt w6 (w5.heap.size) = some (ints 288 F3, 26) := rowKeep hb (by simp [rowAt_alloc])
  have HB6 := Lib.hid (bthen (below_allocS HB5.out _) hb)
  clear hb r5_0 r5_1 r5_2 r5_3 r5_4
  have n6_0 := Nat.ne_of_lt (rowAt_lt r6_0)
  have l6_0 := rowAt_lt r6_0
  have n6_1 := Nat.ne_of_lt (rowAt_lt r6_1)
  have l6_1 := rowAt_lt r6_1
  have n6_2 := Nat.ne_of_lt (rowAt_lt r6_2)
  have l6_2 := rowAt_lt r6_2
  have n6_3 := Nat.ne_of_lt (rowAt_lt r6_3)
  have l6_3 := rowAt_lt r6_3
  have n6_4 := Nat.ne_of_lt (rowAt_lt r6_4)
  have l6_4 := rowAt_lt r6_4
  have n6_5 := Nat.ne_of_lt (rowAt_lt r6_5)
  have l6_5 := rowAt_lt r6_5
  go_upto_region 7 with fail
  refine region_seq ?_
  repeat (go_big_quiet_step ((first | (go_at_call 17; exact quiet_call (by simp) (awake3 _)))))
  refine wpQuiet_nil ?_
  intro w7 hb
  have HB7 := Lib.hid (bthen (below_allocS HB6.out _) hb)
  clear hb
  go_wp2
  go_ret
  exact ⟨by simp [*], HB7.out⟩
end Go.Proofs.Ytpicfjlcepfneaa
