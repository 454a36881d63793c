/-
  Layer 4 (counter): the walk of CounterDoes.
-/
import Derived.Test.YtifnjgedohdjhaaRRRAwake4
import Derived.Test.YtifnjgedohdjhaaRRRCJoin
namespace Go.Proofs.YtifnjgedohdjhaaRRR
open Go.RowKit
set_option linter.unusedSimpArgs false
attribute [local go_sem] rowCells rowAt_drewN get_ints getE_ints set_ints size_ints rowAt_alloc rowAt_drew setRow_alloc setRow_drewN setRow_drew setCell_alloc setCell_drewN splice_upd splice_put splice_all load_vec_cut load_vecs_cut load_rights_cut load_counter store_vec store_rights store_counter eql_vec neq_vec index_vec eql_rights neq_rights eql_counter index_vecs cut_ints sub_zero
attribute [local go_sem ↓] xload_vec xstore_vec xalloc_vec xeql_vec xneq_vec xindex_vec xbuild_vec0 xload_rights xstore_rights xalloc_rights xeql_rights xneq_rights xbuild_rights0 xload_vecs xindex_vecs xload_counter xstore_counter xalloc_counter xbuild_counter0 xeql_counter xbuild_counter3
attribute [local go_sem] rowAt_setRow rowAt_setCell load_vec_cut_later load_rights_later load_counter_later Later.cell Later.frozen build3_ints
attribute [local go_sem] rn_true rn_false re_true re_false eqI_self
set_option maxRecDepth 100000 in
set_option maxHeartbeats 8000000 in
theorem counterDoes_walk (c : Nat → Int) (_hc : ∀ i, i < 579 → -9223372036854775808 ≤ c i ∧ c i ≤ 9223372036854775807) (d : Nat → Int) (_hd : ∀ i, i < 579 → -9223372036854775808 ≤ d i ∧ d i ≤ 9223372036854775807) (i : Int) (_hi : -9223372036854775808 ≤ i ∧ i ≤ 9223372036854775807) (k : Int) (_hk : -9223372036854775808 ≤ k ∧ k ≤ 9223372036854775807) (n : Int) (_hn : -9223372036854775808 ≤ n ∧ n ≤ 9223372036854775807) (m : Int) (_hm : -9223372036854775808 ≤ m ∧ m ≤ 9223372036854775807) (w : World) :
    Calls Try.prog 5 #[.agg (ints 579 c), .agg (ints 579 d), .int .i64 i, .int .i64 k, .int .i64 n, .int .i64 m] w fun e w' => e = .returned (.bool true) ∧ Below w.heap.size w w' := by
  clear _hc _hd _hi _hk _hn _hm
  have c1 := inc_any c k n
  have c2 := rinc_any c k n
  have c3 := dec_any c k n
  have c4 := rdec_any c k n
  have c5 := hand_any c i k n m
  have c6 := rhand_any c i k n m
  have c7 := cjoin_any c d
  have c8 := rcjoin_any c d
  generalize incF c k n = F1 at *
  generalize incE c k n = E1 at *
  generalize decF c k n = F2 at *
  generalize decE c k n = E2 at *
  generalize handF c i k n m = F3 at *
  generalize handE c i k n m = E3 at *
  generalize cjoinF c d = F4 at *
  generalize cjoinE c d = E4 at *
  have C1 := Lib.hid c1
  have C2 := Lib.hid c2
  have C3 := Lib.hid c3
  have C4 := Lib.hid c4
  have C5 := Lib.hid c5
  have C6 := Lib.hid c6
  have C7 := Lib.hid c7
  have C8 := Lib.hid c8
  clear c1 c2 c3 c4 c5 c6 c7 c8
  go_enter Try.func5, Try.ntmps5
  go_wp2_with fail
  refine (C1.out _).mono ?_
  rintro e w1 ⟨rfl, hb⟩
  have p1 : rowAt w1 w.heap.size = some (ints 579 c, 28) := rowKeep hb (by simp [rowAt_alloc])
  have q1 : rowAt w1 (w.heap.size + 1) = some (ints 579 d, 28) := rowKeep hb (by simp [rowAt_alloc])
  have np1 := Nat.ne_of_lt (rowAt_lt p1)
  have nq1 := Nat.ne_of_lt (rowAt_lt q1)
  have HB1 := Lib.hid (below2 hb)
  clear hb
  go_wp2_with fail
  refine (C2.out _).mono ?_
  rintro e w2 ⟨rfl, hb⟩
  have p2 := rowKeep hb (rowPast p1)
  have q2 := rowKeep hb (rowPast q1)
  have r1_2 : rowAt w2 w1.heap.size = some (ints 579 F1, 28) := rowKeep hb (rowAt_alloc_at _ _ _ _ rfl)
  have np2 := Nat.ne_of_lt (rowAt_lt p2)
  have nq2 := Nat.ne_of_lt (rowAt_lt q2)
  have HB2 := Lib.hid (bthen (below_allocS HB1.out _) hb)
  clear hb p1 q1 np1 nq1
  go_wp2_with fail
  refine (C3.out _).mono ?_
  rintro e w3 ⟨rfl, hb⟩
  have p3 := rowKeep hb (rowPast p2)
  have q3 := rowKeep hb (rowPast q2)
  have r1_3 := rowKeep hb (rowPast r1_2)
  have r2_3 : rowAt w3 w2.heap.size = some (ints 579 F1, 28) := rowKeep hb (rowAt_alloc_at _ _ _ _ rfl)
  have np3 := Nat.ne_of_lt (rowAt_lt p3)
  have nq3 := Nat.ne_of_lt (rowAt_lt q3)
  have HB3 := Lib.hid (bthen (below_allocS HB2.out _) hb)
  clear hb p2 q2 np2 nq2 r1_2
  go_wp2_with fail
  refine (C4.out _).mono ?_
  rintro e w4 ⟨rfl, hb⟩
  have p4 := rowKeep hb (rowPast p3)
  have q4 := rowKeep hb (rowPast q3)
  have r1_4 := rowKeep hb (rowPast r1_3)
  have r2_4 := rowKeep hb (rowPast r2_3)
  have r3_4 : rowAt w4 w3.heap.size = some (ints 579 F2, 28) := rowKeep hb (rowAt_alloc_at _ _ _ _ rfl)
  have np4 := Nat.ne_of_lt (rowAt_lt p4)
  have nq4 := Nat.ne_of_lt (rowAt_lt q4)
  have HB4 := Lib.hid (bthen (below_allocS HB3.out _) hb)
  clear hb p3 q3 np3 nq3 r1_3 r2_3
  go_wp2_with fail
  refine (C5.out _).mono ?_
  rintro e w5 ⟨rfl, hb⟩
  have p5 := rowKeep hb (rowPast p4)
  have q5 := rowKeep hb (rowPast q4)
  have r1_5 := rowKeep hb (rowPast r1_4)
  have r2_5 := rowKeep hb (rowPast r2_4)
  have r3_5 := rowKeep hb (rowPast r3_4)
  have r4_5 : rowAt w5 w4.heap.size = some (ints 579 F2, 28) := rowKeep hb (rowAt_alloc_at _ _ _ _ rfl)
  have np5 := Nat.ne_of_lt (rowAt_lt p5)
  have nq5 := Nat.ne_of_lt (rowAt_lt q5)
  have HB5 := Lib.hid (bthen (below_allocS HB4.out _) hb)
  clear hb p4 q4 np4 nq4 r1_4 r2_4 r3_4
  go_wp2_with fail
  refine (C6.out _).mono ?_
  rintro e w6 ⟨rfl, hb⟩
  have p6 := rowKeep hb (rowPast p5)
  have q6 := rowKeep hb (rowPast q5)
  have r1_6 := rowKeep hb (rowPast r1_5)
  have r2_6 := rowKeep hb (rowPast r2_5)
  have r3_6 := rowKeep hb (rowPast r3_5)
  have r4_6 := rowKeep hb (rowPast r4_5)
  have r5_6 : rowAt w6 w5.heap.size = some (ints 579 F3, 28) := rowKeep hb (rowAt_alloc_at _ _ _ _ rfl)
  have np6 := Nat.ne_of_lt (rowAt_lt p6)
  have nq6 := Nat.ne_of_lt (rowAt_lt q6)
  have HB6 := Lib.hid (bthen (below_allocS HB5.out _) hb)
  clear hb p5 q5 np5 nq5 r1_5 r2_5 r3_5 r4_5
  go_wp2_with fail
  refine (C7.out _).mono ?_
  rintro e w7 ⟨rfl, hb⟩
  have p7 := rowKeep hb (rowPast p6)
  have q7 := rowKeep hb (rowPast q6)
  have r1_7 := rowKeep hb (rowPast r1_6)
  have r2_7 := rowKeep hb (rowPast r2_6)
  have r3_7 := rowKeep hb (rowPast r3_6)
  have r4_7 := rowKeep hb (rowPast r4_6)
  have r5_7 := rowKeep hb (rowPast r5_6)
  have r6_7 : rowAt w7 w6.heap.size = some (ints 579 F3, 28) := rowKeep hb (rowAt_alloc_at _ _ _ _ rfl)
  have np7 := Nat.ne_of_lt (rowAt_lt p7)
  have nq7 := Nat.ne_of_lt (rowAt_lt q7)
  have HB7 := Lib.hid (bthen (below_allocS HB6.out _) hb)
  clear hb p6 q6 np6 nq6 r1_6 r2_6 r3_6 r4_6 r5_6
  go_wp2_with fail
  refine (C8.out _).mono ?_
  rintro e w8 ⟨rfl, hb⟩
  have p8 := rowKeep hb (rowPast p7)
  have q8 := rowKeep hb (rowPast q7)
  have r1_8 := rowKeep hb (rowPast r1_7)
  have r2_8 := rowKeep hb (rowPast r2_7)
  have r3_8 := rowKeep hb (rowPast r3_7)
  have r4_8 := rowKeep hb (rowPast r4_7)
  have r5_8 := rowKeep hb (rowPast r5_7)
  have r6_8 := rowKeep hb (rowPast r6_7)
  have r7_8 : rowAt w8 w7.heap.size = some (ints 579 F4, 28) := rowKeep hb (rowAt_alloc_at _ _ _ _ rfl)
  have np8 := Nat.ne_of_lt (rowAt_lt p8)
  have nq8 := Nat.ne_of_lt (rowAt_lt q8)
  have HB8 := Lib.hid (bthen (below_allocS HB7.out _) hb)
  clear hb p7 q7 np7 nq7 r1_7 r2_7 r3_7 r4_7 r5_7 r6_7
  have n1 := rowAt_lt r1_8
  have m1 := Nat.ne_of_lt n1
  have n2 := rowAt_lt r2_8
  have m2 := Nat.ne_of_lt n2
  have n3 := rowAt_lt r3_8
  have m3 := Nat.ne_of_lt n3
  have n4 := rowAt_lt r4_8
  have m4 := Nat.ne_of_lt n4
  have n5 := rowAt_lt r5_8
  have m5 := Nat.ne_of_lt n5
  have n6 := rowAt_lt r6_8
  have m6 := Nat.ne_of_lt n6
  have n7 := rowAt_lt r7_8
  have m7 := Nat.ne_of_lt n7
  clear p8 q8 np8 nq8
  go_upto_region 9 with fail
  refine region_seq ?_
  repeat (go_big_quiet_step ((first | (go_at_call 9; exact quiet_call (by simp) (awake4 _)))))
  refine wpQuiet_nil ?_
  intro w9 hb9
  have HB9 := Lib.hid (bthen (below_allocS HB8.out _) hb9)
  clear hb9
  go_wp2
  go_ret
  exact ⟨rfl, HB9.out⟩
end Go.Proofs.YtifnjgedohdjhaaRRR
