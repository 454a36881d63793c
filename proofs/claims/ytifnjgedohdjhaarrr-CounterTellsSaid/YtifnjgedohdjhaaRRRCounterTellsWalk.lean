/-
  Layer 4 (counter): the walk of CounterTells.
-/
import Derived.Test.YtifnjgedohdjhaaRRRAwake4
import Derived.Test.YtifnjgedohdjhaaRRRCRoom
namespace Go.Proofs.YtifnjgedohdjhaaRRR
open Go.RowKit
set_option linter.unusedSimpArgs false
attribute [local go_sem] rowCells rowAt_drewN get_ints getE_ints set_ints size_ints rowAt_alloc rowAt_drew setRow_alloc setRow_drewN setRow_drew setCell_alloc setCell_drewN splice_upd splice_put splice_all load_vec_cut load_vecs_cut load_rights_cut load_counter store_vec store_rights store_counter eql_vec neq_vec index_vec eql_rights neq_rights eql_counter index_vecs cut_ints sub_zero
attribute [local go_sem ↓] xload_vec xstore_vec xalloc_vec xeql_vec xneq_vec xindex_vec xbuild_vec0 xload_rights xstore_rights xalloc_rights xeql_rights xneq_rights xbuild_rights0 xload_vecs xindex_vecs xload_counter xstore_counter xalloc_counter xbuild_counter0 xeql_counter xbuild_counter3
attribute [local go_sem] rowAt_setRow rowAt_setCell load_vec_cut_later load_rights_later load_counter_later Later.cell Later.frozen build3_ints
attribute [local go_sem] rn_true rn_false re_true re_false eqI_self
theorem cright_at {c : Nat → Int} {b : Bool} (h : rightC c = b) (w : World) : Calls Try.prog 8 #[.agg (ints 579 c)] w fun e w' => e = .returned (.bool b) ∧ Below w.heap.size w w' := by rw [← h]; exact cright_any c w
theorem crright_at {c : Nat → Int} {b : Bool} (h : rightC c = b) (w : World) : Calls Try.prog 14 #[.agg (ints 579 c)] w fun e w' => e = .returned (.bool b) ∧ Below w.heap.size w w' := by rw [← h]; exact crright_any c w
set_option maxRecDepth 100000 in
set_option maxHeartbeats 4000000 in
theorem counterTells_walk (c : Nat → Int) (_hc : ∀ i, i < 579 → -9223372036854775808 ≤ c i ∧ c i ≤ 9223372036854775807) (k : Int) (_hk : -9223372036854775808 ≤ k ∧ k ≤ 9223372036854775807) (w : World) :
    Calls Try.prog 4 #[.agg (ints 579 c), .int .i64 k] w fun e w' => e = .returned (.bool true) ∧ Below w.heap.size w w' := by
  clear _hc _hk
  have c1 := value_any c
  have c2 := rvalue_any c
  have c3 := room_any c k
  have c4 := rfree_any (sub 3 c) k
  have c5 := rfree_any (sub 291 c) k
  obtain ⟨b, hb0⟩ : ∃ b, rightC c = b := ⟨_, rfl⟩
  generalize sumN (valL c) = N1 at *
  generalize sumE (valL c) = E1 at *
  generalize freeN (sub 3 c) k = N2 at *
  generalize freeE (sub 3 c) k = E2 at *
  generalize freeN (sub 291 c) k = N3 at *
  generalize freeE (sub 291 c) k = E3 at *
  have C1 := Lib.hid c1
  have C2 := Lib.hid c2
  have C3 := Lib.hid c3
  have C4 := Lib.hid c4
  have C5 := Lib.hid c5
  clear c1 c2 c3 c4 c5
  go_enter Try.func4, Try.ntmps4
  go_wp2_with fail
  refine (C1.out _).mono ?_
  rintro e w1 ⟨rfl, hb⟩
  have r1 : rowAt w1 w.heap.size = some (ints 579 c, 28) := rowKeep hb (by simp [rowAt_alloc])
  have HB1 := Lib.hid (((Below.refl _ _).alloc (Nat.le_refl _) _).trans (hb.mono (by simp)))
  clear hb
  go_wp2_with fail
  refine (C2.out _).mono ?_
  rintro e w2 ⟨rfl, hb⟩
  have r2 : rowAt w2 w.heap.size = some (ints 579 c, 28) := rowKeep hb r1
  have HB2 := Lib.hid (bthen HB1.out hb)
  clear hb r1
  go_wp2_with fail
  refine (C3.out _).mono ?_
  rintro e w3 ⟨rfl, hb⟩
  have r3 : rowAt w3 w.heap.size = some (ints 579 c, 28) := rowKeep hb r2
  have HB3 := Lib.hid (bthen HB2.out hb)
  clear hb r2
  go_wp2_with fail
  refine (C4.out _).mono ?_
  rintro e w4 ⟨rfl, hb⟩
  have r4 : rowAt w4 w.heap.size = some (ints 579 c, 28) := rowKeep hb r3
  have HB4 := Lib.hid (bthen HB3.out hb)
  clear hb r3
  go_wp2_with fail
  refine (C5.out _).mono ?_
  rintro e w5 ⟨rfl, hb⟩
  have r5 : rowAt w5 w.heap.size = some (ints 579 c, 28) := rowKeep hb r4
  have HB5 := Lib.hid (bthen HB4.out hb)
  clear hb r4
  have l5 := rowAt_lt r5
  go_upto_region 6 with fail
  cases b
  all_goals
    first | refine region_quiet (by kernel_rfl) (by kernel_rfl) ?_ | refine region_seq ?_
    repeat (go_big_quiet_step ((first | (go_at_call 8; exact quiet_call (by simp) (cright_at hb0 _)) | (go_at_call 14; exact quiet_call (by simp) (crright_at hb0 _)) | (go_at_call 9; exact quiet_call (by simp) (awake4 _)))))
    refine wpQuiet_nil ?_
    intro w7 hb
    have HB7 := Lib.hid (bthen HB5.out hb)
    clear hb
    go_wp2
    go_ret
    exact ⟨by simp [*], HB7.out⟩
end Go.Proofs.YtifnjgedohdjhaaRRR
