/-
  The walk of RightsTell.
-/
import Derived.Test.YtpicfjlcepfneaaTotal
import Derived.Test.YtpicfjlcepfneaaAwake3
namespace Go.Proofs.Ytpicfjlcepfneaa
open Go.RowKit
attribute [local go_sem] rowCells rowAt_drewN get_ints getE_ints set_ints size_ints rowAt_alloc rowAt_drew setRow_alloc setRow_drewN setRow_drew setCell_alloc setCell_drewN splice_upd splice_all load_vec_cut load_vecs_cut load_rights_cut store_vec store_rights eql_vec neq_vec index_vec eql_rights neq_rights index_vecs cut_ints sub_zero
attribute [local go_sem ↓] xload_vec xstore_vec xalloc_vec xeql_vec xneq_vec xindex_vec xbuild_vec0 xload_rights xstore_rights xalloc_rights xeql_rights xneq_rights xbuild_rights0 xload_vecs xindex_vecs
attribute [local go_sem] rowAt_setRow rowAt_setCell load_vec_cut_later load_rights_later Later.cell Later.frozen
attribute [local go_sem] rn_true rn_false re_true re_false eqI_self

theorem rright_is {f : Nat → Int} {b : Bool} (h : rightR f = b) (w : World) : Calls Try.prog 22 #[.agg (ints 288 f)] w fun e w' => e = .returned (.bool b) ∧ Below w.heap.size w w' := by rw [← h]; exact rights_right_any f w
theorem rrright_is {f : Nat → Int} {b : Bool} (h : rightR f = b) (w : World) : Calls Try.prog 23 #[.agg (ints 288 f)] w fun e w' => e = .returned (.bool b) ∧ Below w.heap.size w w' := by rw [← h]; exact rrights_right_any f w
set_option maxRecDepth 100000 in
set_option maxHeartbeats 4000000 in
theorem rightsTell_walk (r : Nat → Int) (_hr : ∀ i, i < 288 → -9223372036854775808 ≤ r i ∧ r i ≤ 9223372036854775807) (k : Int) (_hk : -9223372036854775808 ≤ k ∧ k ≤ 9223372036854775807) (w : World) :
    Calls Try.prog 4 #[.agg (ints 288 r), .int .i64 k] w fun e w' => e = .returned (.bool true) ∧ Below w.heap.size w w' := by
  clear _hr _hk
  have c1 := free_any r k
  have c2 := rfree_any r k
  have c3 := total_any r
  have c4 := rtotal_any r
  have hrr : ∃ b, rightR r = b := ⟨_, rfl⟩
  obtain ⟨b, hb0⟩ := hrr
  generalize freeN r k = N1 at *
  generalize freeE r k = E1 at *
  generalize totalN r = N2 at *
  generalize totalE r = E2 at *
  have C1 := Lib.hid c1
  have C2 := Lib.hid c2
  have C3 := Lib.hid c3
  have C4 := Lib.hid c4
  clear c1 c2 c3 c4
  go_enter Try.func4, Try.ntmps4
  go_wp2_with fail
  refine (C1.out _).mono ?_
  rintro e w1 ⟨rfl, hb⟩
  have r1 : rowAt w1 w.heap.size = some (ints 288 r, 26) := rowKeep hb (by simp [rowAt_alloc])
  have HB1 := Lib.hid (((Below.refl _ _).alloc (Nat.le_refl _) _).trans (hb.mono (by simp)))
  clear hb
  go_wp2_with fail
  refine (C2.out _).mono ?_
  rintro e w2 ⟨rfl, hb⟩
  have r2 : rowAt w2 w.heap.size = some (ints 288 r, 26) := rowKeep hb r1
  have HB2 := Lib.hid (bthen HB1.out hb)
  clear hb r1
  go_wp2_with fail
  refine (C3.out _).mono ?_
  rintro e w3 ⟨rfl, hb⟩
  have r3 : rowAt w3 w.heap.size = some (ints 288 r, 26) := rowKeep hb r2
  have HB3 := Lib.hid (bthen HB2.out hb)
  clear hb r2
  go_wp2_with fail
  refine (C4.out _).mono ?_
  rintro e w4 ⟨rfl, hb⟩
  have r4 : rowAt w4 w.heap.size = some (ints 288 r, 26) := rowKeep hb r3
  have HB4 := Lib.hid (bthen HB3.out hb)
  clear hb r3
  have l4 := rowAt_lt r4
  go_upto_region 5 with fail
  cases b
  all_goals
    refine region_quiet (by kernel_rfl) (by kernel_rfl) ?_
    repeat (go_big_quiet_step ((first | (go_at_call 22; exact quiet_call (by simp) (rright_is hb0 _)) | (go_at_call 23; exact quiet_call (by simp) (rrright_is hb0 _)) | (go_at_call 17; exact quiet_call (by simp) (awake3 _)))))
    refine wpQuiet_nil ?_
    intro w7 hb
    have HB7 := Lib.hid (bthen HB4.out hb)
    clear hb
    go_wp2
    go_ret
    exact ⟨by simp [*], HB7.out⟩
end Go.Proofs.Ytpicfjlcepfneaa
