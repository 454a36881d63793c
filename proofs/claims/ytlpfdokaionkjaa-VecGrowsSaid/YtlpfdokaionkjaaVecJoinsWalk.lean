/-
  The walk of VecJoins.
-/
import Derived.Test.YtlpfdokaionkjaaAwake2
namespace Go.Proofs.Ytlpfdokaionkjaa
open Go.RowKit
attribute [local go_sem] rowCells rowAt_drewN get_ints getE_ints set_ints size_ints rowAt_alloc rowAt_drew setRow_alloc setRow_drewN setRow_drew setCell_alloc setCell_drewN splice_ints ext_ints0 extract_ints splice_all load_vec store_vec eql_vec neq_vec index_vec
attribute [local go_sem ↓] xload_vec xstore_vec xalloc_vec xeql_vec xneq_vec xindex_vec xbuild_vec0 xbuild_vec2
attribute [local go_sem] rowAt_setRow rowAt_setCell load_vec_later Later.cell Later.frozen
attribute [local go_sem] rn_true rn_false re_true re_false eqI_self

set_option maxRecDepth 100000 in
set_option maxHeartbeats 2000000 in
theorem vecJoins_walk (f : Nat → Int) (_hf : ∀ i, i < 16 → -9223372036854775808 ≤ f i ∧ f i ≤ 9223372036854775807) (g : Nat → Int) (_hg : ∀ i, i < 16 → -9223372036854775808 ≤ g i ∧ g i ≤ 9223372036854775807) (w : World) :
    Calls Try.prog 6 #[.agg (ints 16 f), .agg (ints 16 g)] w fun e w' => e = .returned (.bool true) ∧ Below w.heap.size w w' := by
  clear _hf _hg
  go_enter Try.func6, Try.ntmps6
  go_wp2
  refine region_quiet (by kernel_rfl) (by kernel_rfl) ?_
  repeat (go_big_quiet_step ((first | (go_at_call 15; exact quiet_call (by simp) (join_any _ _ _)) | (go_at_call 16; exact quiet_call (by simp) (over_any _ _ _)) | (go_at_call 22; exact quiet_call (by simp) (right_any _ _)) | (go_at_call 20; exact quiet_call (by simp) (rjoin_any _ _ _)) | (go_at_call 21; exact quiet_call (by simp) (rover_any _ _ _)) | (go_at_call 23; exact quiet_call (by simp) (rright_any _ _)) | (go_at_call 17; exact quiet_call (by simp) (awake2 _)))))
  refine wpQuiet_nil ?_
  intro w1 hb1
  have HB1 := Lib.hid hb1
  clear hb1
  go_wp2
  go_ret
  exact ⟨by simp, (((Below.refl _ _).alloc (Nat.le_refl _) _).alloc (by simp) _).trans (HB1.out.mono (by simp; omega))⟩
end Go.Proofs.Ytlpfdokaionkjaa
