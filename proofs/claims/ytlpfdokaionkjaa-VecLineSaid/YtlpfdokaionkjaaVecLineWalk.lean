/-
  The walk of VecLine.
-/
import Derived.Test.YtlpfdokaionkjaaVecLawsWalk
namespace Go.Proofs.Ytlpfdokaionkjaa
open Go.RowKit
attribute [local go_sem] rowCells rowAt_drewN get_ints getE_ints set_ints size_ints rowAt_alloc rowAt_drew setRow_alloc setRow_drewN setRow_drew setCell_alloc setCell_drewN splice_ints ext_ints0 extract_ints splice_all load_vec store_vec eql_vec neq_vec index_vec
attribute [local go_sem ↓] xload_vec xstore_vec xalloc_vec xeql_vec xneq_vec xindex_vec xbuild_vec0 xbuild_vec2
attribute [local go_sem] rowAt_setRow rowAt_setCell load_vec_later Later.cell Later.frozen
attribute [local go_sem] rn_true rn_false re_true re_false eqI_self

theorem overB_self (f : Nat → Int) : overB f f = true := overB_iff.2 fun _ _ => Int.le_refl _
theorem overB_trans {f g h : Nat → Int} (h1 : overB f g = true) (h2 : overB g h = true) : overB f h = true := overB_iff.2 fun i hi => Int.le_trans (overB_iff.1 h2 i hi) (overB_iff.1 h1 i hi)
theorem overB_anti {f g : Nat → Int} (h1 : overB f g = true) (h2 : overB g f = true) : eqI 16 f g = true := eqI_iff.2 fun i hi => Int.le_antisymm (overB_iff.1 h2 i hi) (overB_iff.1 h1 i hi)
theorem overB_eq (f g : Nat → Int) : eqI 16 (joinV f g) f = overB f g := rfl
attribute [local go_sem] overB_eq overB_self
set_option maxRecDepth 100000 in
set_option maxHeartbeats 2000000 in
theorem vecLine_walk (f : Nat → Int) (_hf : ∀ i, i < 16 → -9223372036854775808 ≤ f i ∧ f i ≤ 9223372036854775807) (g : Nat → Int) (_hg : ∀ i, i < 16 → -9223372036854775808 ≤ g i ∧ g i ≤ 9223372036854775807) (h : Nat → Int) (_hh : ∀ i, i < 16 → -9223372036854775808 ≤ h i ∧ h i ≤ 9223372036854775807) (w : World) :
    Calls Try.prog 4 #[.agg (ints 16 f), .agg (ints 16 g), .agg (ints 16 h)] w fun e w' => e = .returned (.bool true) ∧ Below w.heap.size w w' := by
  clear _hf _hg _hh
  have all : ∀ b1 b2 b3 : Bool, overB f g = b1 → overB g h = b2 → overB g f = b3 → Calls Try.prog 4 #[.agg (ints 16 f), .agg (ints 16 g), .agg (ints 16 h)] w fun e w' => e = .returned (.bool true) ∧ Below w.heap.size w w' := by
    intro b1 b2 b3 h1 h2 h3
    have o0 := overB_self f
    have t : b1 = true → b2 = true → overB f h = true := fun k1 k2 => overB_trans (h1.trans k1) (h2.trans k2)
    have t2 : b1 = true → b3 = true → eqI 16 f g = true := fun k1 k2 => overB_anti (h1.trans k1) (h3.trans k2)
    cases b1 <;> cases b2 <;> cases b3
    all_goals (try have t' := t rfl rfl)
    all_goals (try have t2' := t2 rfl rfl)
    all_goals clear t t2
    all_goals
      go_enter Try.func4, Try.ntmps4
      go_wp2
      refine region_quiet (by kernel_rfl) (by kernel_rfl) ?_
      repeat (go_big_quiet_step ((first | (go_at_call 15; exact quiet_call (by simp) (join_any _ _ _)) | (go_at_call 16; exact quiet_call (by simp) (over_is (by assumption) _)) | (go_at_call 16; exact quiet_call (by simp) (over_any _ _ _)) | (go_at_call 22; exact quiet_call (by simp) (right_any _ _)) | (go_at_call 20; exact quiet_call (by simp) (rjoin_any _ _ _)) | (go_at_call 21; exact quiet_call (by simp) (rover_any _ _ _)) | (go_at_call 23; exact quiet_call (by simp) (rright_any _ _)) | (go_at_call 17; exact quiet_call (by simp) (awake2 _)))))
      refine wpQuiet_nil ?_
      intro w1 hb1
      have HB1 := Lib.hid hb1
      clear hb1
      go_wp2
      go_ret
      exact ⟨by simp [*], ((((Below.refl _ _).alloc (Nat.le_refl _) _).alloc (by simp) _).alloc (by simp; omega) _).trans (HB1.out.mono (by simp; omega))⟩
  exact all _ _ _ rfl rfl rfl
end Go.Proofs.Ytlpfdokaionkjaa
