/-
  The walk of VecLaws.
-/
import Derived.Test.YtlpfdokaionkjaaVecJoinsWalk
namespace Go.Proofs.Ytlpfdokaionkjaa
open Go.RowKit
attribute [local go_sem] rowCells rowAt_drewN get_ints getE_ints set_ints size_ints rowAt_alloc rowAt_drew setRow_alloc setRow_drewN setRow_drew setCell_alloc setCell_drewN splice_ints ext_ints0 extract_ints splice_all load_vec store_vec eql_vec neq_vec index_vec
attribute [local go_sem ↓] xload_vec xstore_vec xalloc_vec xeql_vec xneq_vec xindex_vec xbuild_vec0 xbuild_vec2
attribute [local go_sem] rowAt_setRow rowAt_setCell load_vec_later Later.cell Later.frozen
attribute [local go_sem] rn_true rn_false re_true re_false eqI_self

theorem rowKeep {W w' : World} (hb : Below W.heap.size W w') {g : Nat} {x : Array Value × TypeId} (h : rowAt W g = some x) : rowAt w' g = some x := (rowAt_below hb g (rowAt_lt h)).trans h
theorem rowPast {w : World} {o : Obj} {g : Nat} {x : Array Value × TypeId} (h : rowAt w g = some x) : rowAt (w.alloc o) g = some x := (rowAt_alloc_past w o g (rowAt_lt h)).trans h
theorem over_is {f g : Nat → Int} {b : Bool} (h : overB f g = b) (w : World) : Calls Try.prog 16 #[.agg (ints 16 f), .agg (ints 16 g)] w fun e w' => e = .returned (.bool b) ∧ Below w.heap.size w w' := by rw [← h]; exact over_any f g w
theorem eqI_of {n : Nat} {f g : Nat → Int} (h : ∀ i, i < n → f i = g i) : eqI n f g = true := eqI_iff.2 h
theorem joinV_comm (f g : Nat → Int) : ∀ i, i < 16 → joinV f g i = joinV g f i := by
  intro i _; unfold joinV; split <;> split <;> omega
theorem joinV_assoc (f g h : Nat → Int) : ∀ i, i < 16 → joinV (joinV f g) h i = joinV f (joinV g h) i := by
  intro i _
  unfold joinV
  by_cases h1 : f i < g i <;> by_cases h2 : g i < h i <;> by_cases h3 : f i < h i <;> simp [h1, h2, h3] <;> omega
theorem joinV_self (f : Nat → Int) : ∀ i, i < 16 → joinV f f i = f i := by
  intro i _; unfold joinV; split <;> omega
theorem joinV_left (f g : Nat → Int) : overB (joinV f g) f = true := overB_iff.2 fun i _ => by unfold joinV; split <;> omega
theorem joinV_right (f g : Nat → Int) : overB (joinV f g) g = true := overB_iff.2 fun i _ => by unfold joinV; split <;> omega
theorem joinV_least {f g h : Nat → Int} (h1 : overB h f = true) (h2 : overB h g = true) : overB h (joinV f g) = true := overB_iff.2 fun i hi => by
  have k1 := overB_iff.1 h1 i hi
  have k2 := overB_iff.1 h2 i hi
  unfold joinV; split <;> omega
set_option maxRecDepth 100000 in
set_option maxHeartbeats 2000000 in
theorem vecLaws_walk (f : Nat → Int) (_hf : ∀ i, i < 16 → -9223372036854775808 ≤ f i ∧ f i ≤ 9223372036854775807) (g : Nat → Int) (_hg : ∀ i, i < 16 → -9223372036854775808 ≤ g i ∧ g i ≤ 9223372036854775807) (h : Nat → Int) (_hh : ∀ i, i < 16 → -9223372036854775808 ≤ h i ∧ h i ≤ 9223372036854775807) (w : World) :
    Calls Try.prog 3 #[.agg (ints 16 f), .agg (ints 16 g), .agg (ints 16 h)] w fun e w' => e = .returned (.bool true) ∧ Below w.heap.size w w' := by
  clear _hf _hg _hh
  have e1 : eqI 16 (joinV f g) (joinV g f) = true := eqI_of (joinV_comm f g)
  have e2 : eqI 16 (joinV (joinV f g) h) (joinV f (joinV g h)) = true := eqI_of (joinV_assoc f g h)
  have e3 : eqI 16 (joinV f f) f = true := eqI_of (joinV_self f)
  have o1 := joinV_left f g
  have o2 := joinV_right f g
  have all : ∀ b1 b2 : Bool, overB h f = b1 → overB h g = b2 → Calls Try.prog 3 #[.agg (ints 16 f), .agg (ints 16 g), .agg (ints 16 h)] w fun e w' => e = .returned (.bool true) ∧ Below w.heap.size w w' := by
    intro b1 b2 h1 h2
    have o3 : b1 = true → b2 = true → overB h (joinV f g) = true := fun k1 k2 => joinV_least (h1.trans k1) (h2.trans k2)
    cases b1 <;> cases b2
    all_goals (try have o3' := o3 rfl rfl)
    all_goals clear o3
    all_goals
      go_enter Try.func3, Try.ntmps3
      go_wp2_with fail
      refine (join_any _ _ _).mono ?_
      rintro e w1 ⟨rfl, hb1⟩
      have r1 : rowAt w1 w.heap.size = some (ints 16 f, 23) := rowKeep hb1 (by simp [rowAt_alloc] <;> omega)
      have r2 : rowAt w1 (w.heap.size + 1) = some (ints 16 g, 23) := rowKeep hb1 (by simp [rowAt_alloc] <;> omega)
      have r3 : rowAt w1 (w.heap.size + 1 + 1) = some (ints 16 h, 23) := rowKeep hb1 (by simp [rowAt_alloc] <;> omega)
      have n1 := Nat.ne_of_lt (rowAt_lt r1)
      have n2 := Nat.ne_of_lt (rowAt_lt r2)
      have n3 := Nat.ne_of_lt (rowAt_lt r3)
      have l1 := rowAt_lt r1
      have l2 := rowAt_lt r2
      have l3 := rowAt_lt r3
      have HB1 := Lib.hid (((((Below.refl _ _).alloc (Nat.le_refl _) _).alloc (by simp) _).alloc (by simp; omega) _).trans (hb1.mono (by simp; omega)))
      clear hb1
      go_upto_region 2 with fail
      refine region_quiet (by kernel_rfl) (by kernel_rfl) ?_
      repeat (go_big_quiet_step ((first | (go_at_call 15; exact quiet_call (by simp) (join_any _ _ _)) | (go_at_call 16; exact quiet_call (by simp) (over_is (by assumption) _)) | (go_at_call 16; exact quiet_call (by simp) (over_any _ _ _)) | (go_at_call 22; exact quiet_call (by simp) (right_any _ _)) | (go_at_call 20; exact quiet_call (by simp) (rjoin_any _ _ _)) | (go_at_call 21; exact quiet_call (by simp) (rover_any _ _ _)) | (go_at_call 23; exact quiet_call (by simp) (rright_any _ _)) | (go_at_call 17; exact quiet_call (by simp) (awake2 _)))))
      refine wpQuiet_nil ?_
      intro w2 hb2
      have r1 : rowAt w2 w.heap.size = some (ints 16 f, 23) := rowKeep hb2 (rowPast r1)
      have r2 : rowAt w2 (w.heap.size + 1) = some (ints 16 g, 23) := rowKeep hb2 (rowPast r2)
      have r3 : rowAt w2 (w.heap.size + 1 + 1) = some (ints 16 h, 23) := rowKeep hb2 (rowPast r3)
      have r4 : rowAt w2 w1.heap.size = some (ints 16 (joinV f g), 23) := rowKeep hb2 (by simp [rowAt_alloc] <;> omega)
      have HB2 := Lib.hid ((HB1.out.alloc HB1.out.size _).trans (hb2.mono (by simp; omega)))
      have l1 := rowAt_lt r1
      have l2 := rowAt_lt r2
      have l3 := rowAt_lt r3
      have l4 := rowAt_lt r4
      clear hb2
      go_upto_region 4 with fail
      refine region_seq ?_
      repeat (go_big_quiet_step ((first | (go_at_call 15; exact quiet_call (by simp) (join_any _ _ _)) | (go_at_call 16; exact quiet_call (by simp) (over_is (by assumption) _)) | (go_at_call 16; exact quiet_call (by simp) (over_any _ _ _)) | (go_at_call 22; exact quiet_call (by simp) (right_any _ _)) | (go_at_call 20; exact quiet_call (by simp) (rjoin_any _ _ _)) | (go_at_call 21; exact quiet_call (by simp) (rover_any _ _ _)) | (go_at_call 23; exact quiet_call (by simp) (rright_any _ _)) | (go_at_call 17; exact quiet_call (by simp) (awake2 _)))))
      refine wpQuiet_nil ?_
      intro w3 hb3
      have HB3 := Lib.hid (bthen HB2.out hb3)
      clear hb3
      go_wp2
      go_ret
      exact ⟨by simp [*], HB3.out⟩
  exact all _ _ rfl rfl
end Go.Proofs.Ytlpfdokaionkjaa
