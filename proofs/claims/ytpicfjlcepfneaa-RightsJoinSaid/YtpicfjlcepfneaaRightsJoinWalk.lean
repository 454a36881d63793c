/-
  The walk of RightsJoin.
-/
import Derived.Test.YtpicfjlcepfneaaRRJoin
import Derived.Test.YtpicfjlcepfneaaAwake3
namespace Go.Proofs.Ytpicfjlcepfneaa
open Go.RowKit
attribute [local go_sem] rowCells rowAt_drewN get_ints getE_ints set_ints size_ints rowAt_alloc rowAt_drew setRow_alloc setRow_drewN setRow_drew setCell_alloc setCell_drewN splice_upd splice_all load_vec_cut load_vecs_cut load_rights_cut store_vec store_rights eql_vec neq_vec index_vec eql_rights neq_rights index_vecs cut_ints sub_zero
attribute [local go_sem ↓] xload_vec xstore_vec xalloc_vec xeql_vec xneq_vec xindex_vec xbuild_vec0 xload_rights xstore_rights xalloc_rights xeql_rights xneq_rights xbuild_rights0 xload_vecs xindex_vecs
attribute [local go_sem] rowAt_setRow rowAt_setCell load_vec_cut_later load_rights_later Later.cell Later.frozen
attribute [local go_sem] rn_true rn_false re_true re_false eqI_self

theorem overR_is {f g : Nat → Int} {b : Bool} (h : overR f g = b) (w : World) : Calls Try.prog 26 #[.agg (ints 288 f), .agg (ints 288 g)] w fun e w' => e = .returned (.bool b) ∧ Below w.heap.size w w' := by rw [← h]; exact overR_any f g w
theorem roverR_is {f g : Nat → Int} {b : Bool} (h : overR f g = b) (w : World) : Calls Try.prog 28 #[.agg (ints 288 f), .agg (ints 288 g)] w fun e w' => e = .returned (.bool b) ∧ Below w.heap.size w w' := by rw [← h]; exact rroverR_any f g w
theorem joinV_comm' (f g : Nat → Int) : joinV f g = joinV g f := by
  funext i; unfold joinV; split <;> split <;> omega
theorem joinV_assoc' (f g h : Nat → Int) : joinV (joinV f g) h = joinV f (joinV g h) := by
  funext i
  unfold joinV
  by_cases h1 : f i < g i <;> by_cases h2 : g i < h i <;> by_cases h3 : f i < h i <;> simp [h1, h2, h3] <;> omega
theorem joinV_self' (f : Nat → Int) : joinV f f = f := by
  funext i; unfold joinV; split <;> omega
theorem joinR_left (f g : Nat → Int) : overR (joinV f g) f = true := overR_iff.2 fun i _ => by unfold joinV; split <;> omega
theorem joinR_right (f g : Nat → Int) : overR (joinV f g) g = true := overR_iff.2 fun i _ => by unfold joinV; split <;> omega
set_option maxRecDepth 100000 in
set_option maxHeartbeats 4000000 in
theorem rightsJoin_walk (f : Nat → Int) (_hf : ∀ i, i < 288 → -9223372036854775808 ≤ f i ∧ f i ≤ 9223372036854775807) (g : Nat → Int) (_hg : ∀ i, i < 288 → -9223372036854775808 ≤ g i ∧ g i ≤ 9223372036854775807) (h : Nat → Int) (_hh : ∀ i, i < 288 → -9223372036854775808 ≤ h i ∧ h i ≤ 9223372036854775807) (w : World) :
    Calls Try.prog 9 #[.agg (ints 288 f), .agg (ints 288 g), .agg (ints 288 h)] w fun e w' => e = .returned (.bool true) ∧ Below w.heap.size w w' := by
  clear _hf _hg _hh
  have e1 : eqI 288 (joinV f g) (joinV g f) = true := by rw [joinV_comm' f g]; exact eqI_self _ _
  have e2 : eqI 288 (joinV (joinV f g) h) (joinV f (joinV g h)) = true := by rw [joinV_assoc' f g h]; exact eqI_self _ _
  have e3 : eqI 288 (joinV f f) f = true := by rw [joinV_self' f]; exact eqI_self _ _
  have o1 := joinR_left f g
  have o2 := joinR_right f g
  have all : ∀ b : Bool, overR f g = b → Calls Try.prog 9 #[.agg (ints 288 f), .agg (ints 288 g), .agg (ints 288 h)] w fun e w' => e = .returned (.bool true) ∧ Below w.heap.size w w' := by
    intro b hb
    cases b
    all_goals
      go_enter Try.func9, Try.ntmps9
      go_wp2_with fail
      refine (rjoinR_any _ _ _).mono ?_
      rintro e w1 ⟨rfl, hb1⟩
      have r1 : rowAt w1 w.heap.size = some (ints 288 f, 26) := rowKeep hb1 (by simp [rowAt_alloc] <;> omega)
      have r2 : rowAt w1 (w.heap.size + 1) = some (ints 288 g, 26) := rowKeep hb1 (by simp [rowAt_alloc] <;> omega)
      have r3 : rowAt w1 (w.heap.size + 1 + 1) = some (ints 288 h, 26) := rowKeep hb1 (by simp [rowAt_alloc] <;> omega)
      have n1 := Nat.ne_of_lt (rowAt_lt r1)
      have n2 := Nat.ne_of_lt (rowAt_lt r2)
      have n3 := Nat.ne_of_lt (rowAt_lt r3)
      have l1 := rowAt_lt r1
      have l2 := rowAt_lt r2
      have l3 := rowAt_lt r3
      have HB1 := Lib.hid (((((Below.refl _ _).alloc (Nat.le_refl _) _).alloc (by simp) _).alloc (by simp; omega) _).trans (hb1.mono (by simp; omega)))
      clear hb1
      go_upto_region 2 with fail
      refine region_quiet (by kernel_rfl) (by kernel_rfl) ?_
      repeat (go_big_quiet_step ((first | (go_at_call 25; exact quiet_call (by simp) (rjoinR_any _ _ _)) | (go_at_call 26; exact quiet_call (by simp) (overR_is (by assumption) _)) | (go_at_call 27; exact quiet_call (by simp) (rrjoin_any _ _ _)) | (go_at_call 28; exact quiet_call (by simp) (roverR_is (by assumption) _)) | (go_at_call 17; exact quiet_call (by simp) (awake3 _)))))
      refine wpQuiet_nil ?_
      intro w2 hb2
      have r1 : rowAt w2 w.heap.size = some (ints 288 f, 26) := rowKeep hb2 (rowPast r1)
      have r2 : rowAt w2 (w.heap.size + 1) = some (ints 288 g, 26) := rowKeep hb2 (rowPast r2)
      have r3 : rowAt w2 (w.heap.size + 1 + 1) = some (ints 288 h, 26) := rowKeep hb2 (rowPast r3)
      have r4 : rowAt w2 w1.heap.size = some (ints 288 (joinV f g), 26) := rowKeep hb2 (by simp [rowAt_alloc])
      have HB2 := Lib.hid ((below_allocS HB1.out _).trans (hb2.mono (by simp; omega)))
      have l1 := rowAt_lt r1
      have l2 := rowAt_lt r2
      have l3 := rowAt_lt r3
      have l4 := rowAt_lt r4
      clear hb2
      go_upto_region 4 with fail
      refine region_quiet (by kernel_rfl) (by kernel_rfl) ?_
      repeat (go_big_quiet_step ((first | (go_at_call 25; exact quiet_call (by simp) (rjoinR_any _ _ _)) | (go_at_call 26; exact quiet_call (by simp) (overR_is (by assumption) _)) | (go_at_call 27; exact quiet_call (by simp) (rrjoin_any _ _ _)) | (go_at_call 28; exact quiet_call (by simp) (roverR_is (by assumption) _)) | (go_at_call 17; exact quiet_call (by simp) (awake3 _)))))
      refine wpQuiet_nil ?_
      intro w3 hb3
      have HB3 := Lib.hid (bthen HB2.out hb3)
      clear hb3
      go_wp2
      go_ret
      exact ⟨by simp [*], HB3.out⟩
  exact all _ rfl
end Go.Proofs.Ytpicfjlcepfneaa
