/-
  Layer 3 (rights): Over; the reference's Join and Over.
-/
import Derived.Test.YtpicfjlcepfneaaRJoin
import Derived.WalkMore
namespace Go.Proofs.Ytpicfjlcepfneaa
open Go.RowKit
attribute [local go_sem] rowCells rowAt_drewN get_ints getE_ints set_ints size_ints rowAt_alloc rowAt_drew setRow_alloc setRow_drewN setRow_drew setCell_alloc setCell_drewN splice_upd splice_all load_vec_cut load_vecs_cut load_rights_cut store_vec store_rights eql_vec neq_vec index_vec eql_rights neq_rights index_vecs cut_ints sub_zero
attribute [local go_sem ↓] xload_vec xstore_vec xalloc_vec xeql_vec xneq_vec xindex_vec xbuild_vec0 xload_rights xstore_rights xalloc_rights xeql_rights xneq_rights xbuild_rights0 xload_vecs xindex_vecs
attribute [local go_sem] rowAt_setRow rowAt_setCell load_vec_cut_later load_rights_later Later.cell Later.frozen
attribute [local go_sem] rn_true rn_false re_true re_false eqI_self

theorem over_is {f g : Nat → Int} {b : Bool} (h : overB f g = b) (w : World) : Calls Try.prog 40 #[.agg (ints 16 f), .agg (ints 16 g)] w fun e w' => e = .returned (.bool b) ∧ Below w.heap.size w w' := by rw [← h]; exact over_any f g w
def overR (a b : Nat → Int) : Bool := eqI 288 (joinV a b) a
theorem overR_iff {a b : Nat → Int} : overR a b = true ↔ ∀ i, i < 288 → b i ≤ a i := by
  unfold overR
  rw [eqI_iff]
  constructor
  · intro h i hi
    have := joinV_same.1 (h i hi)
    omega
  · intro h i hi
    have := h i hi
    exact joinV_same.2 (by omega)
theorem overR_no {a b : Nat → Int} (o : Nat) (ho : o + 16 ≤ 288) (h : overB (sub o a) (sub o b) = false) : overR a b = false := by
  cases hr : overR a b with
  | false => rfl
  | true =>
    have : overB (sub o a) (sub o b) = true := overB_iff.2 fun i hi => overR_iff.1 hr (o + i) (by omega)
    rw [this] at h; cases h
theorem overR_yes {a b : Nat → Int} (h1 : overB a b = true) (h2 : overB (sub 16 a) (sub 16 b) = true) (h3 : ∀ j, j < 16 → overB (sub (32 + j * 16) a) (sub (32 + j * 16) b) = true) : overR a b = true :=
  overR_iff.2 fun i hi => by
    by_cases c1 : i < 16
    · exact overB_iff.1 h1 i c1
    · by_cases c2 : i < 32
      · have := overB_iff.1 h2 (i - 16) (by omega)
        simp only [sub, show 16 + (i - 16) = i by omega] at this
        exact this
      · have hd : 32 + (i - 32) / 16 * 16 + (i - 32) % 16 = i := by omega
        have := overB_iff.1 (h3 ((i - 32) / 16) (by omega)) ((i - 32) % 16) (by omega)
        simp only [sub, hd] at this
        exact this
set_option maxHeartbeats 4000000 in
theorem overR_any (a b : Nat → Int) (w : World) : Calls Try.prog 26 #[.agg (ints 288 a), .agg (ints 288 b)] w fun e w' => e = .returned (.bool (overR a b)) ∧ Below w.heap.size w w' := by
  have all : ∀ b1 b2 : Bool, overB a b = b1 → overB (sub 16 a) (sub 16 b) = b2 → Calls Try.prog 26 #[.agg (ints 288 a), .agg (ints 288 b)] w fun e w' => e = .returned (.bool (overR a b)) ∧ Below w.heap.size w w' := by
    intro b1 b2 h1 h2
    have hno : (b1 && b2) = false → overR a b = false := by
      intro h
      cases b1
      · exact overR_no 0 (by omega) (by rw [sub_zero, sub_zero]; exact h1)
      · cases b2
        · exact overR_no 16 (by omega) h2
        · cases h
    have hyes : (b1 && b2) = true → (∀ j, j < 16 → overB (sub (32 + j * 16) a) (sub (32 + j * 16) b) = true) → overR a b = true := by
      intro h h3
      obtain ⟨k1, k2⟩ := Bool.and_eq_true_iff.1 h
      exact overR_yes (h1.trans k1) (h2.trans k2) h3
    obtain ⟨ov, hov⟩ : ∃ ov : Bool, ov = (b1 && b2) := ⟨_, rfl⟩
    have HN := Lib.hid hno
    have HY := Lib.hid hyes
    clear hno hyes
    cases b1 <;> cases b2
    all_goals
      go_enter Try.func26, Try.ntmps26
      go_upto_region 1 with fail
      go_step3
      go_upto_region 1 with fail
      refine region_seq ?_
      repeat (go_big_quiet_step ((first | (go_at_call 40; exact quiet_call (by simp) (over_is (by assumption) _)))))
      refine wpQuiet_nil ?_
      intro w1 hb1
      have r1 : rowAt w1 w.heap.size = some (ints 288 a, 26) := rowKeep hb1 (by simp [rowAt_alloc] <;> omega)
      have r2 : rowAt w1 (w.heap.size + 1) = some (ints 288 b, 26) := rowKeep hb1 (by simp [rowAt_alloc] <;> omega)
      have HB1 := Lib.hid ((((Below.refl _ _).alloc (Nat.le_refl _) _).alloc (by simp) _).trans (hb1.mono (by simp; omega)))
      clear hb1
      go_wp2_with fail
      go_step3
      go_wp2_with fail
      go_loopw [5, 19] (fun v i w' => v = .bool ov ∧ ∃ k : Nat, k ≤ 16 ∧ i = .int .i64 k ∧ (∀ j, j < k → overB (sub (32 + j * 16) a) (sub (32 + j * 16) b) = true) ∧ rowAt w' w.heap.size = some (ints 288 a, 26) ∧ rowAt w' (w.heap.size + 1) = some (ints 288 b, 26) ∧
          Below w.heap.size w w') (fun _ i _ => 16 - (intOf i).toNat)
      case atStart => exact ⟨by rw [hov]; rfl, 0, by omega, rfl, fun j hj => by omega, r1, r2, HB1.out⟩
      case round =>
        rename_i wr
        obtain ⟨rfl, k, hk, rfl, hall, q1, q2, hb⟩ := hrel
        have HB := Lib.hid hb
        have HA := Lib.hid hall
        have l1 := rowAt_lt q1
        have l2 := rowAt_lt q2
        clear hb hall r1 r2 HB1
        by_cases hlt : k < 16
        · have hle : 32 + k * 16 + 16 ≤ 288 := by omega
          cases h3 : overB (sub (32 + k * 16) a) (sub (32 + k * 16) b)
          all_goals
            go_wp2_with fail
            refine region_quiet (by kernel_rfl) (by kernel_rfl) ?_
            repeat (go_big_quiet_step ((first | (go_at_call 40; exact quiet_call (by simp) (over_is (by assumption) _)))))
            refine wpQuiet_nil ?_
            intro w3 hb3
            have p1 := rowKeep hb3 q1
            have p2 := rowKeep hb3 q2
            have HB3 := Lib.hid (bthen HB.out hb3)
            clear hb3 q1 q2 HB
            go_wp2_with fail
          · rw [Exit.noGoto_ret]
            go_ret
            exact ⟨by rw [overR_no _ hle h3]; rfl, HB3.out⟩
          · go_roundw
            case rel =>
              refine ⟨rfl, k + 1, by omega, by go_num, fun j hj => ?_, p1, p2, HB3.out⟩
              by_cases hjk : j = k
              · rw [hjk]; exact h3
              · exact HA.out j (by omega)
            case measure => simp [intOf]; omega
        · obtain rfl : k = 16 := by omega
          go_wp2_with fail
          rw [Exit.noGoto_ret]
          go_ret
          refine ⟨?_, HB.out⟩
          first | (rw [HN.out rfl, hov]; rfl) | (rw [HY.out rfl HA.out, hov]; rfl)
  exact all _ _ rfl rfl
end Go.Proofs.Ytpicfjlcepfneaa
