/-
  Layer 3 (rights): Right; the reference's.
-/
import Derived.Test.YtpjichkigccfnaaRMove
namespace Go.Proofs.Ytpjichkigccfnaa
set_option maxRecDepth 20000
open Go.RowKit
attribute [local go_sem] rowCells rowAt_drewN get_ints getE_ints set_ints size_ints rowAt_alloc rowAt_drew setRow_alloc setRow_drewN setRow_drew setCell_alloc setCell_drewN splice_upd splice_all load_vec_cut load_vecs_cut load_rights_cut store_vec store_rights eql_vec neq_vec index_vec eql_rights neq_rights index_vecs cut_ints sub_zero
attribute [local go_sem ↓] xload_vec xstore_vec xalloc_vec xeql_vec xneq_vec xindex_vec xbuild_vec0 xload_rights xstore_rights xalloc_rights xeql_rights xneq_rights xbuild_rights0 xload_vecs xindex_vecs
attribute [local go_sem] rowAt_setRow rowAt_setCell load_vec_cut_later load_rights_later Later.cell Later.frozen
attribute [local go_sem] rn_true rn_false re_true re_false eqI_self

attribute [local go_sem] sub_sub
/-- One row of what was moved may be. -/
def rowB (r : Nat → Int) (k : Nat) : Bool := rightV (sub (32 + k * 16) r) && decide (mv r k k = 0)
def rightTo (r : Nat → Int) (n : Nat) : Bool := (rightV (sub 0 r) && rightV (sub 16 r)) && (List.range n).all (rowB r)
/-- Rights that may be. -/
def rightR (r : Nat → Int) : Bool := rightTo r 16
theorem rightTo_succ (r : Nat → Int) (n : Nat) : rightTo r (n + 1) = (rightTo r n && rowB r n) := by
  simp only [rightTo, List.range_succ, List.all_append, List.all_cons, List.all_nil, Bool.and_true, Bool.and_assoc]
theorem rightTo_le {r : Nat → Int} {n m : Nat} (h : n ≤ m) (hr : rightTo r n = false) : rightTo r m = false := by
  induction h with
  | refl => exact hr
  | step _ ih => rw [rightTo_succ, ih]; rfl
theorem vright_is {f : Nat → Int} {b : Bool} (h : rightV f = b) (w : World) : Calls Try.prog 107 #[.agg (ints 16 f)] w fun e w' => e = .returned (.bool b) ∧ Below w.heap.size w w' := by rw [← h]; exact right_any f w
theorem rvright_is {f : Nat → Int} {b : Bool} (h : rightV f = b) (w : World) : Calls Try.prog 104 #[.agg (ints 16 f)] w fun e w' => e = .returned (.bool b) ∧ Below w.heap.size w w' := by rw [← h]; exact rright_any f w
set_option maxHeartbeats 2000000 in
theorem rrights_no (r : Nat → Int) (w : World) (h : (rightV r && rightV (sub 16 r)) = false) : Calls Try.prog 98 #[.agg (ints 288 r)] w fun e w' => e = .returned (.bool false) ∧ Below w.heap.size w w' := by
  have all : ∀ b1 b2 : Bool, rightV r = b1 → rightV (sub 16 r) = b2 → (b1 && b2) = false → Calls Try.prog 98 #[.agg (ints 288 r)] w fun e w' => e = .returned (.bool false) ∧ Below w.heap.size w w' := by
    intro b1 b2 h1 h2 hb
    cases b1 <;> cases b2
    case true.true => cases hb
    all_goals
      clear hb h
      go_enter Try.func98, Try.ntmps98
      go_upto_region 1 with fail
      refine region_seq ?_
      repeat (go_big_quiet_step ((first | (go_at_call 107; exact quiet_call (by simp) (vright_is (by assumption) _)))))
      refine wpQuiet_nil ?_
      intro w1 hb1
      have HB1 := Lib.hid (((Below.refl _ _).alloc (Nat.le_refl _) _).trans (hb1.mono (by simp)))
      clear hb1
      go_wp2
      go_ret
      exact ⟨rfl, HB1.out⟩
  exact all _ _ rfl rfl h
set_option maxHeartbeats 2000000 in
theorem rights_right_any (r : Nat → Int) (w : World) : Calls Try.prog 98 #[.agg (ints 288 r)] w fun e w' => e = .returned (.bool (rightR r)) ∧ Below w.heap.size w w' := by
  cases h : (rightV r && rightV (sub 16 r))
  · have : rightR r = false := rightTo_le (Nat.zero_le _) (by rw [rightTo, sub_zero, h]; rfl)
    rw [this]
    exact rrights_no r w h
  · have h00 : rightTo r 0 = true := by rw [rightTo, sub_zero, h]; rfl
    obtain ⟨h1, h2⟩ := Bool.and_eq_true_iff.1 h
    clear h
    go_enter Try.func98, Try.ntmps98
    go_upto_region 1 with fail
    refine region_seq ?_
    repeat (go_big_quiet_step ((first | (go_at_call 107; exact quiet_call (by simp) (vright_is (by assumption) _)))))
    refine wpQuiet_nil ?_
    intro w1 hb1
    have r1 : rowAt w1 w.heap.size = some (ints 288 r, 43) := rowKeep hb1 (by simp [rowAt_alloc] <;> omega)
    have HB1 := Lib.hid hb1
    have hz1 := hb1.size
    rw [World.size_alloc] at hz1
    rw [World.size_alloc] at HB1
    clear hb1
    go_wp2_with fail
    go_loopw [17] (fun i w' => ∃ k : Nat, k ≤ 16 ∧ i = .int .i64 k ∧ rightTo r k = true ∧ Below (w.heap.size + 1) (w.alloc (.cells (ints 288 r) 43)) w') (fun i _ => 16 - (intOf i).toNat)
    case atStart => exact ⟨0, by omega, rfl, h00, HB1.out⟩
    case round =>
      rename_i wr
      obtain ⟨k, hk, rfl, hto, hb⟩ := hrel
      have HB := Lib.hid hb
      have hz := hb.size
      rw [World.size_alloc] at hz
      clear hb
      by_cases hlt : k < 16
      · have hto1 := rightTo_succ r k
        rw [hto, Bool.true_and] at hto1
        have HT := Lib.hid hto1
        clear hto1 r1
        cases h3 : rightV (sub (32 + k * 16) r)
        · go_upto_region 6 with fail
          refine region_seq ?_
          repeat (go_big_quiet_step ((first | (go_at_call 107; exact quiet_call (by simp) (vright_is (by assumption) _)))))
          refine wpQuiet_nil ?_
          intro w2 hb2
          have HB2 := Lib.hid ((HB.out.alloc hz _).trans (hb2.mono (by simp; omega)))
          clear hb2
          go_wp2
          go_ret
          refine ⟨?_, ((Below.refl _ _).alloc (Nat.le_refl _) _).trans (HB2.out.mono (by omega))⟩
          rw [show rightR r = false from rightTo_le (show k + 1 ≤ 16 by omega) (by rw [HT.out, rowB, h3]; rfl)]
          rfl
        · have hm : mv r k k = sub (32 + k * 16) r k := rfl
          by_cases h4 : mv r k k = 0
          · have h5 := h4
            rw [hm] at h5
            go_upto_region 6 with fail
            refine region_seq ?_
            repeat (go_big_quiet_step ((first | (go_at_call 107; exact quiet_call (by simp) (vright_is (by assumption) _)))))
            refine wpQuiet_nil ?_
            intro w2 hb2
            have HB2 := Lib.hid ((HB.out.alloc hz _).trans (hb2.mono (by simp; omega)))
            clear hb2
            go_wp2
            go_roundw
            case rel => exact ⟨k + 1, by omega, by go_num, by rw [HT.out, rowB, h3, h4]; rfl, HB2.out⟩
            case measure => simp [intOf]; omega
          · have h5 : ¬ sub (32 + k * 16) r k = 0 := h4
            have h6 : (sub (32 + k * 16) r k == 0) = false := beq_eq_false_iff_ne.2 h5
            have h7 : decide (sub (32 + k * 16) r k = 0) = false := decide_eq_false h5
            go_upto_region 6 with fail
            refine region_seq ?_
            repeat (go_big_quiet_step ((first | (go_at_call 107; exact quiet_call (by simp) (vright_is (by assumption) _)))))
            refine wpQuiet_nil ?_
            intro w2 hb2
            have HB2 := Lib.hid ((HB.out.alloc hz _).trans (hb2.mono (by simp; omega)))
            clear hb2
            go_wp2
            go_ret
            refine ⟨?_, ((Below.refl _ _).alloc (Nat.le_refl _) _).trans (HB2.out.mono (by omega))⟩
            rw [show rightR r = false from rightTo_le (show k + 1 ≤ 16 by omega) (by rw [HT.out, rowB, h3, decide_eq_false h4]; rfl)]
            rfl
      · obtain rfl : k = 16 := by omega
        clear r1
        go_wp2
        go_ret
        refine ⟨?_, ((Below.refl _ _).alloc (Nat.le_refl _) _).trans (HB.out.mono (by omega))⟩
        rw [show rightR r = true from hto]
        rfl
set_option maxHeartbeats 2000000 in
theorem rrights_right_any (r : Nat → Int) (w : World) : Calls Try.prog 93 #[.agg (ints 288 r)] w fun e w' => e = .returned (.bool (rightR r)) ∧ Below w.heap.size w w' := by
  have all : ∀ b1 b2 : Bool, rightV r = b1 → rightV (sub 16 r) = b2 → Calls Try.prog 93 #[.agg (ints 288 r)] w fun e w' => e = .returned (.bool (rightR r)) ∧ Below w.heap.size w w' := by
    intro b1 b2 h1 h2
    have h00 : rightTo r 0 = (b1 && b2) := by rw [rightTo, sub_zero, h1, h2]; simp
    cases b1 <;> cases b2
    all_goals
      go_enter Try.func93, Try.ntmps93
      go_upto_region 1 with fail
      refine region_seq ?_
      repeat (go_big_quiet_step ((first | (go_at_call 104; exact quiet_call (by simp) (rvright_is (by assumption) _)))))
      refine wpQuiet_nil ?_
      intro w1 hb1
      have r1 : rowAt w1 w.heap.size = some (ints 288 r, 43) := rowKeep hb1 (by simp [rowAt_alloc] <;> omega)
      have HB1 := Lib.hid hb1
      have hz1 := hb1.size
      rw [World.size_alloc] at hz1
      rw [World.size_alloc] at HB1
      clear hb1
      go_wp2_with fail
      go_loopw [3, 4] (fun v i w' => ∃ k : Nat, k ≤ 16 ∧ i = .int .i64 k ∧ v = .bool (rightTo r k) ∧ Below (w.heap.size + 1) (w.alloc (.cells (ints 288 r) 43)) w') (fun _ i _ => 16 - (intOf i).toNat)
      case atStart => exact ⟨0, by omega, rfl, by rw [h00]; rfl, HB1.out⟩
      case round =>
        rename_i wr
        obtain ⟨k, hk, rfl, rfl, hb⟩ := hrel
        have r2 : rowAt wr w.heap.size = some (ints 288 r, 43) := (rowAt_below hb _ (by omega)).trans (rowAt_alloc_at _ _ _ _ rfl)
        have HB := Lib.hid hb
        have hz := hb.size
        rw [World.size_alloc] at hz
        clear hb r1
        by_cases hlt : k < 16
        · have HT := Lib.hid (rightTo_succ r k)
          have hle : 32 + k * 16 + 16 ≤ 288 := by omega
          have hg : w.heap.size < wr.heap.size := by omega
          have hkk : 32 + k * 16 + k < 288 := by omega
          have hc1 : wr.cell? ⟨w.heap.size, 32 + k * 16 + k, none⟩ = some (.int .i64 (mv r k k)) := by rw [cell_of_rowAt r2]; exact get_ints 288 r _ hkk
          cases hto : rightTo r k
          · go_upto_region 5 with fail
            refine region_seq ?_
            repeat (go_big_quiet_step ((first | (go_at_call 104; exact quiet_call (by simp) (rvright_is (by assumption) _)))))
            refine wpQuiet_nil ?_
            intro w2 hb2
            have HB2 := Lib.hid (HB.out.trans (hb2.mono hz))
            clear hb2
            go_wp2
            go_roundw
            case rel => exact ⟨k + 1, by omega, by go_num, by rw [HT.out, hto]; rfl, HB2.out⟩
            case measure => simp [intOf]; omega
          · cases h3 : rightV (sub (32 + k * 16) r)
            · go_upto_region 5 with fail
              refine region_seq ?_
              repeat (go_big_quiet_step ((first | (go_at_call 104; exact quiet_call (by simp) (rvright_is (by assumption) _)))))
              refine wpQuiet_nil ?_
              intro w2 hb2
              have HB2 := Lib.hid (HB.out.trans (hb2.mono hz))
              clear hb2
              go_wp2
              go_roundw
              case rel => exact ⟨k + 1, by omega, by go_num, by rw [HT.out, hto, rowB, h3]; rfl, HB2.out⟩
              case measure => simp [intOf]; omega
            · go_upto_region 5 with fail
              refine region_seq ?_
              repeat (go_big_quiet_step ((first | (go_at_call 104; exact quiet_call (by simp) (rvright_is (by assumption) _)))))
              refine wpQuiet_nil ?_
              intro w2 hb2
              have HB2 := Lib.hid (HB.out.trans (hb2.mono hz))
              clear hb2
              go_wp2
              go_roundw
              case rel => exact ⟨k + 1, by omega, by go_num, by rw [HT.out, hto, rowB, h3]; simp; rw [Bool.eq_iff_iff]; simp, HB2.out⟩
              case measure => simp [intOf]; omega
        · obtain rfl : k = 16 := by omega
          go_wp2
          go_ret
          exact ⟨rfl, ((Below.refl _ _).alloc (Nat.le_refl _) _).trans (HB.out.mono (by omega))⟩
  exact all _ _ rfl rfl
end Go.Proofs.Ytpjichkigccfnaa
