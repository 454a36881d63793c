/-
  The walk of VecSame.
-/
import Derived.Test.YtlpfdokaionkjaaVecSumsWalk
namespace Go.Proofs.Ytlpfdokaionkjaa
open Go.RowKit
attribute [local go_sem] rowCells rowAt_drewN get_ints getE_ints set_ints size_ints rowAt_alloc rowAt_drew setRow_alloc setRow_drewN setRow_drew setCell_alloc setCell_drewN splice_ints ext_ints0 extract_ints splice_all load_vec store_vec eql_vec neq_vec index_vec
attribute [local go_sem ↓] xload_vec xstore_vec xalloc_vec xeql_vec xneq_vec xindex_vec xbuild_vec0 xbuild_vec2
attribute [local go_sem] rowAt_setRow rowAt_setCell load_vec_later Later.cell Later.frozen
attribute [local go_sem] rn_true rn_false re_true re_false eqI_self

attribute [local go_sem] eqI_self
theorem right_is {f : Nat → Int} {b : Bool} (h : rightV f = b) (w : World) : Calls Try.prog 22 #[.agg (ints 16 f)] w fun e w' => e = .returned (.bool b) ∧ Below w.heap.size w w' := by rw [← h]; exact right_any f w
theorem rightV_join {f g : Nat → Int} (h1 : rightV f = true) (h2 : rightV g = true) : rightV (joinV f g) = true := rightV_iff.2 fun i hi => by
  have k1 := rightV_iff.1 h1 i hi
  have k2 := rightV_iff.1 h2 i hi
  unfold joinV; split <;> omega
theorem growF_right {f : Nat → Int} {k n : Int} (hf : rightV f = true) (h : growE f k n = 0) : rightV (growF f k n) = true := rightV_iff.2 fun i hi => by
  cases hat : growAt k n with
  | false => rw [growE_bad hat] at h; exact absurd h (by decide)
  | true =>
    cases hok : addOk (f k.toNat) n with
    | false => rw [growE_at hat, hok] at h; exact absurd h (by decide)
    | true =>
      rw [growF_to hat hok]
      have h1 := (growAt_iff.1 hat).2.2
      have h2 := rightV_iff.1 hf i hi
      simp only [addOk, Bool.and_eq_true, isB_iff] at hok
      dsimp only
      split
      · rename_i he; subst he; omega
      · exact h2
theorem le_sum {l : List Int} (hl : ∀ x ∈ l, 0 ≤ x) {x : Int} (hx : x ∈ l) : x ≤ l.sum := by
  induction l with
  | nil => cases hx
  | cons y l ih =>
    have h0 := hl y (by simp)
    have hs := sum_nn l (fun z hz => hl z (List.mem_cons_of_mem _ hz))
    rw [List.sum_cons]
    rcases List.mem_cons.1 hx with rfl | hx
    · omega
    · have := ih (fun z hz => hl z (List.mem_cons_of_mem _ hz)) hx; omega
theorem sumN_least {f : Nat → Int} (hf : rightV f = true) (h : sumE (lst f) = 0) : ∀ i, i < 16 → f i ≤ sumN (lst f) := by
  intro i hi
  have hl : ∀ x ∈ lst f, 0 ≤ x := by
    intro x hx
    simp only [lst, List.mem_map, List.mem_range] at hx
    obtain ⟨j, hj, rfl⟩ := hx
    exact (rightV_iff.1 hf j hj).1
  rw [sumE_pos hl] at h
  rw [sumN_pos hl]
  by_cases hs : (lst f).sum ≤ 1099511627776
  · rw [if_pos hs]
    exact le_sum hl (by simp only [lst, List.mem_map, List.mem_range]; exact ⟨i, hi, rfl⟩)
  · rw [if_neg hs] at h; exact absurd h (by decide)
set_option maxRecDepth 100000 in
set_option maxHeartbeats 2000000 in
theorem vecSame_walk (f : Nat → Int) (_hf : ∀ i, i < 16 → -9223372036854775808 ≤ f i ∧ f i ≤ 9223372036854775807) (g : Nat → Int) (_hg : ∀ i, i < 16 → -9223372036854775808 ≤ g i ∧ g i ≤ 9223372036854775807) (k : Int) (_hk : -9223372036854775808 ≤ k ∧ k ≤ 9223372036854775807) (n : Int) (_hn : -9223372036854775808 ≤ n ∧ n ≤ 9223372036854775807) (w : World) :
    Calls Try.prog 14 #[.agg (ints 16 f), .agg (ints 16 g), .int .i64 k, .int .i64 n] w fun e w' => e = .returned (.bool true) ∧ Below w.heap.size w w' := by
  clear _hf _hg _hk _hn
  have bad : ∀ b1 b2 : Bool, rightV f = b1 → rightV g = b2 → (b1 && b2) = false → Calls Try.prog 14 #[.agg (ints 16 f), .agg (ints 16 g), .int .i64 k, .int .i64 n] w fun e w' => e = .returned (.bool true) ∧ Below w.heap.size w w' := by
    intro b1 b2 h1 h2 hb
    cases b1 <;> cases b2
    case true.true => cases hb
    all_goals
      clear hb
      go_enter Try.func14, Try.ntmps14
      go_upto_region 1 with fail
      refine region_seq ?_
      repeat (go_big_quiet_step ((first | (go_at_call 22; exact quiet_call (by simp) (right_is (by assumption) _)))))
      refine wpQuiet_nil ?_
      intro w1 hb1
      have HB1 := Lib.hid ((((Below.refl _ _).alloc (Nat.le_refl _) _).alloc (by simp) _).trans (hb1.mono (by simp; omega)))
      clear hb1
      go_wp2_with fail
      refine (awake2 _).mono ?_
      rintro e w2 ⟨rfl, hb2⟩
      have HB2 := Lib.hid (bthen HB1.out hb2)
      clear hb2
      go_wp2
      go_ret
      exact ⟨rfl, HB2.out⟩
  have good : rightV f = true → rightV g = true → Calls Try.prog 14 #[.agg (ints 16 f), .agg (ints 16 g), .int .i64 k, .int .i64 n] w fun e w' => e = .returned (.bool true) ∧ Below w.heap.size w w' := by
    intro h1 h2
    have hj := rightV_join h1 h2
    have hg := growF_right (k := k) (n := n) h1
    have hs := sumN_least h1
    have c1 := grow_any f k n
    have c2 := vsum_any f
    generalize growF f k n = G at hg c1
    generalize growE f k n = E at hg c1
    generalize sumN (lst f) = SN at hs c2
    generalize sumE (lst f) = SE at hs c2
    have C1 := Lib.hid c1
    have C2 := Lib.hid c2
    clear c1 c2
    by_cases h0 : E = 0
    all_goals by_cases h3 : SE = 0
    all_goals (try have hg' := hg h0)
    all_goals (try have hs' := Lib.hid (hs h3))
    all_goals (try have hq1 : (E == 0) = false := beq_eq_false_iff_ne.2 h0)
    all_goals (try have hq2 : decide (E = 0) = false := decide_eq_false h0)
    all_goals (try have hq3 : (E != 0) = true := bne_iff_ne.2 h0)
    all_goals (try have hp1 : (SE == 0) = false := beq_eq_false_iff_ne.2 h3)
    all_goals (try have hp2 : decide (SE = 0) = false := decide_eq_false h3)
    all_goals (try subst h0)
    all_goals (try subst h3)
    all_goals clear hg hs
    all_goals
      go_enter Try.func14, Try.ntmps14
      go_upto_region 1 with fail
      refine region_seq ?_
      repeat (go_big_quiet_step ((first | (go_at_call 22; exact quiet_call (by simp) (right_is (by assumption) _)))))
      refine wpQuiet_nil ?_
      intro w1 hb1
      have r1 : rowAt w1 w.heap.size = some (ints 16 f, 23) := rowKeep hb1 (by simp [rowAt_alloc] <;> omega)
      have r2 : rowAt w1 (w.heap.size + 1) = some (ints 16 g, 23) := rowKeep hb1 (by simp [rowAt_alloc] <;> omega)
      have HB1 := Lib.hid ((((Below.refl _ _).alloc (Nat.le_refl _) _).alloc (by simp) _).trans (hb1.mono (by simp; omega)))
      clear hb1
      go_wp2_with fail
      refine (C1.out _).mono ?_
      rintro e w2 ⟨rfl, hb2⟩
      have r3 : rowAt w2 w.heap.size = some (ints 16 f, 23) := rowKeep hb2 r1
      have r4 : rowAt w2 (w.heap.size + 1) = some (ints 16 g, 23) := rowKeep hb2 r2
      have HB2 := Lib.hid (bthen HB1.out hb2)
      have n3 := Nat.ne_of_lt (rowAt_lt r3)
      have n4 := Nat.ne_of_lt (rowAt_lt r4)
      clear hb2 r1 r2
      go_wp2_with fail
      refine (C2.out _).mono ?_
      rintro e w3 ⟨rfl, hb3⟩
      have r5 : rowAt w3 w.heap.size = some (ints 16 f, 23) := rowKeep hb3 (rowPast r3)
      have r6 : rowAt w3 (w.heap.size + 1) = some (ints 16 g, 23) := rowKeep hb3 (rowPast r4)
      have r7 : rowAt w3 w2.heap.size = some (ints 16 G, 23) := rowKeep hb3 (by simp [rowAt_alloc] <;> omega)
      have HB3 := Lib.hid (bthen (HB2.out.alloc HB2.out.size _) hb3)
      have l5 := rowAt_lt r5
      have l6 := rowAt_lt r6
      have l7 := rowAt_lt r7
      clear hb3 r3 r4 n3 n4
      go_wp2
      go_loop [37] (fun i => ∃ k : Nat, k ≤ 16 ∧ i = .int .i64 k) (fun i => 16 - (intOf i).toNat)
      case atStart => exact ⟨0, by omega, rfl⟩
      case round =>
        obtain ⟨j, hk, rfl⟩ := hrel
        by_cases hlt : j < 16
        · try have hle := hs'.out j hlt
          try have hle' : decide (SN < f j) = false := decide_eq_false (Int.not_lt.2 hle)
          go_wp2
          go_round
          case rel => exact ⟨j + 1, by omega, by go_num⟩
          case measure => simp [intOf]; omega
        · go_upto_region 11 with fail
          refine region_seq ?_
          repeat (go_big_quiet_step ((first | (go_at_call 22; exact quiet_call (by simp) (right_is (by assumption) _)) | (go_at_call 15; exact quiet_call (by simp) (join_any _ _ _)) | (go_at_call 17; exact quiet_call (by simp) (awake2 _)))))
          refine wpQuiet_nil ?_
          intro w4 hb4
          have HB4 := Lib.hid (bthen HB3.out hb4)
          clear hb4
          go_wp2
          go_ret
          exact ⟨by simp [*], HB4.out⟩
  cases h1 : rightV f
  · exact bad _ _ h1 rfl rfl
  · cases h2 : rightV g
    · exact bad _ _ h1 h2 rfl
    · exact good h1 h2
end Go.Proofs.Ytlpfdokaionkjaa
