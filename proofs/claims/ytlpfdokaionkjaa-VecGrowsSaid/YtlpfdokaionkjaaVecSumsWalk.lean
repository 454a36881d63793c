/-
  The walk of VecSums.
-/
import Derived.Test.YtlpfdokaionkjaaVecLawsWalk
namespace Go.Proofs.Ytlpfdokaionkjaa
open Go.RowKit
attribute [local go_sem] rowCells rowAt_drewN get_ints getE_ints set_ints size_ints rowAt_alloc rowAt_drew setRow_alloc setRow_drewN setRow_drew setCell_alloc setCell_drewN splice_ints ext_ints0 extract_ints splice_all load_vec store_vec eql_vec neq_vec index_vec
attribute [local go_sem ↓] xload_vec xstore_vec xalloc_vec xeql_vec xneq_vec xindex_vec xbuild_vec0 xbuild_vec2
attribute [local go_sem] rowAt_setRow rowAt_setCell load_vec_later Later.cell Later.frozen
attribute [local go_sem] rn_true rn_false re_true re_false eqI_self

attribute [local go_sem] eqI_self
theorem growF_over {f : Nat → Int} {k n : Int} (h : growE f k n = 0) : overB (growF f k n) f = true := overB_iff.2 fun i _ => by
  cases hat : growAt k n with
  | false => rw [growE_bad hat] at h; exact absurd h (by decide)
  | true =>
    cases hok : addOk (f k.toNat) n with
    | false => rw [growE_at hat, hok] at h; exact absurd h (by decide)
    | true =>
      rw [growF_to hat hok]
      have := (growAt_iff.1 hat).2.2
      dsimp only
      split <;> omega
set_option maxRecDepth 100000 in
set_option maxHeartbeats 2000000 in
theorem vecSums_walk (f : Nat → Int) (_hf : ∀ i, i < 16 → -9223372036854775808 ≤ f i ∧ f i ≤ 9223372036854775807) (k : Int) (_hk : -9223372036854775808 ≤ k ∧ k ≤ 9223372036854775807) (n : Int) (_hn : -9223372036854775808 ≤ n ∧ n ≤ 9223372036854775807) (w : World) :
    Calls Try.prog 13 #[.agg (ints 16 f), .int .i64 k, .int .i64 n] w fun e w' => e = .returned (.bool true) ∧ Below w.heap.size w w' := by
  clear _hf _hk _hn
  have ho : ∀ G E, growF f k n = G → growE f k n = E → E = 0 → overB G f = true := fun G E h1 h2 h3 => by rw [← h1]; exact growF_over (h2.trans h3)
  generalize hG : growF f k n = G at ho
  generalize hE : growE f k n = E at ho
  have ho := ho G E rfl rfl
  have c1 : ∀ w, Calls Try.prog 18 #[.agg (ints 16 f), .int .i64 k, .int .i64 n] w fun e w' => e = .returned (.tuple #[.agg (ints 16 G), .int .i64 E]) ∧ Below w.heap.size w w' := fun w => by rw [← hG, ← hE]; exact grow_any f k n w
  have c2 : ∀ w, Calls Try.prog 38 #[.agg (ints 16 f), .int .i64 k, .int .i64 n] w fun e w' => e = .returned (.tuple #[.agg (ints 16 G), .int .i64 E]) ∧ Below w.heap.size w w' := fun w => by rw [← hG, ← hE]; exact rgrow_any f k n w
  have C1 := Lib.hid c1
  have C2 := Lib.hid c2
  clear c1 c2 hG hE
  by_cases h0 : E = 0
  all_goals (try have ho' := ho h0)
  all_goals (try subst h0)
  all_goals (try have hq1 : (E == 0) = false := beq_eq_false_iff_ne.2 h0)
  all_goals (try have hq2 : decide (E = 0) = false := decide_eq_false h0)
  all_goals (try have hq3 : (E != 0) = true := bne_iff_ne.2 h0)
  all_goals clear ho
  all_goals
    go_enter Try.func13, Try.ntmps13
    go_wp2_with fail
    refine (vsum_any _ _).mono ?_
    rintro e w1 ⟨rfl, hb1⟩
    have r1 : rowAt w1 w.heap.size = some (ints 16 f, 23) := rowKeep hb1 (by simp [rowAt_alloc] <;> omega)
    have HB1 := Lib.hid (((Below.refl _ _).alloc (Nat.le_refl _) _).trans (hb1.mono (by simp)))
    clear hb1
    go_wp2_with fail
    refine (rvsum_any _ _).mono ?_
    rintro e w2 ⟨rfl, hb2⟩
    have r2 : rowAt w2 w.heap.size = some (ints 16 f, 23) := rowKeep hb2 r1
    have HB2 := Lib.hid (bthen HB1.out hb2)
    clear hb2 r1
    go_wp2_with fail
    refine (C1.out _).mono ?_
    rintro e w3 ⟨rfl, hb3⟩
    have r3 : rowAt w3 w.heap.size = some (ints 16 f, 23) := rowKeep hb3 r2
    have HB3 := Lib.hid (bthen HB2.out hb3)
    have n3 := Nat.ne_of_lt (rowAt_lt r3)
    clear hb3 r2
    go_wp2_with fail
    refine (C2.out _).mono ?_
    rintro e w4 ⟨rfl, hb4⟩
    have r4 : rowAt w4 w.heap.size = some (ints 16 f, 23) := rowKeep hb4 (rowPast r3)
    have r5 : rowAt w4 w3.heap.size = some (ints 16 G, 23) := rowKeep hb4 (by simp [rowAt_alloc] <;> omega)
    have HB4 := Lib.hid ((HB3.out.alloc HB3.out.size _).trans (hb4.mono (by have := HB3.out.size; simp; omega)))
    have n4 := Nat.ne_of_lt (rowAt_lt r4)
    have n5 := Nat.ne_of_lt (rowAt_lt r5)
    have l4 := rowAt_lt r4
    have l5 := rowAt_lt r5
    clear hb4 r3
    go_upto_region 5 with fail
    refine region_seq ?_
    repeat (go_big_quiet_step ((first | (go_at_call 15; exact quiet_call (by simp) (join_any _ _ _)) | (go_at_call 16; exact quiet_call (by simp) (over_is (by assumption) _)) | (go_at_call 16; exact quiet_call (by simp) (over_any _ _ _)) | (go_at_call 22; exact quiet_call (by simp) (right_any _ _)) | (go_at_call 20; exact quiet_call (by simp) (rjoin_any _ _ _)) | (go_at_call 21; exact quiet_call (by simp) (rover_any _ _ _)) | (go_at_call 23; exact quiet_call (by simp) (rright_any _ _)) | (go_at_call 17; exact quiet_call (by simp) (awake2 _)))))
    refine wpQuiet_nil ?_
    intro w5 hb5
    have HB5 := Lib.hid (bthen (HB4.out.alloc HB4.out.size _) hb5)
    clear hb5
    go_wp2
    go_ret
    exact ⟨by simp [*], HB5.out⟩
end Go.Proofs.Ytlpfdokaionkjaa
