/-
  The walk of RightsSum.
-/
import Derived.Test.YtpicfjlcepfneaaRAll
namespace Go.Proofs.Ytpicfjlcepfneaa
open Go.RowKit
set_option linter.unusedSimpArgs false
attribute [local go_sem] rowCells rowAt_drewN get_ints getE_ints set_ints size_ints rowAt_alloc rowAt_drew setRow_alloc setRow_drewN setRow_drew setCell_alloc setCell_drewN splice_upd splice_all load_vec_cut load_vecs_cut load_rights_cut store_vec store_rights eql_vec neq_vec index_vec eql_rights neq_rights index_vecs cut_ints sub_zero
attribute [local go_sem ↓] xload_vec xstore_vec xalloc_vec xeql_vec xneq_vec xindex_vec xbuild_vec0 xload_rights xstore_rights xalloc_rights xeql_rights xneq_rights xbuild_rights0 xload_vecs xindex_vecs
attribute [local go_sem] rowAt_setRow rowAt_setCell load_vec_cut_later load_rights_later Later.cell Later.frozen
attribute [local go_sem] rn_true rn_false re_true re_false eqI_self
attribute [local go_sem ↓] xstore_states xload_states xalloc_states xindex_states xbuildSlice_one
attribute [local go_sem] load_states store_states index_states cut_flatA cut_flatA_all splice_flatA splice_flatA_all size_flatA bs1_ints cell_setRow_other

set_option maxRecDepth 100000 in
set_option maxHeartbeats 8000000 in
theorem rightsSum_walk (A : Option Addr) (c L : Nat) (D : Nat → Int) (hm : L ≤ 9223372036854775807 ∧ (A = none → c = 0 ∧ L = 0) ∧ L ≤ c) (_hD : ∀ p, p < L * 4 → -9223372036854775808 ≤ D p ∧ D p ≤ 9223372036854775807) (w : World) (hcell : ∀ p, p < L * 4 → ∃ b o, A = some ⟨b, o, none⟩ ∧ w.cell? ⟨b, o + p, none⟩ = some (.int .i64 (D p))) :
    Calls Try.prog 6 #[.slice A L c] w fun e w' => e = .returned (.bool true) ∧ Below w.heap.size w w' := by
  go_enter Try.func6, Try.ntmps6
  obtain ⟨hm1, _, hm3⟩ := hm
  by_cases hL : L ≤ 60
  · have hL' : (L : Int) ≤ 60 := by omega
    have INV := inv_played D hL
    have c1 := play_any A c L D hL hm3 w hcell
    generalize playS D L = S at *
    have C1 := Lib.hid c1
    have HI := Lib.hid INV
    clear c1 hcell INV
    go_wp2_with fail
    refine C1.out.mono ?_
    rintro e w1 ⟨rfl, hb1⟩
    have HB1 := Lib.hid hb1
    clear hb1
    go_wp2_with fail
    go_loopw [22] (fun i w' => ∃ n : Nat, n ≤ 16 ∧ i = .int .i64 n ∧ rowAt w' w1.heap.size = some (flatA S, 39) ∧ rowAt w' (w1.heap.size + 1) = some (ints 288 (allJ S n), 26) ∧ Below w.heap.size w w') (fun i _ => 16 - (intOf i).toNat)
    case atStart => exact ⟨0, by omega, rfl, by simp [rowAt_alloc] <;> omega, by simp [rowAt_alloc, allJ], below_allocS (below_allocS HB1.out _) _⟩
    case round =>
      rename World => wr
      obtain ⟨n, hn, rfl, q1, q2, hb⟩ := hrel
      have HB := Lib.hid hb
      clear hb
      by_cases hlt : n < 16
      · have c2 := rjoinR_any (allJ S n) (S n)
        have hstep : allJ S (n + 1) = joinV (allJ S n) (S n) := rfl
        have HS := Lib.hid hstep
        clear hstep
        generalize joinV (allJ S n) (S n) = J at *
        generalize allJ S n = J0 at *
        have C2 := Lib.hid c2
        have l1 := rowAt_lt q1
        have l2 := rowAt_lt q2
        clear c2
        go_wp2_with fail
        refine (C2.out _).mono ?_
        rintro e w2 ⟨rfl, hb2⟩
        have p1 := rowKeep hb2 (rowPast q1)
        have p2 := rowKeep hb2 (rowPast q2)
        have HB2 := Lib.hid (bthen (below_allocS HB.out _) hb2)
        have hz := HB1.out.size
        have k2 := rowAt_lt p2
        clear hb2 q1 q2 HB
        go_wp2_with fail
        go_roundw
        case rel => exact ⟨n + 1, by omega, by go_num, by simp [rowAt_setRow, *], by rw [HS.out]; simp [rowAt_setRow, *], below_setRow' HB2.out (by omega) _⟩
        case measure => simp [intOf]; omega
      · have e16 : allJ S n = allJ S 16 := by rw [show n = 16 by omega]
        rw [e16] at q2
        clear e16
        have hV := View.all HI.out (by omega) 16 (Nat.le_refl _)
        have HF : Hid (∀ k : Nat, k < 16 → freeE (allJ S 16) k = 0 ∧ freeE (S k) k = 0 ∧ freeN (S k) k ≤ freeN (allJ S 16) k) := Lib.hid fun k hk => by
          obtain ⟨a1, a2⟩ := hV.free big_ok hk
          obtain ⟨b1, b2⟩ := (HI.out k hk).free big_ok hk
          exact ⟨a1, b1, by rw [a2, b2]; exact all_free HI.out (by omega) hk⟩
        have HR : Hid (∀ k : Nat, k < 16 → ∀ q, q < 288 → rowIx k q → S k q = allJ S 16 q) := Lib.hid fun k hk q hq hr => (all_row HI.out (by omega) hk hq hr).symm
        have HT : Hid (totalE (allJ S 16) = 0 ∧ totalN (allJ S 16) = sumK (allJ S 16) 16) := Lib.hid (sumK_total hV)
        have HV := Lib.hid hV
        clear hV
        generalize allJ S 16 = J at *
        have hz := HB1.out.size
        go_wp2_with fail
        go_loopw [7, 29] (fun t i w' => ∃ k : Nat, k ≤ 16 ∧ i = .int .i64 k ∧ t = .int .i64 (sumK J k) ∧ rowAt w' w1.heap.size = some (flatA S, 39) ∧ rowAt w' (w1.heap.size + 1) = some (ints 288 J, 26) ∧ Below w.heap.size w w') (fun _ i _ => 16 - (intOf i).toNat)
        case atStart => exact ⟨0, by omega, rfl, rfl, q1, q2, HB.out⟩
        case round =>
          rename World => wk
          obtain ⟨k, hk, rfl, rfl, t1, t2, hb⟩ := hrel
          have HBk := Lib.hid hb
          clear hb q1 q2 HB
          by_cases hlt : k < 16
          · have ha2 : k * 288 + 288 ≤ 4608 := by omega
            have ha3 : (k : Int) < 16 := by omega
            obtain ⟨e1, e2, e3⟩ := HF.out k hlt
            have c3 := free_any J k
            have c4 := free_any (S k) k
            rw [e1] at c3
            rw [e2] at c4
            have hs1 := sumK_range HV.out hk
            have hs2 := sumK_range HV.out (show k + 1 ≤ 16 by omega)
            have hss := sumK_succ J k
            rw [hss] at hs2
            have HSS := Lib.hid hss
            clear e1 e2 hss
            generalize freeN J k = NA at *
            generalize freeN (S k) k = NB at *
            generalize sumK J k = T at *
            have C3 := Lib.hid c3
            have C4 := Lib.hid c4
            clear c3 c4
            go_wp2_with fail
            refine (C3.out _).mono ?_
            rintro e w3 ⟨rfl, hb3⟩
            have ua := rowKeep hb3 t1
            have ub := rowKeep hb3 t2
            have HB3 := Lib.hid (bthen HBk.out hb3)
            have l1 := rowAt_lt ua
            have l2 := rowAt_lt ub
            clear hb3 t1 t2 HBk
            go_wp2_with fail
            refine (C4.out _).mono ?_
            rintro e w4 ⟨rfl, hb4⟩
            have p1 := rowKeep hb4 ua
            have p2 := rowKeep hb4 ub
            have HB4 := Lib.hid (bthen HB3.out hb4)
            have l1 := rowAt_lt p1
            have l2 := rowAt_lt p2
            clear hb4 ua ub HB3
            have d1 : w4.cell? ⟨w1.heap.size, k * 288 + k, none⟩ = some (.int .i64 (J k)) := by
              rw [cell_of_rowAt p1, get_flatA _ hlt (show k < 288 by omega), HR.out k hlt k (by omega) (Or.inl rfl)]
            have d2 : w4.cell? ⟨w1.heap.size + 1, k, none⟩ = some (.int .i64 (J k)) := by rw [cell_of_rowAt p2]; exact get_ints 288 _ k (by omega)
            have d3 : w4.cell? ⟨w1.heap.size, k * 288 + (16 + k), none⟩ = some (.int .i64 (J (16 + k))) := by
              rw [cell_of_rowAt p1, get_flatA _ hlt (show 16 + k < 288 by omega), HR.out k hlt (16 + k) (by omega) (Or.inr (Or.inl rfl))]
            have d3b : w4.cell? ⟨w1.heap.size, k * 288 + 16 + k, none⟩ = some (.int .i64 (J (16 + k))) := by rw [Nat.add_assoc]; exact d3
            have d4 : w4.cell? ⟨w1.heap.size + 1, 16 + k, none⟩ = some (.int .i64 (J (16 + k))) := by rw [cell_of_rowAt p2]; exact get_ints 288 _ _ (by omega)
            have d5 : cut (flatA S) (k * 288 + 32 + k * 16) 16 = ints 16 (sub (32 + k * 16) J) := by
              rw [Nat.add_assoc, cut_flatA_in _ hlt (by omega)]
              exact ints_congr fun i hi => HR.out k hlt (32 + k * 16 + i) (by omega) (Or.inr (Or.inr ⟨by omega, by omega⟩))
            have hle : 32 + k * 16 + 16 ≤ 288 := by omega
            have hle2 : k * 288 + 32 + k * 16 + 16 ≤ 4608 := by omega
            have g1 : decide (NA < NB) = false := decide_eq_false (by omega)
            have g2 : ¬ NA < NB := by omega
            have g3 : ¬ NB > NA := by omega
            go_upto_region 16 with fail
            refine region_quiet (by kernel_rfl) (by kernel_rfl) ?_
            repeat (go_big_quiet_step (fail))
            refine wpQuiet_nil ?_
            intro w5 hb5
            have y1 := rowKeep hb5 p1
            have y2 := rowKeep hb5 p2
            have HB5 := Lib.hid (bthen HB4.out hb5)
            clear hb5 p1 p2 d1 d2 d3 d3b d4 d5 HB4
            go_wp2_with fail
            go_roundw
            case rel => exact ⟨k + 1, by omega, by go_num, by rw [HSS.out], y1, y2, HB5.out⟩
            case measure => simp [intOf]; omega
          · obtain rfl : k = 16 := by omega
            have c3 := total_any J
            obtain ⟨e1, e2⟩ := HT.out
            rw [e1, e2] at c3
            clear e1 e2
            generalize sumK J 16 = T at *
            have C3 := Lib.hid c3
            clear c3
            go_wp2_with fail
            refine (C3.out _).mono ?_
            rintro e w3 ⟨rfl, hb3⟩
            have HB3 := Lib.hid (bthen HBk.out hb3)
            clear hb3 t1 t2 HBk
            go_upto_region 21 with fail
            refine region_seq ?_
            repeat (go_big_quiet_step ((go_at_call 17; exact quiet_call (by simp) (awake3 _))))
            refine wpQuiet_nil ?_
            intro w5 hb5
            have HB5 := Lib.hid (bthen HB3.out hb5)
            clear hb5
            go_wp2_with fail
            go_ret
            exact ⟨rfl, HB5.out⟩
  · have hL' : ¬ (L : Int) ≤ 60 := by omega
    go_wp2_with fail
    refine (awake3 _).mono ?_
    rintro e w9 ⟨rfl, hb9⟩
    have HB9 := Lib.hid hb9
    clear hb9
    go_wp2_with fail
    go_ret
    exact ⟨rfl, HB9.out⟩
end Go.Proofs.Ytpicfjlcepfneaa
