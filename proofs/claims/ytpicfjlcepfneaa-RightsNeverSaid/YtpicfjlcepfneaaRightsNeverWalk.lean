/-
  The walk of RightsNever.
-/
import Derived.Test.YtpicfjlcepfneaaRAll
namespace Go.Proofs.Ytpicfjlcepfneaa
open Go.RowKit
set_option linter.unusedSimpArgs false
attribute [local go_sem] rowCells rowAt_drewN get_ints getE_ints set_ints size_ints rowAt_alloc rowAt_drew setRow_alloc setRow_drewN setRow_drew setCell_alloc setCell_drewN splice_upd splice_all load_vec_cut load_vecs_cut load_rights_cut store_vec store_rights eql_vec neq_vec index_vec eql_rights neq_rights index_vecs cut_ints sub_zero
attribute [local go_sem ↓] xload_vec xstore_vec xalloc_vec xeql_vec xneq_vec xindex_vec xbuild_vec0 xload_rights xstore_rights xalloc_rights xeql_rights xneq_rights xbuild_rights0 xload_vecs xindex_vecs
attribute [local go_sem] rowAt_setRow rowAt_setCell load_vec_cut_later load_rights_later Later.cell Later.frozen
attribute [local go_sem] rn_true rn_false re_true re_false eqI_self
attribute [local go_sem ↓] xstore_states xload_states xalloc_states xindex_states xbuildSlice_one
attribute [local go_sem] load_states store_states index_states cut_flatA cut_flatA_all splice_flatA splice_flatA_all size_flatA bs1_ints cell_setRow_other

set_option maxRecDepth 100000 in
set_option maxHeartbeats 8000000 in
theorem rightsNever_walk (A : Option Addr) (c L : Nat) (D : Nat → Int) (hm : L ≤ 9223372036854775807 ∧ (A = none → c = 0 ∧ L = 0) ∧ L ≤ c) (_hD : ∀ p, p < L * 4 → -9223372036854775808 ≤ D p ∧ D p ≤ 9223372036854775807) (w : World) (hcell : ∀ p, p < L * 4 → ∃ b o, A = some ⟨b, o, none⟩ ∧ w.cell? ⟨b, o + p, none⟩ = some (.int .i64 (D p))) :
    Calls Try.prog 5 #[.slice A L c] w fun e w' => e = .returned (.bool true) ∧ Below w.heap.size w w' := by
  go_enter Try.func5, Try.ntmps5
  obtain ⟨hm1, _, hm3⟩ := hm
  by_cases hL : L ≤ 60
  · have hL' : (L : Int) ≤ 60 := by omega
    have INV := inv_played D hL
    have c1 := play_any A c L D hL hm3 w hcell
    generalize playS D L = S at *
    have C1 := Lib.hid c1
    have HI := Lib.hid INV
    clear c1 hcell INV
    go_wp2_with fail
    refine C1.out.mono ?_
    rintro e w1 ⟨rfl, hb1⟩
    have HB1 := Lib.hid hb1
    clear hb1
    go_wp2_with fail
    go_loopw [19] (fun i w' => ∃ n : Nat, n ≤ 16 ∧ i = .int .i64 n ∧ rowAt w' w1.heap.size = some (flatA S, 39) ∧ rowAt w' (w1.heap.size + 1) = some (ints 288 (allJ S n), 26) ∧ Below w.heap.size w w') (fun i _ => 16 - (intOf i).toNat)
    case atStart => exact ⟨0, by omega, rfl, by simp [rowAt_alloc] <;> omega, by simp [rowAt_alloc, allJ], below_allocS (below_allocS HB1.out _) _⟩
    case round =>
      rename World => wr
      obtain ⟨n, hn, rfl, q1, q2, hb⟩ := hrel
      have HB := Lib.hid hb
      clear hb
      by_cases hlt : n < 16
      · have c2 := rjoinR_any (allJ S n) (S n)
        have hstep : allJ S (n + 1) = joinV (allJ S n) (S n) := rfl
        have HS := Lib.hid hstep
        clear hstep
        generalize joinV (allJ S n) (S n) = J at *
        generalize allJ S n = J0 at *
        have C2 := Lib.hid c2
        have l1 := rowAt_lt q1
        have l2 := rowAt_lt q2
        clear c2
        go_wp2_with fail
        refine (C2.out _).mono ?_
        rintro e w2 ⟨rfl, hb2⟩
        have p1 := rowKeep hb2 (rowPast q1)
        have p2 := rowKeep hb2 (rowPast q2)
        have HB2 := Lib.hid (bthen (below_allocS HB.out _) hb2)
        have hz := HB1.out.size
        have k2 := rowAt_lt p2
        clear hb2 q1 q2 HB
        go_wp2_with fail
        go_roundw
        case rel => exact ⟨n + 1, by omega, by go_num, by simp [rowAt_setRow, *], by rw [HS.out]; simp [rowAt_setRow, *], below_setRow' HB2.out (by omega) _⟩
        case measure => simp [intOf]; omega
      · have e16 : allJ S n = allJ S 16 := by rw [show n = 16 by omega]
        rw [e16] at q2
        clear e16
        have hV := View.all HI.out (by omega) 16 (Nat.le_refl _)

        generalize allJ S 16 = J at *
        have hz := HB1.out.size
        go_upto_region 10 with fail
        refine wp_region_held_drew (S := fun w' : World => rowAt w' w1.heap.size = some (flatA S, 39) ∧ rowAt w' (w1.heap.size + 1) = some (ints 288 J, 26) ∧ Hid (Below w.heap.size w w')) (by kernel_rfl) ⟨by rw [rowAt_drew]; exact q1, by rw [rowAt_drew]; exact q2, Lib.hid HB.out.drew⟩ (fun hS => ?_)
        clear q1 q2 HB
        generalize wr.drew = W1 at *
        repeat (first | (refine held_take (i := 0) (by simp only [List.getElem?_toArray, List.getElem?_cons_succ, List.getElem?_cons_zero]; rfl) (by decide +kernel) (by decide +kernel) (by decide +kernel) (by exact fun _ _ _ _ h => h) hS (by rfl) ?_; apply Exists.intro; refine ⟨fun w' hSw => ?_, ?_⟩; (· (obtain ⟨q1, q2, _⟩ := hSw; go_simp; with_reducible rfl)); (try simp only [act_put, act_put_none, List.set_cons_zero, List.set_cons_succ])) | (refine held_take (i := 1) (by simp only [List.getElem?_toArray, List.getElem?_cons_succ, List.getElem?_cons_zero]; rfl) (by decide +kernel) (by decide +kernel) (by decide +kernel) (by exact fun _ _ _ _ h => h) hS (by rfl) ?_; apply Exists.intro; refine ⟨fun w' hSw => ?_, ?_⟩; (· (obtain ⟨q1, q2, _⟩ := hSw; go_simp; with_reducible rfl)); (try simp only [act_put, act_put_none, List.set_cons_zero, List.set_cons_succ])) | (refine held_take (i := 5) (by simp only [List.getElem?_toArray, List.getElem?_cons_succ, List.getElem?_cons_zero]; rfl) (by decide +kernel) (by decide +kernel) (by decide +kernel) (by exact fun _ _ _ _ h => h) hS (by rfl) ?_; apply Exists.intro; refine ⟨fun w' hSw => ?_, ?_⟩; (· (obtain ⟨q1, q2, _⟩ := hSw; go_simp; with_reducible rfl)); (try simp only [act_put, act_put_none, List.set_cons_zero, List.set_cons_succ])))
        refine wpAnyH_ready (rs := [2]) (by decide +kernel) (by simp) ?_
        refine AllReadyH.cons (i := 2) (by simp only [List.getElem?_toArray, List.getElem?_cons_succ, List.getElem?_cons_zero]; rfl) (fun K hK => ?_) AllReadyH.nil
        go_simp
        refine hK.out _ _ ⟨rowPast hS.1, rowPast hS.2.1, Lib.hid (below_allocS hS.2.2.out _)⟩ (fun hS1 => ?_)
        clear hK K hS
        (try simp only [act_put, act_put_none, List.set_cons_zero, List.set_cons_succ])
        have hq : rowAt (W1.alloc (.cells (ints 288 J) 26)) W1.heap.size = some (ints 288 J, 26) := rowAt_alloc_at _ _ _ _ rfl
        have hS := hS1
        clear hS1
        generalize W1.alloc (.cells (ints 288 J) 26) = W2 at *
        refine wpAnyH_ready (rs := [3]) (by decide +kernel) (by simp) ?_
        refine AllReadyH.cons (i := 3) (by simp only [List.getElem?_toArray, List.getElem?_cons_succ, List.getElem?_cons_zero]; rfl) (fun K hK => ?_) AllReadyH.nil
        rw [if_pos (by rfl)]
        refine append_states _ _ rfl w1.heap.size W1.heap.size S J hS.1 hq rfl rfl ?_
        intro g cap W3 hg hT hb3
        refine hK.out _ _ ⟨rowKeep hb3 hS.1, rowKeep hb3 hS.2.1, Lib.hid (bthen hS.2.2.out hb3)⟩ (fun hS1 => ?_)
        clear hS
        have hS := hS1
        clear hK K hS1 hb3 hq
        (try simp only [act_put, act_put_none, List.set_cons_zero, List.set_cons_succ])
        refine wpAnyH_ready (rs := [4]) (by decide +kernel) (by simp) ?_
        refine AllReadyH.cons (i := 4) (by simp only [List.getElem?_toArray, List.getElem?_cons_succ, List.getElem?_cons_zero]; rfl) (fun K hK => ?_) AllReadyH.nil
        go_simp
        refine hK.out _ _ hS (fun hSx => ?_)
        clear hK K hSx
        (try simp only [act_put, act_put_none, List.set_cons_zero, List.set_cons_succ])
        refine wpAnyH_done (by decide +kernel) ?_ _
        have HF : Hid (∀ m : Nat, m < 17 → ∀ k : Nat, k < 16 → freeE (setS S 16 J m) k = 0 ∧ 0 ≤ freeN (setS S 16 J m) k) := Lib.hid fun m hm k hk => by
          by_cases h16 : m = 16
          · rw [h16, setS_same]; exact free_ok hV hk
          · rw [setS_other _ _ h16]; exact free_ok (HI.out m (by omega)) hk
        clear hV
        generalize setS S 16 J = S1 at *
        have HV := Lib.hid hT
        have HB := hS.2.2
        clear hT hS
        go_wp2_with fail
        go_loopw [31] (fun i w' => ∃ m : Nat, m ≤ 17 ∧ i = .int .i64 m ∧ Sts w' g S1 ∧ Below w.heap.size w w') (fun i _ => 17 - (intOf i).toNat)
        case atStart => exact ⟨0, by omega, rfl, HV.out, HB.out⟩
        case round =>
          rename World => ws
          obtain ⟨m, hm, rfl, hT, hb⟩ := hrel
          obtain ⟨z2, rfl⟩ : ∃ z, z = u2 := ⟨_, rfl⟩
          have HB5 := Lib.hid hb
          clear hb HV HB
          by_cases hlt : m < 17
          · have hm17 : (m : Int) < 17 := by omega
            have hld := hT.load hlt
            have hsz := hT.lt
            have HT := Lib.hid hT
            clear hT
            go_wp2_with fail
            have r1 : rowAt (ws.alloc (.cells (ints 288 (S1 m)) 26)) ws.heap.size = some (ints 288 (S1 m), 26) := rowAt_alloc_at _ _ _ _ rfl
            have HB6 := Lib.hid (below_allocS HB5.out (.cells (ints 288 (S1 m)) 26))
            have HT6 : Hid (Sts (ws.alloc (.cells (ints 288 (S1 m)) 26)) g S1) := Lib.hid (HT.out.below ((Below.refl _ _).alloc (Nat.le_refl _) _) hsz)
            clear hld HT HB5
            generalize ws.alloc (.cells (ints 288 (S1 m)) 26) = wt at *
            go_loopw [35] (fun i w' => ∃ k : Nat, k ≤ 16 ∧ i = .int .i64 k ∧ rowAt w' ws.heap.size = some (ints 288 (S1 m), 26) ∧ Sts w' g S1 ∧ Below w.heap.size w w') (fun i _ => 16 - (intOf i).toNat)
            case atStart => exact ⟨0, by omega, rfl, r1, HT6.out, HB6.out⟩
            case round =>
              rename World => wu
              obtain ⟨k, hk, rfl, q1, hT, hb⟩ := hrel
              have HB7 := Lib.hid hb
              have HT7 := Lib.hid hT
              clear hb hT HT6 HB6 r1
              by_cases hlt2 : k < 16
              · have c3 := free_any (S1 m) k
                obtain ⟨e0, n0⟩ := HF.out m hlt k hlt2
                rw [e0] at c3
                clear e0
                have n1 : ¬ freeN (S1 m) k < 0 := by omega
                generalize freeN (S1 m) k = N at *
                have n2 : decide (N < 0) = false := decide_eq_false n1
                have C3 := Lib.hid c3
                clear c3
                go_wp2_with fail
                refine (C3.out _).mono ?_
                rintro e w8 ⟨rfl, hb8⟩
                have p1 := rowKeep hb8 q1
                have HT8 := Lib.hid (HT7.out.below hb8 (Nat.lt_trans hsz (rowAt_lt q1)))
                have HB8 := Lib.hid (bthen HB7.out hb8)
                clear hb8 q1 HB7 HT7
                go_wp2_with fail
                go_roundw
                case rel => exact ⟨k + 1, by omega, by go_num, p1, HT8.out, HB8.out⟩
                case measure => simp [intOf]; omega
              · go_wp2_with fail
                go_roundw
                case rel => exact ⟨m + 1, by omega, by go_num, HT7.out, HB7.out⟩
                case measure => simp [intOf]; omega
          · go_wp2_with fail
            refine (awake3 _).mono ?_
            rintro e w9 ⟨rfl, hb9⟩
            have HB9 := Lib.hid (bthen HB5.out hb9)
            clear hb9
            go_wp2_with fail
            go_ret
            exact ⟨rfl, HB9.out⟩
  · have hL' : ¬ (L : Int) ≤ 60 := by omega
    go_wp2_with fail
    refine (awake3 _).mono ?_
    rintro e w9 ⟨rfl, hb9⟩
    have HB9 := Lib.hid hb9
    clear hb9
    go_wp2_with fail
    go_ret
    exact ⟨rfl, HB9.out⟩
end Go.Proofs.Ytpicfjlcepfneaa
