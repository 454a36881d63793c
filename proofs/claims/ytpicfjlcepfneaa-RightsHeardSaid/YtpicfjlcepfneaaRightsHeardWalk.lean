/-
  The walk of RightsHeard.
-/
import Derived.Test.YtpicfjlcepfneaaRAll
namespace Go.Proofs.Ytpicfjlcepfneaa
open Go.RowKit
set_option linter.unusedSimpArgs false
attribute [local go_sem] rowCells rowAt_drewN get_ints getE_ints set_ints size_ints rowAt_alloc rowAt_drew setRow_alloc setRow_drewN setRow_drew setCell_alloc setCell_drewN splice_upd splice_all load_vec_cut load_vecs_cut load_rights_cut store_vec store_rights eql_vec neq_vec index_vec eql_rights neq_rights index_vecs cut_ints sub_zero
attribute [local go_sem ↓] xload_vec xstore_vec xalloc_vec xeql_vec xneq_vec xindex_vec xbuild_vec0 xload_rights xstore_rights xalloc_rights xeql_rights xneq_rights xbuild_rights0 xload_vecs xindex_vecs
attribute [local go_sem] rowAt_setRow rowAt_setCell load_vec_cut_later load_rights_later Later.cell Later.frozen
attribute [local go_sem] rn_true rn_false re_true re_false eqI_self
attribute [local go_sem ↓] xstore_states xload_states xalloc_states xindex_states xbuildSlice_one
attribute [local go_sem] load_states store_states index_states cut_flatA cut_flatA_all splice_flatA splice_flatA_all size_flatA bs1_ints cell_setRow_other

theorem overR_is {f g : Nat → Int} {b : Bool} (h : overR f g = b) (w : World) : Calls Try.prog 26 #[.agg (ints 288 f), .agg (ints 288 g)] w fun e w' => e = .returned (.bool b) ∧ Below w.heap.size w w' := by rw [← h]; exact overR_any f g w
theorem joinV_assoc' (f g h : Nat → Int) : joinV (joinV f g) h = joinV f (joinV g h) := by
  funext i
  unfold joinV
  by_cases h1 : f i < g i <;> by_cases h2 : g i < h i <;> by_cases h3 : f i < h i <;> simp [h1, h2, h3] <;> omega
theorem joinV_self' (f : Nat → Int) : joinV f f = f := by
  funext i; unfold joinV; split <;> omega
theorem joinR_left (f g : Nat → Int) : overR (joinV f g) f = true := overR_iff.2 fun i _ => by unfold joinV; split <;> omega
theorem joinR_right (f g : Nat → Int) : overR (joinV f g) g = true := overR_iff.2 fun i _ => by unfold joinV; split <;> omega
set_option maxRecDepth 100000 in
set_option maxHeartbeats 8000000 in
theorem rightsHeard_walk (A : Option Addr) (c L : Nat) (D : Nat → Int) (hm : L ≤ 9223372036854775807 ∧ (A = none → c = 0 ∧ L = 0) ∧ L ≤ c) (_hD : ∀ p, p < L * 4 → -9223372036854775808 ≤ D p ∧ D p ≤ 9223372036854775807) (a : Int) (_ha : -9223372036854775808 ≤ a ∧ a ≤ 9223372036854775807) (b : Int) (_hb : -9223372036854775808 ≤ b ∧ b ≤ 9223372036854775807) (w : World) (hcell : ∀ p, p < L * 4 → ∃ b o, A = some ⟨b, o, none⟩ ∧ w.cell? ⟨b, o + p, none⟩ = some (.int .i64 (D p))) :
    Calls Try.prog 10 #[.slice A L c, .int .i64 a, .int .i64 b] w fun e w' => e = .returned (.bool true) ∧ Below w.heap.size w w' := by
  clear _hD _ha _hb
  go_enter Try.func10, Try.ntmps10
  obtain ⟨hm1, _, hm3⟩ := hm
  by_cases hL : L ≤ 60
  · have hL' : (L : Int) ≤ 60 := by omega
    by_cases ha0 : a < 0
    · go_wp2_with fail
      refine (awake3 _).mono ?_
      rintro e w9 ⟨rfl, hb9⟩
      have HB9 := Lib.hid hb9
      clear hb9
      go_wp2_with fail
      go_ret
      exact ⟨rfl, HB9.out⟩
    · by_cases ha1 : a ≤ 15
      · by_cases hb0 : b < 0
        · go_wp2_with fail
          refine (awake3 _).mono ?_
          rintro e w9 ⟨rfl, hb9⟩
          have HB9 := Lib.hid hb9
          clear hb9
          go_wp2_with fail
          go_ret
          exact ⟨rfl, HB9.out⟩
        · by_cases hb1 : b ≤ 15
          · obtain ⟨i, rfl⟩ := Int.eq_ofNat_of_zero_le (show 0 ≤ a by omega)
            obtain ⟨j, rfl⟩ := Int.eq_ofNat_of_zero_le (show 0 ≤ b by omega)
            have hi : i < 16 := by omega
            have hj : j < 16 := by omega
            have hi2 : i * 288 + 288 ≤ 4608 := by omega
            have hj2 : j * 288 + 288 ≤ 4608 := by omega
            have hi3 : (i : Int) < 16 := by omega
            have hj3 : (j : Int) < 16 := by omega
            have INV := inv_played D hL
            have c1 := play_any A c L D hL hm3 w hcell
            generalize playS D L = S at *
            have c2 := rjoinR_any (S i) (S j)
            have hV := (INV i hi).join hj (INV j hj)
            obtain ⟨e1, n1⟩ := (INV i hi).free big_ok hi
            obtain ⟨e2, n2⟩ := hV.free big_ok hi
            have c3 := free_any (S i) i
            have c4 := free_any (joinV (S i) (S j)) i
            rw [e1] at c3
            rw [e2] at c4
            have hle0 : FS (S i) i ≤ FS (joinV (S i) (S j)) i := FS_more hi (fun q _ _ => joinV_le_left _ _ _) (hV.own i hi) (fun _ _ => joinV_le_left _ _ _)
            rw [← n1, ← n2] at hle0
            have o1 : overR (joinV (S i) (S j)) (S i) = true := joinR_left _ _
            have o2 : overR (joinV (S i) (S j)) (S j) = true := joinR_right _ _
            have e3 : joinV (joinV (S i) (S j)) (S j) = joinV (S i) (S j) := by rw [joinV_assoc', joinV_self']
            have c5 := rjoinR_any (joinV (S i) (S j)) (S j)
            rw [e3] at c5
            have HR : Hid (∀ q, q < 288 → rowIx i q → S i q = joinV (S i) (S j) q) := Lib.hid fun q hq hr => Int.le_antisymm (joinV_le_left _ _ _) (hV.own i hi q hq hr)
            clear e1 e2 e3 n1 n2 INV hV
            generalize joinV (S i) (S j) = J at *
            generalize freeN (S i) i = NX at *
            generalize freeN J i = NY at *
            have C1 := Lib.hid c1
            have C2 := Lib.hid c2
            have C3 := Lib.hid c3
            have C4 := Lib.hid c4
            have C5 := Lib.hid c5
            clear c1 c2 c3 c4 c5 hcell
            go_wp2_with fail
            refine C1.out.mono ?_
            rintro e w1 ⟨rfl, hb1⟩
            have HB1 := Lib.hid hb1
            clear hb1
            go_upto_region 4 with fail
            go_cut [8] from 35 (fun p wx => ∃ q : Nat, p = .pointer (some ⟨q, 0, none⟩) ∧ rowAt wx q = some (ints 288 J, 26) ∧ w1.heap.size < q ∧ rowAt wx w1.heap.size = some (flatA S, 39) ∧ Below w.heap.size w wx)
            case first =>
              have hS0 : rowAt (w1.alloc (.cells (flatA S) 39)) w1.heap.size = some (flatA S, 39) ∧ Below w.heap.size w (w1.alloc (.cells (flatA S) 39)) := ⟨rowAt_alloc_at _ _ _ _ rfl, below_allocS HB1.out _⟩
              generalize w1.alloc (.cells (flatA S) 39) = W at *
              obtain ⟨r1, hb0⟩ := hS0
              refine wp_region_held_drew (S := fun w' : World => rowAt w' w1.heap.size = some (flatA S, 39) ∧ Hid (Below w.heap.size w w')) (by kernel_rfl) ⟨r1, Lib.hid hb0.drew⟩ (fun hS => ?_)
              clear r1 hb0
              generalize W.drew = W1 at *
              repeat (first | (refine held_take (i := 0) (by simp only [List.getElem?_toArray, List.getElem?_cons_succ, List.getElem?_cons_zero]; rfl) (by decide +kernel) (by decide +kernel) (by decide +kernel) (by exact fun _ _ _ _ h => h) hS (by rfl) ?_; apply Exists.intro; refine ⟨fun w' hSw => ?_, ?_⟩; (· (obtain ⟨q1, _⟩ := hSw; go_simp; with_reducible rfl)); (try simp only [act_put, act_put_none, List.set_cons_zero, List.set_cons_succ])) | (refine held_take (i := 1) (by simp only [List.getElem?_toArray, List.getElem?_cons_succ, List.getElem?_cons_zero]; rfl) (by decide +kernel) (by decide +kernel) (by decide +kernel) (by exact fun _ _ _ _ h => h) hS (by rfl) ?_; apply Exists.intro; refine ⟨fun w' hSw => ?_, ?_⟩; (· (obtain ⟨q1, _⟩ := hSw; go_simp; with_reducible rfl)); (try simp only [act_put, act_put_none, List.set_cons_zero, List.set_cons_succ])) | (refine held_take (i := 2) (by simp only [List.getElem?_toArray, List.getElem?_cons_succ, List.getElem?_cons_zero]; rfl) (by decide +kernel) (by decide +kernel) (by decide +kernel) (by exact fun _ _ _ _ h => h) hS (by rfl) ?_; apply Exists.intro; refine ⟨fun w' hSw => ?_, ?_⟩; (· (obtain ⟨q1, _⟩ := hSw; go_simp; with_reducible rfl)); (try simp only [act_put, act_put_none, List.set_cons_zero, List.set_cons_succ])) | (refine held_take (i := 3) (by simp only [List.getElem?_toArray, List.getElem?_cons_succ, List.getElem?_cons_zero]; rfl) (by decide +kernel) (by decide +kernel) (by decide +kernel) (by exact fun _ _ _ _ h => h) hS (by rfl) ?_; apply Exists.intro; refine ⟨fun w' hSw => ?_, ?_⟩; (· (obtain ⟨q1, _⟩ := hSw; go_simp; with_reducible rfl)); (try simp only [act_put, act_put_none, List.set_cons_zero, List.set_cons_succ])) | (refine held_take (i := 4) (by simp only [List.getElem?_toArray, List.getElem?_cons_succ, List.getElem?_cons_zero]; rfl) (by decide +kernel) (by decide +kernel) (by decide +kernel) (by exact fun _ _ _ _ h => h) hS (by rfl) ?_; apply Exists.intro; refine ⟨fun w' hSw => ?_, ?_⟩; (· (obtain ⟨q1, _⟩ := hSw; go_simp; with_reducible rfl)); (try simp only [act_put, act_put_none, List.set_cons_zero, List.set_cons_succ])) | (refine held_take (i := 5) (by simp only [List.getElem?_toArray, List.getElem?_cons_succ, List.getElem?_cons_zero]; rfl) (by decide +kernel) (by decide +kernel) (by decide +kernel) (by exact fun _ _ _ _ h => h) hS (by rfl) ?_; apply Exists.intro; refine ⟨fun w' hSw => ?_, ?_⟩; (· (obtain ⟨q1, _⟩ := hSw; go_simp; with_reducible rfl)); (try simp only [act_put, act_put_none, List.set_cons_zero, List.set_cons_succ])))
              refine wpAnyH_ready (rs := [6, 7]) (by decide +kernel) (by simp) ?_
              refine AllReadyH.cons (i := 6) (by simp only [List.getElem?_toArray, List.getElem?_cons_succ, List.getElem?_cons_zero]; rfl) (fun K hK => ?_) ?_
              · go_simp
                go_at_call 25
                refine (C2.out _).mono ?_
                rintro e v1 ⟨rfl, hb⟩
                have HX := Lib.hid hb
                clear hb
                go_simp
                refine hK.out _ _ ⟨rowKeep HX.out hS.1, Lib.hid (bthen hS.2.out HX.out)⟩ (fun hS => ?_)
                clear hK K HX
                (try simp only [act_put, act_put_none, List.set_cons_zero, List.set_cons_succ])
                repeat (first | (refine held_take (i := 0) (by simp only [List.getElem?_toArray, List.getElem?_cons_succ, List.getElem?_cons_zero]; rfl) (by decide +kernel) (by decide +kernel) (by decide +kernel) (by exact fun _ _ _ _ h => h) hS (by rfl) ?_; apply Exists.intro; refine ⟨fun w' hSw => ?_, ?_⟩; (· (obtain ⟨q1, _⟩ := hSw; go_simp; with_reducible rfl)); (try simp only [act_put, act_put_none, List.set_cons_zero, List.set_cons_succ])) | (refine held_take (i := 1) (by simp only [List.getElem?_toArray, List.getElem?_cons_succ, List.getElem?_cons_zero]; rfl) (by decide +kernel) (by decide +kernel) (by decide +kernel) (by exact fun _ _ _ _ h => h) hS (by rfl) ?_; apply Exists.intro; refine ⟨fun w' hSw => ?_, ?_⟩; (· (obtain ⟨q1, _⟩ := hSw; go_simp; with_reducible rfl)); (try simp only [act_put, act_put_none, List.set_cons_zero, List.set_cons_succ])) | (refine held_take (i := 2) (by simp only [List.getElem?_toArray, List.getElem?_cons_succ, List.getElem?_cons_zero]; rfl) (by decide +kernel) (by decide +kernel) (by decide +kernel) (by exact fun _ _ _ _ h => h) hS (by rfl) ?_; apply Exists.intro; refine ⟨fun w' hSw => ?_, ?_⟩; (· (obtain ⟨q1, _⟩ := hSw; go_simp; with_reducible rfl)); (try simp only [act_put, act_put_none, List.set_cons_zero, List.set_cons_succ])) | (refine held_take (i := 3) (by simp only [List.getElem?_toArray, List.getElem?_cons_succ, List.getElem?_cons_zero]; rfl) (by decide +kernel) (by decide +kernel) (by decide +kernel) (by exact fun _ _ _ _ h => h) hS (by rfl) ?_; apply Exists.intro; refine ⟨fun w' hSw => ?_, ?_⟩; (· (obtain ⟨q1, _⟩ := hSw; go_simp; with_reducible rfl)); (try simp only [act_put, act_put_none, List.set_cons_zero, List.set_cons_succ])) | (refine held_take (i := 4) (by simp only [List.getElem?_toArray, List.getElem?_cons_succ, List.getElem?_cons_zero]; rfl) (by decide +kernel) (by decide +kernel) (by decide +kernel) (by exact fun _ _ _ _ h => h) hS (by rfl) ?_; apply Exists.intro; refine ⟨fun w' hSw => ?_, ?_⟩; (· (obtain ⟨q1, _⟩ := hSw; go_simp; with_reducible rfl)); (try simp only [act_put, act_put_none, List.set_cons_zero, List.set_cons_succ])) | (refine held_take (i := 5) (by simp only [List.getElem?_toArray, List.getElem?_cons_succ, List.getElem?_cons_zero]; rfl) (by decide +kernel) (by decide +kernel) (by decide +kernel) (by exact fun _ _ _ _ h => h) hS (by rfl) ?_; apply Exists.intro; refine ⟨fun w' hSw => ?_, ?_⟩; (· (obtain ⟨q1, _⟩ := hSw; go_simp; with_reducible rfl)); (try simp only [act_put, act_put_none, List.set_cons_zero, List.set_cons_succ])))
                refine wpAnyH_ready (rs := [7]) (by decide +kernel) (by simp) ?_
                refine AllReadyH.cons (i := 7) (by simp only [List.getElem?_toArray, List.getElem?_cons_succ, List.getElem?_cons_zero]; rfl) (fun K hK => ?_) ?_
                · go_simp
                  have hS0 := hS
                  refine hK.out _ _ ⟨rowPast hS.1, Lib.hid (below_allocS hS.2.out _)⟩ (fun hS => ?_)
                  have ra : rowAt (v1.alloc (.cells (ints 288 fun _ => 0) 26)) v1.heap.size = some (ints 288 fun _ => 0, 26) := rowAt_alloc_at _ _ _ _ rfl
                  have nq : w1.heap.size < v1.heap.size := rowAt_lt hS0.1
                  have hz := HB1.out.size
                  clear hK K hS0
                  generalize v1.alloc (.cells (ints 288 fun _ => 0) 26) = vA at *
                  (try simp only [act_put, act_put_none, List.set_cons_zero, List.set_cons_succ])
                  repeat (first | (refine held_take (i := 0) (by simp only [List.getElem?_toArray, List.getElem?_cons_succ, List.getElem?_cons_zero]; rfl) (by decide +kernel) (by decide +kernel) (by decide +kernel) (by exact fun _ _ _ _ h => h) hS (by rfl) ?_; apply Exists.intro; refine ⟨fun w' hSw => ?_, ?_⟩; (· (obtain ⟨q1, _⟩ := hSw; go_simp; with_reducible rfl)); (try simp only [act_put, act_put_none, List.set_cons_zero, List.set_cons_succ])) | (refine held_take (i := 1) (by simp only [List.getElem?_toArray, List.getElem?_cons_succ, List.getElem?_cons_zero]; rfl) (by decide +kernel) (by decide +kernel) (by decide +kernel) (by exact fun _ _ _ _ h => h) hS (by rfl) ?_; apply Exists.intro; refine ⟨fun w' hSw => ?_, ?_⟩; (· (obtain ⟨q1, _⟩ := hSw; go_simp; with_reducible rfl)); (try simp only [act_put, act_put_none, List.set_cons_zero, List.set_cons_succ])) | (refine held_take (i := 2) (by simp only [List.getElem?_toArray, List.getElem?_cons_succ, List.getElem?_cons_zero]; rfl) (by decide +kernel) (by decide +kernel) (by decide +kernel) (by exact fun _ _ _ _ h => h) hS (by rfl) ?_; apply Exists.intro; refine ⟨fun w' hSw => ?_, ?_⟩; (· (obtain ⟨q1, _⟩ := hSw; go_simp; with_reducible rfl)); (try simp only [act_put, act_put_none, List.set_cons_zero, List.set_cons_succ])) | (refine held_take (i := 3) (by simp only [List.getElem?_toArray, List.getElem?_cons_succ, List.getElem?_cons_zero]; rfl) (by decide +kernel) (by decide +kernel) (by decide +kernel) (by exact fun _ _ _ _ h => h) hS (by rfl) ?_; apply Exists.intro; refine ⟨fun w' hSw => ?_, ?_⟩; (· (obtain ⟨q1, _⟩ := hSw; go_simp; with_reducible rfl)); (try simp only [act_put, act_put_none, List.set_cons_zero, List.set_cons_succ])) | (refine held_take (i := 4) (by simp only [List.getElem?_toArray, List.getElem?_cons_succ, List.getElem?_cons_zero]; rfl) (by decide +kernel) (by decide +kernel) (by decide +kernel) (by exact fun _ _ _ _ h => h) hS (by rfl) ?_; apply Exists.intro; refine ⟨fun w' hSw => ?_, ?_⟩; (· (obtain ⟨q1, _⟩ := hSw; go_simp; with_reducible rfl)); (try simp only [act_put, act_put_none, List.set_cons_zero, List.set_cons_succ])) | (refine held_take (i := 5) (by simp only [List.getElem?_toArray, List.getElem?_cons_succ, List.getElem?_cons_zero]; rfl) (by decide +kernel) (by decide +kernel) (by decide +kernel) (by exact fun _ _ _ _ h => h) hS (by rfl) ?_; apply Exists.intro; refine ⟨fun w' hSw => ?_, ?_⟩; (· (obtain ⟨q1, _⟩ := hSw; go_simp; with_reducible rfl)); (try simp only [act_put, act_put_none, List.set_cons_zero, List.set_cons_succ])))
                  refine wpAnyH_ready (rs := [8]) (by decide +kernel) (by simp) ?_
                  refine AllReadyH.cons (i := 8) (by simp only [List.getElem?_toArray, List.getElem?_cons_succ, List.getElem?_cons_zero]; rfl) (fun K hK => ?_) ?_
                  · go_simp
                    refine hK.out _ _ ⟨by rw [rowAt_setRow, if_neg (by omega)]; exact hS.1, Lib.hid (below_setRow' hS.2.out (by omega) _)⟩ (fun hS => ?_)
                    clear hK K
                    (try simp only [act_put, act_put_none, List.set_cons_zero, List.set_cons_succ])
                    repeat (first | (refine held_take (i := 0) (by simp only [List.getElem?_toArray, List.getElem?_cons_succ, List.getElem?_cons_zero]; rfl) (by decide +kernel) (by decide +kernel) (by decide +kernel) (by exact fun _ _ _ _ h => h) hS (by rfl) ?_; apply Exists.intro; refine ⟨fun w' hSw => ?_, ?_⟩; (· (obtain ⟨q1, _⟩ := hSw; go_simp; with_reducible rfl)); (try simp only [act_put, act_put_none, List.set_cons_zero, List.set_cons_succ])) | (refine held_take (i := 1) (by simp only [List.getElem?_toArray, List.getElem?_cons_succ, List.getElem?_cons_zero]; rfl) (by decide +kernel) (by decide +kernel) (by decide +kernel) (by exact fun _ _ _ _ h => h) hS (by rfl) ?_; apply Exists.intro; refine ⟨fun w' hSw => ?_, ?_⟩; (· (obtain ⟨q1, _⟩ := hSw; go_simp; with_reducible rfl)); (try simp only [act_put, act_put_none, List.set_cons_zero, List.set_cons_succ])) | (refine held_take (i := 2) (by simp only [List.getElem?_toArray, List.getElem?_cons_succ, List.getElem?_cons_zero]; rfl) (by decide +kernel) (by decide +kernel) (by decide +kernel) (by exact fun _ _ _ _ h => h) hS (by rfl) ?_; apply Exists.intro; refine ⟨fun w' hSw => ?_, ?_⟩; (· (obtain ⟨q1, _⟩ := hSw; go_simp; with_reducible rfl)); (try simp only [act_put, act_put_none, List.set_cons_zero, List.set_cons_succ])) | (refine held_take (i := 3) (by simp only [List.getElem?_toArray, List.getElem?_cons_succ, List.getElem?_cons_zero]; rfl) (by decide +kernel) (by decide +kernel) (by decide +kernel) (by exact fun _ _ _ _ h => h) hS (by rfl) ?_; apply Exists.intro; refine ⟨fun w' hSw => ?_, ?_⟩; (· (obtain ⟨q1, _⟩ := hSw; go_simp; with_reducible rfl)); (try simp only [act_put, act_put_none, List.set_cons_zero, List.set_cons_succ])) | (refine held_take (i := 4) (by simp only [List.getElem?_toArray, List.getElem?_cons_succ, List.getElem?_cons_zero]; rfl) (by decide +kernel) (by decide +kernel) (by decide +kernel) (by exact fun _ _ _ _ h => h) hS (by rfl) ?_; apply Exists.intro; refine ⟨fun w' hSw => ?_, ?_⟩; (· (obtain ⟨q1, _⟩ := hSw; go_simp; with_reducible rfl)); (try simp only [act_put, act_put_none, List.set_cons_zero, List.set_cons_succ])) | (refine held_take (i := 5) (by simp only [List.getElem?_toArray, List.getElem?_cons_succ, List.getElem?_cons_zero]; rfl) (by decide +kernel) (by decide +kernel) (by decide +kernel) (by exact fun _ _ _ _ h => h) hS (by rfl) ?_; apply Exists.intro; refine ⟨fun w' hSw => ?_, ?_⟩; (· (obtain ⟨q1, _⟩ := hSw; go_simp; with_reducible rfl)); (try simp only [act_put, act_put_none, List.set_cons_zero, List.set_cons_succ])))
                    refine wpAnyH_done (by decide +kernel) ?_ _
                    go_wp2_with fail
                    go_meet
                    exact ⟨v1.heap.size, rfl, by simp [rowAt_setRow, ra], nq, hS.1, hS.2.out⟩
                  exact AllReadyH.nil
                exact AllReadyH.nil
              refine AllReadyH.cons (i := 7) (by simp only [List.getElem?_toArray, List.getElem?_cons_succ, List.getElem?_cons_zero]; rfl) (fun K hK => ?_) ?_
              · go_simp
                have hS0 := hS
                refine hK.out _ _ ⟨rowPast hS.1, Lib.hid (below_allocS hS.2.out _)⟩ (fun hS => ?_)
                have ra : rowAt (W1.alloc (.cells (ints 288 fun _ => 0) 26)) W1.heap.size = some (ints 288 fun _ => 0, 26) := rowAt_alloc_at _ _ _ _ rfl
                have nq : w1.heap.size < W1.heap.size := rowAt_lt hS0.1
                have hz := HB1.out.size
                clear hK K hS0
                generalize W1.alloc (.cells (ints 288 fun _ => 0) 26) = vA at *
                (try simp only [act_put, act_put_none, List.set_cons_zero, List.set_cons_succ])
                repeat (first | (refine held_take (i := 0) (by simp only [List.getElem?_toArray, List.getElem?_cons_succ, List.getElem?_cons_zero]; rfl) (by decide +kernel) (by decide +kernel) (by decide +kernel) (by exact fun _ _ _ _ h => h) hS (by rfl) ?_; apply Exists.intro; refine ⟨fun w' hSw => ?_, ?_⟩; (· (obtain ⟨q1, _⟩ := hSw; go_simp; with_reducible rfl)); (try simp only [act_put, act_put_none, List.set_cons_zero, List.set_cons_succ])) | (refine held_take (i := 1) (by simp only [List.getElem?_toArray, List.getElem?_cons_succ, List.getElem?_cons_zero]; rfl) (by decide +kernel) (by decide +kernel) (by decide +kernel) (by exact fun _ _ _ _ h => h) hS (by rfl) ?_; apply Exists.intro; refine ⟨fun w' hSw => ?_, ?_⟩; (· (obtain ⟨q1, _⟩ := hSw; go_simp; with_reducible rfl)); (try simp only [act_put, act_put_none, List.set_cons_zero, List.set_cons_succ])) | (refine held_take (i := 2) (by simp only [List.getElem?_toArray, List.getElem?_cons_succ, List.getElem?_cons_zero]; rfl) (by decide +kernel) (by decide +kernel) (by decide +kernel) (by exact fun _ _ _ _ h => h) hS (by rfl) ?_; apply Exists.intro; refine ⟨fun w' hSw => ?_, ?_⟩; (· (obtain ⟨q1, _⟩ := hSw; go_simp; with_reducible rfl)); (try simp only [act_put, act_put_none, List.set_cons_zero, List.set_cons_succ])) | (refine held_take (i := 3) (by simp only [List.getElem?_toArray, List.getElem?_cons_succ, List.getElem?_cons_zero]; rfl) (by decide +kernel) (by decide +kernel) (by decide +kernel) (by exact fun _ _ _ _ h => h) hS (by rfl) ?_; apply Exists.intro; refine ⟨fun w' hSw => ?_, ?_⟩; (· (obtain ⟨q1, _⟩ := hSw; go_simp; with_reducible rfl)); (try simp only [act_put, act_put_none, List.set_cons_zero, List.set_cons_succ])) | (refine held_take (i := 4) (by simp only [List.getElem?_toArray, List.getElem?_cons_succ, List.getElem?_cons_zero]; rfl) (by decide +kernel) (by decide +kernel) (by decide +kernel) (by exact fun _ _ _ _ h => h) hS (by rfl) ?_; apply Exists.intro; refine ⟨fun w' hSw => ?_, ?_⟩; (· (obtain ⟨q1, _⟩ := hSw; go_simp; with_reducible rfl)); (try simp only [act_put, act_put_none, List.set_cons_zero, List.set_cons_succ])) | (refine held_take (i := 5) (by simp only [List.getElem?_toArray, List.getElem?_cons_succ, List.getElem?_cons_zero]; rfl) (by decide +kernel) (by decide +kernel) (by decide +kernel) (by exact fun _ _ _ _ h => h) hS (by rfl) ?_; apply Exists.intro; refine ⟨fun w' hSw => ?_, ?_⟩; (· (obtain ⟨q1, _⟩ := hSw; go_simp; with_reducible rfl)); (try simp only [act_put, act_put_none, List.set_cons_zero, List.set_cons_succ])))
                refine wpAnyH_ready (rs := [6]) (by decide +kernel) (by simp) ?_
                refine AllReadyH.cons (i := 6) (by simp only [List.getElem?_toArray, List.getElem?_cons_succ, List.getElem?_cons_zero]; rfl) (fun K hK => ?_) ?_
                · go_simp
                  go_at_call 25
                  refine (C2.out _).mono ?_
                  rintro e v1 ⟨rfl, hb⟩
                  have HX := Lib.hid hb
                  clear hb
                  have ra := rowKeep HX.out ra
                  go_simp
                  refine hK.out _ _ ⟨rowKeep HX.out hS.1, Lib.hid (bthen hS.2.out HX.out)⟩ (fun hS => ?_)
                  clear hK K HX
                  (try simp only [act_put, act_put_none, List.set_cons_zero, List.set_cons_succ])
                  repeat (first | (refine held_take (i := 0) (by simp only [List.getElem?_toArray, List.getElem?_cons_succ, List.getElem?_cons_zero]; rfl) (by decide +kernel) (by decide +kernel) (by decide +kernel) (by exact fun _ _ _ _ h => h) hS (by rfl) ?_; apply Exists.intro; refine ⟨fun w' hSw => ?_, ?_⟩; (· (obtain ⟨q1, _⟩ := hSw; go_simp; with_reducible rfl)); (try simp only [act_put, act_put_none, List.set_cons_zero, List.set_cons_succ])) | (refine held_take (i := 1) (by simp only [List.getElem?_toArray, List.getElem?_cons_succ, List.getElem?_cons_zero]; rfl) (by decide +kernel) (by decide +kernel) (by decide +kernel) (by exact fun _ _ _ _ h => h) hS (by rfl) ?_; apply Exists.intro; refine ⟨fun w' hSw => ?_, ?_⟩; (· (obtain ⟨q1, _⟩ := hSw; go_simp; with_reducible rfl)); (try simp only [act_put, act_put_none, List.set_cons_zero, List.set_cons_succ])) | (refine held_take (i := 2) (by simp only [List.getElem?_toArray, List.getElem?_cons_succ, List.getElem?_cons_zero]; rfl) (by decide +kernel) (by decide +kernel) (by decide +kernel) (by exact fun _ _ _ _ h => h) hS (by rfl) ?_; apply Exists.intro; refine ⟨fun w' hSw => ?_, ?_⟩; (· (obtain ⟨q1, _⟩ := hSw; go_simp; with_reducible rfl)); (try simp only [act_put, act_put_none, List.set_cons_zero, List.set_cons_succ])) | (refine held_take (i := 3) (by simp only [List.getElem?_toArray, List.getElem?_cons_succ, List.getElem?_cons_zero]; rfl) (by decide +kernel) (by decide +kernel) (by decide +kernel) (by exact fun _ _ _ _ h => h) hS (by rfl) ?_; apply Exists.intro; refine ⟨fun w' hSw => ?_, ?_⟩; (· (obtain ⟨q1, _⟩ := hSw; go_simp; with_reducible rfl)); (try simp only [act_put, act_put_none, List.set_cons_zero, List.set_cons_succ])) | (refine held_take (i := 4) (by simp only [List.getElem?_toArray, List.getElem?_cons_succ, List.getElem?_cons_zero]; rfl) (by decide +kernel) (by decide +kernel) (by decide +kernel) (by exact fun _ _ _ _ h => h) hS (by rfl) ?_; apply Exists.intro; refine ⟨fun w' hSw => ?_, ?_⟩; (· (obtain ⟨q1, _⟩ := hSw; go_simp; with_reducible rfl)); (try simp only [act_put, act_put_none, List.set_cons_zero, List.set_cons_succ])) | (refine held_take (i := 5) (by simp only [List.getElem?_toArray, List.getElem?_cons_succ, List.getElem?_cons_zero]; rfl) (by decide +kernel) (by decide +kernel) (by decide +kernel) (by exact fun _ _ _ _ h => h) hS (by rfl) ?_; apply Exists.intro; refine ⟨fun w' hSw => ?_, ?_⟩; (· (obtain ⟨q1, _⟩ := hSw; go_simp; with_reducible rfl)); (try simp only [act_put, act_put_none, List.set_cons_zero, List.set_cons_succ])))
                  refine wpAnyH_ready (rs := [8]) (by decide +kernel) (by simp) ?_
                  refine AllReadyH.cons (i := 8) (by simp only [List.getElem?_toArray, List.getElem?_cons_succ, List.getElem?_cons_zero]; rfl) (fun K hK => ?_) ?_
                  · go_simp
                    refine hK.out _ _ ⟨by rw [rowAt_setRow, if_neg (by omega)]; exact hS.1, Lib.hid (below_setRow' hS.2.out (by omega) _)⟩ (fun hS => ?_)
                    clear hK K
                    (try simp only [act_put, act_put_none, List.set_cons_zero, List.set_cons_succ])
                    repeat (first | (refine held_take (i := 0) (by simp only [List.getElem?_toArray, List.getElem?_cons_succ, List.getElem?_cons_zero]; rfl) (by decide +kernel) (by decide +kernel) (by decide +kernel) (by exact fun _ _ _ _ h => h) hS (by rfl) ?_; apply Exists.intro; refine ⟨fun w' hSw => ?_, ?_⟩; (· (obtain ⟨q1, _⟩ := hSw; go_simp; with_reducible rfl)); (try simp only [act_put, act_put_none, List.set_cons_zero, List.set_cons_succ])) | (refine held_take (i := 1) (by simp only [List.getElem?_toArray, List.getElem?_cons_succ, List.getElem?_cons_zero]; rfl) (by decide +kernel) (by decide +kernel) (by decide +kernel) (by exact fun _ _ _ _ h => h) hS (by rfl) ?_; apply Exists.intro; refine ⟨fun w' hSw => ?_, ?_⟩; (· (obtain ⟨q1, _⟩ := hSw; go_simp; with_reducible rfl)); (try simp only [act_put, act_put_none, List.set_cons_zero, List.set_cons_succ])) | (refine held_take (i := 2) (by simp only [List.getElem?_toArray, List.getElem?_cons_succ, List.getElem?_cons_zero]; rfl) (by decide +kernel) (by decide +kernel) (by decide +kernel) (by exact fun _ _ _ _ h => h) hS (by rfl) ?_; apply Exists.intro; refine ⟨fun w' hSw => ?_, ?_⟩; (· (obtain ⟨q1, _⟩ := hSw; go_simp; with_reducible rfl)); (try simp only [act_put, act_put_none, List.set_cons_zero, List.set_cons_succ])) | (refine held_take (i := 3) (by simp only [List.getElem?_toArray, List.getElem?_cons_succ, List.getElem?_cons_zero]; rfl) (by decide +kernel) (by decide +kernel) (by decide +kernel) (by exact fun _ _ _ _ h => h) hS (by rfl) ?_; apply Exists.intro; refine ⟨fun w' hSw => ?_, ?_⟩; (· (obtain ⟨q1, _⟩ := hSw; go_simp; with_reducible rfl)); (try simp only [act_put, act_put_none, List.set_cons_zero, List.set_cons_succ])) | (refine held_take (i := 4) (by simp only [List.getElem?_toArray, List.getElem?_cons_succ, List.getElem?_cons_zero]; rfl) (by decide +kernel) (by decide +kernel) (by decide +kernel) (by exact fun _ _ _ _ h => h) hS (by rfl) ?_; apply Exists.intro; refine ⟨fun w' hSw => ?_, ?_⟩; (· (obtain ⟨q1, _⟩ := hSw; go_simp; with_reducible rfl)); (try simp only [act_put, act_put_none, List.set_cons_zero, List.set_cons_succ])) | (refine held_take (i := 5) (by simp only [List.getElem?_toArray, List.getElem?_cons_succ, List.getElem?_cons_zero]; rfl) (by decide +kernel) (by decide +kernel) (by decide +kernel) (by exact fun _ _ _ _ h => h) hS (by rfl) ?_; apply Exists.intro; refine ⟨fun w' hSw => ?_, ?_⟩; (· (obtain ⟨q1, _⟩ := hSw; go_simp; with_reducible rfl)); (try simp only [act_put, act_put_none, List.set_cons_zero, List.set_cons_succ])))
                    refine wpAnyH_done (by decide +kernel) ?_ _
                    go_wp2_with fail
                    go_meet
                    exact ⟨W1.heap.size, rfl, by simp [rowAt_setRow, ra], nq, hS.1, hS.2.out⟩
                  exact AllReadyH.nil
                exact AllReadyH.nil
              exact AllReadyH.nil
            case rest =>
            obtain ⟨q, rfl, rq, nq, r1, hb1⟩ := hcut
            have HB2 := Lib.hid hb1
            have hz := HB1.out.size
            have l1 := rowAt_lt r1
            have l2 := rowAt_lt rq
            clear hb1
            go_wp2_with fail
            refine (C3.out _).mono ?_
            rintro e w3 ⟨rfl, hb3⟩
            have s1 := rowKeep hb3 r1
            have sq := rowKeep hb3 rq
            have HB3 := Lib.hid (bthen HB2.out hb3)
            have l1 := rowAt_lt s1
            have l2 := rowAt_lt sq
            clear hb3 r1 rq HB2
            go_wp2_with fail
            refine (C4.out _).mono ?_
            rintro e w4 ⟨rfl, hb4⟩
            have p1 := rowKeep hb4 s1
            have p2 := rowKeep hb4 sq
            have HB4 := Lib.hid (bthen HB3.out hb4)
            have l1 := rowAt_lt p1
            have l2 := rowAt_lt p2
            clear hb4 s1 sq HB3
            have d3 : w4.cell? ⟨w1.heap.size, i * 288 + 16 + i, none⟩ = some (.int .i64 (J (16 + i))) := by
              rw [cell_of_rowAt p1, Nat.add_assoc, get_flatA _ hi (show 16 + i < 288 by omega), HR.out (16 + i) (by omega) (Or.inr (Or.inl rfl))]
            have d4 : w4.cell? ⟨q, 16 + i, none⟩ = some (.int .i64 (J (16 + i))) := by rw [cell_of_rowAt p2]; exact get_ints 288 _ _ (by omega)
            have d5 : cut (flatA S) (i * 288 + 32 + i * 16) 16 = ints 16 (sub (32 + i * 16) J) := by
              rw [Nat.add_assoc, cut_flatA_in _ hi (by omega)]
              exact ints_congr fun p hp => HR.out (32 + i * 16 + p) (by omega) (Or.inr (Or.inr ⟨by omega, by omega⟩))
            have hle : 32 + i * 16 + 16 ≤ 288 := by omega
            have hle2 : i * 288 + 32 + i * 16 + 16 ≤ 4608 := by omega
            have g1 : decide (NX ≤ NY) = true := decide_eq_true hle0
            go_upto_region 7 with fail
            refine region_quiet (by kernel_rfl) (by kernel_rfl) ?_
            repeat (go_big_quiet_step ((first | (go_at_call 26; exact quiet_call (by simp) (overR_is (by assumption) _)) | (go_at_call 25; exact quiet_call (by simp) (C5.out _)) | (go_at_call 17; exact quiet_call (by simp) (awake3 _)))))
            refine wpQuiet_nil ?_
            intro w5 hb5
            have HB5 := Lib.hid (bthen HB4.out hb5)
            clear hb5
            go_wp2_with fail
            go_ret
            exact ⟨rfl, HB5.out⟩
          · go_wp2_with fail
            refine (awake3 _).mono ?_
            rintro e w9 ⟨rfl, hb9⟩
            have HB9 := Lib.hid hb9
            clear hb9
            go_wp2_with fail
            go_ret
            exact ⟨rfl, HB9.out⟩
      · go_wp2_with fail
        refine (awake3 _).mono ?_
        rintro e w9 ⟨rfl, hb9⟩
        have HB9 := Lib.hid hb9
        clear hb9
        go_wp2_with fail
        go_ret
        exact ⟨rfl, HB9.out⟩
  · have hL' : ¬ (L : Int) ≤ 60 := by omega
    go_wp2_with fail
    refine (awake3 _).mono ?_
    rintro e w9 ⟨rfl, hb9⟩
    have HB9 := Lib.hid hb9
    clear hb9
    go_wp2_with fail
    go_ret
    exact ⟨rfl, HB9.out⟩
end Go.Proofs.Ytpicfjlcepfneaa
