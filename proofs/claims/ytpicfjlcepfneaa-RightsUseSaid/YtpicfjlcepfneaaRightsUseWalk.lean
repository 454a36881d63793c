/-
  The walk of RightsUse.
-/
import Derived.Test.YtpicfjlcepfneaaRVecs
import Derived.Test.YtpicfjlcepfneaaRUse
namespace Go.Proofs.Ytpicfjlcepfneaa
open Go.RowKit
attribute [local go_sem] rowCells rowAt_drewN get_ints getE_ints set_ints size_ints rowAt_alloc rowAt_drew setRow_alloc setRow_drewN setRow_drew setCell_alloc setCell_drewN splice_upd splice_all load_vec_cut load_vecs_cut load_rights_cut store_vec store_rights eql_vec neq_vec index_vec eql_rights neq_rights index_vecs cut_ints sub_zero
attribute [local go_sem ↓] xload_vec xstore_vec xalloc_vec xeql_vec xneq_vec xindex_vec xbuild_vec0 xload_rights xstore_rights xalloc_rights xeql_rights xneq_rights xbuild_rights0 xload_vecs xindex_vecs
attribute [local go_sem] rowAt_setRow rowAt_setCell load_vec_cut_later load_rights_later Later.cell Later.frozen
attribute [local go_sem] rn_true rn_false re_true re_false eqI_self
attribute [local go_sem ↓] xbuildSlice_vecs
attribute [local go_sem] bs2_ints

theorem overR_is {f g : Nat → Int} {b : Bool} (h : overR f g = b) (w : World) : Calls Try.prog 26 #[.agg (ints 288 f), .agg (ints 288 g)] w fun e w' => e = .returned (.bool b) ∧ Below w.heap.size w w' := by rw [← h]; exact overR_any f g w
theorem free_is {r : Nat → Int} {k : Int} {N : Int} (h1 : freeE r k = 0) (h2 : freeN r k = N) (w : World) : Calls Try.prog 18 #[.agg (ints 288 r), .int .i64 k] w fun e w' =>
    e = .returned (.tuple #[.int .i64 N, .int .i64 0]) ∧ Below w.heap.size w w' := by rw [← h1, ← h2]; exact free_any r k w
set_option maxRecDepth 100000 in
set_option maxHeartbeats 16000000 in
theorem rightsUse_walk (r : Nat → Int) (_hr : ∀ i, i < 288 → -9223372036854775808 ≤ r i ∧ r i ≤ 9223372036854775807) (k : Int) (_hk : -9223372036854775808 ≤ k ∧ k ≤ 9223372036854775807) (n : Int) (_hn : -9223372036854775808 ≤ n ∧ n ≤ 9223372036854775807) (w : World) :
    Calls Try.prog 8 #[.agg (ints 288 r), .int .i64 k, .int .i64 n] w fun e w' => e = .returned (.bool true) ∧ Below w.heap.size w w' := by
  clear _hr _hk _hn
  go_enter Try.func8, Try.ntmps8
  go_upto_region 1 with fail
  have r1 : rowAt (w.alloc (.cells (ints 288 r) 26)) w.heap.size = some (ints 288 r, 26) := rowAt_alloc_at _ _ _ _ rfl
  have hb0 : Below w.heap.size w (w.alloc (.cells (ints 288 r) 26)) := (Below.refl _ _).alloc (Nat.le_refl _) _
  generalize w.alloc (.cells (ints 288 r) 26) = W at *
  refine wp_region_held_drew (S := fun w' : World => rowAt w' w.heap.size = some (ints 288 r, 26) ∧ Hid (Below w.heap.size w w')) (by kernel_rfl) ⟨r1, Lib.hid hb0.drew⟩ (fun hS => ?_)
  clear r1 hb0
  generalize W.drew = W1 at *
  repeat (first | (refine held_take (i := 0) (by simp only [List.getElem?_toArray, List.getElem?_cons_succ, List.getElem?_cons_zero]; rfl) (by decide +kernel) (by decide +kernel) (by decide +kernel) (by exact fun _ _ _ _ h => h) hS (by rfl) ?_; apply Exists.intro; refine ⟨fun w' hSw => ?_, ?_⟩; (· (obtain ⟨q1, _⟩ := hSw; go_simp; with_reducible rfl)); (try simp only [act_put, act_put_none, List.set_cons_zero, List.set_cons_succ])) | (refine held_take (i := 1) (by simp only [List.getElem?_toArray, List.getElem?_cons_succ, List.getElem?_cons_zero]; rfl) (by decide +kernel) (by decide +kernel) (by decide +kernel) (by exact fun _ _ _ _ h => h) hS (by rfl) ?_; apply Exists.intro; refine ⟨fun w' hSw => ?_, ?_⟩; (· (obtain ⟨q1, _⟩ := hSw; go_simp; with_reducible rfl)); (try simp only [act_put, act_put_none, List.set_cons_zero, List.set_cons_succ])) | (refine held_take (i := 2) (by simp only [List.getElem?_toArray, List.getElem?_cons_succ, List.getElem?_cons_zero]; rfl) (by decide +kernel) (by decide +kernel) (by decide +kernel) (by exact fun _ _ _ _ h => h) hS (by rfl) ?_; apply Exists.intro; refine ⟨fun w' hSw => ?_, ?_⟩; (· (obtain ⟨q1, _⟩ := hSw; go_simp; with_reducible rfl)); (try simp only [act_put, act_put_none, List.set_cons_zero, List.set_cons_succ])) | (refine held_take (i := 3) (by simp only [List.getElem?_toArray, List.getElem?_cons_succ, List.getElem?_cons_zero]; rfl) (by decide +kernel) (by decide +kernel) (by decide +kernel) (by exact fun _ _ _ _ h => h) hS (by rfl) ?_; apply Exists.intro; refine ⟨fun w' hSw => ?_, ?_⟩; (· (obtain ⟨q1, _⟩ := hSw; go_simp; with_reducible rfl)); (try simp only [act_put, act_put_none, List.set_cons_zero, List.set_cons_succ])) | (refine held_take (i := 4) (by simp only [List.getElem?_toArray, List.getElem?_cons_succ, List.getElem?_cons_zero]; rfl) (by decide +kernel) (by decide +kernel) (by decide +kernel) (by exact fun _ _ _ _ h => h) hS (by rfl) ?_; apply Exists.intro; refine ⟨fun w' hSw => ?_, ?_⟩; (· (obtain ⟨q1, _⟩ := hSw; go_simp; with_reducible rfl)); (try simp only [act_put, act_put_none, List.set_cons_zero, List.set_cons_succ])) | (refine held_take (i := 5) (by simp only [List.getElem?_toArray, List.getElem?_cons_succ, List.getElem?_cons_zero]; rfl) (by decide +kernel) (by decide +kernel) (by decide +kernel) (by exact fun _ _ _ _ h => h) hS (by rfl) ?_; apply Exists.intro; refine ⟨fun w' hSw => ?_, ?_⟩; (· (obtain ⟨q1, _⟩ := hSw; go_simp; with_reducible rfl)); (try simp only [act_put, act_put_none, List.set_cons_zero, List.set_cons_succ])) | (refine held_take (i := 6) (by simp only [List.getElem?_toArray, List.getElem?_cons_succ, List.getElem?_cons_zero]; rfl) (by decide +kernel) (by decide +kernel) (by decide +kernel) (by exact fun _ _ _ _ h => h) hS (by rfl) ?_; apply Exists.intro; refine ⟨fun w' hSw => ?_, ?_⟩; (· (obtain ⟨q1, _⟩ := hSw; go_simp; with_reducible rfl)); (try simp only [act_put, act_put_none, List.set_cons_zero, List.set_cons_succ])) | (refine held_take (i := 7) (by simp only [List.getElem?_toArray, List.getElem?_cons_succ, List.getElem?_cons_zero]; rfl) (by decide +kernel) (by decide +kernel) (by decide +kernel) (by exact fun _ _ _ _ h => h) hS (by rfl) ?_; apply Exists.intro; refine ⟨fun w' hSw => ?_, ?_⟩; (· (obtain ⟨q1, _⟩ := hSw; go_simp; with_reducible rfl)); (try simp only [act_put, act_put_none, List.set_cons_zero, List.set_cons_succ])) | (refine held_take (i := 8) (by simp only [List.getElem?_toArray, List.getElem?_cons_succ, List.getElem?_cons_zero]; rfl) (by decide +kernel) (by decide +kernel) (by decide +kernel) (by exact fun _ _ _ _ h => h) hS (by rfl) ?_; apply Exists.intro; refine ⟨fun w' hSw => ?_, ?_⟩; (· (obtain ⟨q1, _⟩ := hSw; go_simp; with_reducible rfl)); (try simp only [act_put, act_put_none, List.set_cons_zero, List.set_cons_succ])) | (refine held_take (i := 9) (by simp only [List.getElem?_toArray, List.getElem?_cons_succ, List.getElem?_cons_zero]; rfl) (by decide +kernel) (by decide +kernel) (by decide +kernel) (by exact fun _ _ _ _ h => h) hS (by rfl) ?_; apply Exists.intro; refine ⟨fun w' hSw => ?_, ?_⟩; (· (obtain ⟨q1, _⟩ := hSw; go_simp; with_reducible rfl)); (try simp only [act_put, act_put_none, List.set_cons_zero, List.set_cons_succ])))
  refine wpAnyH_ready (rs := [4]) (by decide +kernel) (by simp) ?_
  refine AllReadyH.cons (i := 4) (by simp only [List.getElem?_toArray, List.getElem?_cons_succ, List.getElem?_cons_zero]; rfl) (fun K hK => ?_) AllReadyH.nil
  go_simp
  refine hK.out _ _ ⟨rowPast hS.1, Lib.hid (below_allocS hS.2.out _)⟩ (fun hS1 => ?_)
  clear hK K
  (try simp only [act_put, act_put_none, List.set_cons_zero, List.set_cons_succ])
  have hq : rowAt (W1.alloc (.cells (ints 32 (two16 r (sub 16 r))) 23)) W1.heap.size = some (ints 32 (two16 r (sub 16 r)), 23) := rowAt_alloc_at _ _ _ _ rfl
  have nq : w.heap.size + 1 ≤ W1.heap.size := rowAt_lt hS.1
  have hS := hS1
  clear hS1
  generalize W1.alloc (.cells (ints 32 (two16 r (sub 16 r))) 23) = W2 at *
  refine wpAnyH_ready (rs := [7]) (by decide +kernel) (by simp) ?_
  refine AllReadyH.cons (i := 7) (by simp only [List.getElem?_toArray, List.getElem?_cons_succ, List.getElem?_cons_zero]; rfl) (fun K hK => ?_) AllReadyH.nil
  rw [if_pos (by rfl)]
  refine append_vecs _ _ rfl (w.heap.size + 1) W1.heap.size w.heap.size r hq nq hS.1 (Nat.lt_succ_self _) rfl rfl ?_
  intro g cap W3 hg hV hb3
  have hr3 : rowAt W3 w.heap.size = some (ints 288 r, 26) := (rowAt_below hb3 _ (Nat.lt_succ_self _)).trans hS.1
  refine hK.out _ _ ⟨hr3, Lib.hid (hS.2.out.trans (hb3.mono (Nat.le_succ _)))⟩ (fun hS1 => ?_)
  have hS := hS1
  clear hK K hS1 hb3 hr3 hq
  (try simp only [act_put, act_put_none, List.set_cons_zero, List.set_cons_succ])
  refine wpAnyH_ready (rs := [8]) (by decide +kernel) (by simp) ?_
  refine AllReadyH.cons (i := 8) (by simp only [List.getElem?_toArray, List.getElem?_cons_succ, List.getElem?_cons_zero]; rfl) (fun K hK => ?_) AllReadyH.nil
  go_simp
  refine hK.out _ _ hS (fun _ => ?_)
  clear hK K
  (try simp only [act_put, act_put_none, List.set_cons_zero, List.set_cons_succ])
  refine wpAnyH_done (by decide +kernel) ?_ _
  have HV := Lib.hid hV
  have HS := Lib.hid hS
  clear hV hS
  go_wp2_with fail
  go_loopw [34] (fun i w' => ∃ m : Nat, m ≤ 18 ∧ i = .int .i64 m ∧ (∀ q, q < m * 16 → inR (r q)) ∧ rowAt w' w.heap.size = some (ints 288 r, 26) ∧ Vecs w' g r ∧ Below w.heap.size w w') (fun i _ => 18 - (intOf i).toNat)
  case atStart => exact ⟨0, by omega, rfl, fun q hq => by omega, HS.out.1, HV.out, HS.out.2.out⟩
  case round =>
    rename_i wr
    obtain ⟨m, hm, rfl, hall, hr, hV, hb⟩ := hrel
    have HA := Lib.hid hall
    have HB := Lib.hid hb
    have HVr := Lib.hid hV
    clear hall hb HV HS
    by_cases hlt : m < 18
    · have hld := hV.load hlt
      have hsz := hV.lt
      clear hV
      have r1 := rowPast (o := .cells (ints 16 (sub (m * 16) r)) 23) hr
      go_wp2_with fail
      go_loop [39] (fun i => ∃ j : Nat, j ≤ 16 ∧ i = .int .i64 j ∧ ∀ q, q < m * 16 + j → inR (r q)) (fun i => 16 - (intOf i).toNat)
      case atStart => exact ⟨0, by omega, rfl, HA.out⟩
      case round =>
        obtain ⟨j, hj, rfl, hall2⟩ := hrel
        have HA2 := Lib.hid hall2
        clear hall2 r1
        by_cases hlt2 : j < 16
        · have hx : sub (m * 16) r j = r (m * 16 + j) := rfl
          by_cases h1 : r (m * 16 + j) < 0
          · have h1' := h1
            rw [← hx] at h1'
            go_wp2_with fail
            refine (awake3 _).mono ?_
            rintro e w9 ⟨rfl, hb9⟩
            have HB9 := Lib.hid (bthen (below_allocS HB.out _) hb9)
            clear hb9
            go_wp2_with fail
            go_ret
            exact ⟨rfl, HB9.out⟩
          · have h1' := h1
            rw [← hx] at h1'
            by_cases h2 : r (m * 16 + j) ≤ 1073741824
            · have h2' := h2
              rw [← hx] at h2'
              go_wp2_with fail
              go_round
              case rel =>
                refine ⟨j + 1, by omega, by go_num, fun q hq => ?_⟩
                by_cases hqj : q = m * 16 + j
                · rw [hqj]; exact ⟨by omega, h2⟩
                · exact HA2.out q (by omega)
              case measure => simp [intOf]; omega
            · have h2' := h2
              rw [← hx] at h2'
              go_wp2_with fail
              refine (awake3 _).mono ?_
              rintro e w9 ⟨rfl, hb9⟩
              have HB9 := Lib.hid (bthen (below_allocS HB.out _) hb9)
              clear hb9
              go_wp2_with fail
              go_ret
              exact ⟨rfl, HB9.out⟩
        · have HJ := Lib.hid (show j = 16 by omega)
          have hj16 : (16 : Int) ≤ (j : Int) := by omega
          go_wp2_with fail
          go_roundw
          case rel => exact ⟨m + 1, by omega, by go_num, fun q hq => HA2.out q (by have := HJ.out; omega), rowPast hr, HVr.out.below ((Below.refl _ _).alloc (Nat.le_refl _) _) hsz, below_allocS HB.out _⟩
          case measure => simp [intOf]; omega
    · have HM := Lib.hid (show m = 18 by omega)
      have hm18 : (18 : Int) ≤ (m : Int) := by omega
      have HI := Lib.hid (fun q (hq : q < 288) => HA.out q (by have := HM.out; omega))
      clear hV HVr HA
      obtain ⟨tE, t1, t2⟩ := total_bound HI.out
      obtain ⟨TT, hTr⟩ : ∃ TT, TT = totalN r := ⟨_, rfl⟩
      have c0 := total_any r
      rw [tE, ← hTr] at c0
      rw [← hTr] at t1 t2
      have HTR := Lib.hid hTr
      have C0 := Lib.hid c0
      clear c0 tE hTr
      go_wp2_with fail
      refine (C0.out _).mono ?_
      rintro e w0 ⟨rfl, hb0⟩
      have r0 := rowKeep hb0 hr
      have HB0 := Lib.hid (bthen HB.out hb0)
      clear hb0 hr
      have q0 := rowPast (o := .cells #[.func (.func 13) #[] #[], .func (.func 11) #[] #[]] 29) r0
      have qf : rowAt (w0.alloc (.cells #[.func (.func 13) #[] #[], .func (.func 11) #[] #[]] 29)) w0.heap.size = some (#[.func (.func 13) #[] #[], .func (.func 11) #[] #[]], 29) := rowAt_alloc_at _ _ _ _ rfl
      have HBf := Lib.hid (below_allocS HB0.out (.cells #[.func (.func 13) #[] #[], .func (.func 11) #[] #[]] 29))
      go_wp2_with fail
      go_loopw [58] (fun i w' => ∃ u : Nat, u ≤ 2 ∧ i = .int .i64 u ∧ rowAt w' w.heap.size = some (ints 288 r, 26) ∧ rowAt w' w0.heap.size = some (#[.func (.func 13) #[] #[], .func (.func 11) #[] #[]], 29) ∧ Below w.heap.size w w') (fun i _ => 2 - (intOf i).toNat)
      case atStart => exact ⟨0, by omega, rfl, q0, qf, HBf.out⟩
      case round =>
        rename_i wm
        obtain ⟨u, hu, rfl, q1, q3, hbm⟩ := hrel
        have HBm := Lib.hid hbm
        clear hbm r0 HB0 q0 qf HBf
        by_cases hu0 : u = 0
        · subst hu0
          have hc0 := (cell_of_rowAt q3 0).trans (show _ = some (Value.func (Fn.func 13) #[] #[]) from rfl)
          by_cases h0 : useE r k n = 0
          · obtain ⟨b, hkb, hb16, n0, n1, hT⟩ := use_turned HI.out h0
            have c1 := use_any r k n
            rw [h0] at c1
            subst hkb
            generalize useF r b n = x at *
            have C1 := Lib.hid c1
            have HT := Lib.hid hT
            clear c1 hT h0
            go_wp2_with fail
            refine (C1.out _).mono ?_
            rintro e w1 ⟨rfl, hb1⟩
            have r1 := rowKeep hb1 q1
            have rf := rowKeep hb1 q3
            have HB1 := Lib.hid (bthen HBm.out hb1)
            have l1 := Nat.ne_of_lt (rowAt_lt r1)
            have l3 := Nat.ne_of_lt (rowAt_lt rf)
            clear hb1 q1 q3
            have rx : rowAt (w1.alloc (.cells (ints 288 x) 26)) w1.heap.size = some (ints 288 x, 26) := rowAt_alloc_at _ _ _ _ rfl
            have ry := rowPast (o := .cells (ints 288 x) 26) r1
            have rg := rowPast (o := .cells (ints 288 x) 26) rf
            have HBW := Lib.hid (below_allocS HB1.out (.cells (ints 288 x) 26))
            go_wp2_with fail
            go_loopw [78] (fun i w' => ∃ j : Nat, j ≤ 16 ∧ i = .int .i64 j ∧ rowAt w' w.heap.size = some (ints 288 r, 26) ∧ rowAt w' w1.heap.size = some (ints 288 x, 26) ∧ rowAt w' w0.heap.size = some (#[.func (.func 13) #[] #[], .func (.func 11) #[] #[]], 29) ∧ Below w.heap.size w w') (fun i _ => 16 - (intOf i).toNat)
            case atStart => exact ⟨0, by omega, rfl, ry, rx, rg, HBW.out⟩
            case round =>
              rename_i wj
              obtain ⟨j, hj, rfl, q1, q2, q3, hbj⟩ := hrel
              have HBj := Lib.hid hbj
              clear hbj r1 rf rx ry rg HBW HB1 l1 l3
              by_cases hlt2 : j < 16
              · obtain ⟨f0, f1, f2⟩ := free_bound HI.out hlt2
                have c2 := free_is f0 rfl
                by_cases jb : j = b
                · subst jb
                  obtain ⟨N, hN⟩ : ∃ N, N = freeN r j := ⟨_, rfl⟩
                  rw [← hN] at c2 f1 f2
                  have C2 := Lib.hid c2
                  clear c2 f0
                  by_cases hf : freeE x j = 0
                  · have g1 := HT.out.free j hlt2 hf
                    rw [if_pos rfl, ← hN] at g1
                    clear hN
                    have c3 := free_is hf g1
                    have C3 := Lib.hid c3
                    clear c3 hf g1
                    go_wp2_with fail
                    refine (C2.out _).mono ?_
                    rintro e w2 ⟨rfl, hb2⟩
                    have s2 := rowKeep hb2 q1
                    have t2 := rowKeep hb2 q2
                    have v2 := rowKeep hb2 q3
                    have HB2 := Lib.hid (bthen HBj.out hb2)
                    clear hb2 q1 q2 q3
                    go_wp2_with fail
                    refine (C3.out _).mono ?_
                    rintro e w3 ⟨rfl, hb3⟩
                    have s3 := rowKeep hb3 s2
                    have t3 := rowKeep hb3 t2
                    have v3 := rowKeep hb3 v2
                    have HB3 := Lib.hid (bthen HB2.out hb3)
                    clear hb3 s2 t2 v2
                    go_wp2_with fail
                    go_roundw
                    case rel => exact ⟨j + 1, by omega, by go_num, s3, t3, v3, HB3.out⟩
                    case measure => simp [intOf]; omega
                  · have hf1 : (freeE x j == 0) = false := beq_eq_false_iff_ne.2 hf
                    have hf2 : decide (freeE x j = 0) = false := decide_eq_false hf
                    have c3 := free_any x j
                    generalize freeE x j = FE at *
                    generalize freeN x j = FN at *
                    have C3 := Lib.hid c3
                    clear c3
                    go_wp2_with fail
                    refine (C2.out _).mono ?_
                    rintro e w2 ⟨rfl, hb2⟩
                    have s2 := rowKeep hb2 q1
                    have t2 := rowKeep hb2 q2
                    have v2 := rowKeep hb2 q3
                    have HB2 := Lib.hid (bthen HBj.out hb2)
                    clear hb2 q1 q2 q3
                    go_wp2_with fail
                    refine (C3.out _).mono ?_
                    rintro e w3 ⟨rfl, hb3⟩
                    have s3 := rowKeep hb3 s2
                    have t3 := rowKeep hb3 t2
                    have v3 := rowKeep hb3 v2
                    have HB3 := Lib.hid (bthen HB2.out hb3)
                    clear hb3 s2 t2 v2
                    go_wp2_with fail
                    go_roundw
                    case rel => exact ⟨j + 1, by omega, by go_num, s3, t3, v3, HB3.out⟩
                    case measure => simp [intOf]; omega
                · have jb1 : ((j : Int) == (b : Int)) = false := beq_eq_false_iff_ne.2 (by omega)
                  have jb2 : decide ((j : Int) = (b : Int)) = false := decide_eq_false (by omega)
                  have jb3 : ¬ (j : Int) = (b : Int) := by omega
                  obtain ⟨N, hN⟩ : ∃ N, N = freeN r j := ⟨_, rfl⟩
                  rw [← hN] at c2 f1 f2
                  have C2 := Lib.hid c2
                  clear c2 f0
                  by_cases hf : freeE x j = 0
                  · have g1 := HT.out.free j hlt2 hf
                    rw [if_neg jb, ← hN] at g1
                    clear hN
                    rw [Int.add_zero] at g1
                    have c3 := free_is hf g1
                    have C3 := Lib.hid c3
                    clear c3 hf g1
                    go_wp2_with fail
                    refine (C2.out _).mono ?_
                    rintro e w2 ⟨rfl, hb2⟩
                    have s2 := rowKeep hb2 q1
                    have t2 := rowKeep hb2 q2
                    have v2 := rowKeep hb2 q3
                    have HB2 := Lib.hid (bthen HBj.out hb2)
                    clear hb2 q1 q2 q3
                    go_wp2_with fail
                    refine (C3.out _).mono ?_
                    rintro e w3 ⟨rfl, hb3⟩
                    have s3 := rowKeep hb3 s2
                    have t3 := rowKeep hb3 t2
                    have v3 := rowKeep hb3 v2
                    have HB3 := Lib.hid (bthen HB2.out hb3)
                    clear hb3 s2 t2 v2
                    go_wp2_with fail
                    go_roundw
                    case rel => exact ⟨j + 1, by omega, by go_num, s3, t3, v3, HB3.out⟩
                    case measure => simp [intOf]; omega
                  · have hf1 : (freeE x j == 0) = false := beq_eq_false_iff_ne.2 hf
                    have hf2 : decide (freeE x j = 0) = false := decide_eq_false hf
                    have c3 := free_any x j
                    generalize freeE x j = FE at *
                    generalize freeN x j = FN at *
                    have C3 := Lib.hid c3
                    clear c3
                    go_wp2_with fail
                    refine (C2.out _).mono ?_
                    rintro e w2 ⟨rfl, hb2⟩
                    have s2 := rowKeep hb2 q1
                    have t2 := rowKeep hb2 q2
                    have v2 := rowKeep hb2 q3
                    have HB2 := Lib.hid (bthen HBj.out hb2)
                    clear hb2 q1 q2 q3
                    go_wp2_with fail
                    refine (C3.out _).mono ?_
                    rintro e w3 ⟨rfl, hb3⟩
                    have s3 := rowKeep hb3 s2
                    have t3 := rowKeep hb3 t2
                    have v3 := rowKeep hb3 v2
                    have HB3 := Lib.hid (bthen HB2.out hb3)
                    clear hb3 s2 t2 v2
                    go_wp2_with fail
                    go_roundw
                    case rel => exact ⟨j + 1, by omega, by go_num, s3, t3, v3, HB3.out⟩
                    case measure => simp [intOf]; omega
              · have hj16 : (16 : Int) ≤ (j : Int) := by omega
                have ho := HT.out.over
                by_cases ht : totalE x = 0
                · have g1 := HT.out.total ht
                  rw [← HTR.out] at g1
                  have c3 : ∀ w, Calls Try.prog 20 #[.agg (ints 288 x)] w fun e w' => e = .returned (.tuple #[.int .i64 (TT + (-n)), .int .i64 0]) ∧ Below w.heap.size w w' := fun w => by rw [← g1, ← ht]; exact total_any x w
                  have C3 := Lib.hid c3
                  clear c3 g1 ht
                  go_wp2_with fail
                  refine (C3.out _).mono ?_
                  rintro e w2 ⟨rfl, hb2⟩
                  have s2 := rowKeep hb2 q1
                  have t2 := rowKeep hb2 q2
                  have v2 := rowKeep hb2 q3
                  have HB2 := Lib.hid (bthen HBj.out hb2)
                  clear hb2 q1 q2 q3
                  have k1 := rowAt_lt s2
                  have k2 := rowAt_lt t2
                  go_upto_region 31 with fail
                  refine region_seq ?_
                  repeat (go_big_quiet_step ((first | (go_at_call 26; exact quiet_call (by simp) (overR_is (by assumption) _)))))
                  refine wpQuiet_nil ?_
                  intro w4 hb4
                  have y1 := rowKeep hb4 s2
                  have y3 := rowKeep hb4 v2
                  have HB4 := Lib.hid (bthen HB2.out hb4)
                  clear hb4
                  go_wp2_with fail
                  go_roundw
                  case rel => exact ⟨1, by omega, by go_num, y1, y3, HB4.out⟩
                  case measure => simp [intOf]
                · have ht1 : (totalE x == 0) = false := beq_eq_false_iff_ne.2 ht
                  have ht2 : decide (totalE x = 0) = false := decide_eq_false ht
                  have c3 := total_any x
                  generalize totalE x = TE at *
                  generalize totalN x = TN at *
                  have C3 := Lib.hid c3
                  clear c3
                  go_wp2_with fail
                  refine (C3.out _).mono ?_
                  rintro e w2 ⟨rfl, hb2⟩
                  have s2 := rowKeep hb2 q1
                  have t2 := rowKeep hb2 q2
                  have v2 := rowKeep hb2 q3
                  have HB2 := Lib.hid (bthen HBj.out hb2)
                  clear hb2 q1 q2 q3
                  have k1 := rowAt_lt s2
                  have k2 := rowAt_lt t2
                  go_upto_region 31 with fail
                  refine region_seq ?_
                  repeat (go_big_quiet_step ((first | (go_at_call 26; exact quiet_call (by simp) (overR_is (by assumption) _)))))
                  refine wpQuiet_nil ?_
                  intro w4 hb4
                  have y1 := rowKeep hb4 s2
                  have y3 := rowKeep hb4 v2
                  have HB4 := Lib.hid (bthen HB2.out hb4)
                  clear hb4
                  go_wp2_with fail
                  go_roundw
                  case rel => exact ⟨1, by omega, by go_num, y1, y3, HB4.out⟩
                  case measure => simp [intOf]
          · have h0' := h0
            have c1 := use_any r k n
            generalize useE r k n = E1 at *
            generalize useF r k n = F1 at *
            have hq1 : (E1 == 0) = false := beq_eq_false_iff_ne.2 h0
            have hq2 : decide (E1 = 0) = false := decide_eq_false h0
            have C1 := Lib.hid c1
            clear c1 h0'
            go_wp2_with fail
            refine (C1.out _).mono ?_
            rintro e w1 ⟨rfl, hb1⟩
            have r1 := rowKeep hb1 q1
            have rf := rowKeep hb1 q3
            have HB1 := Lib.hid (bthen HBm.out hb1)
            clear hb1 q1 q3
            go_wp2_with fail
            go_roundw
            case rel => exact ⟨1, by omega, by go_num, rowPast r1, rowPast rf, below_allocS HB1.out _⟩
            case measure => simp [intOf]
        · by_cases hu1 : u = 1
          · subst hu1
            have hc0 := (cell_of_rowAt q3 1).trans (show _ = some (Value.func (Fn.func 11) #[] #[]) from rfl)
            by_cases h0 : giveE r k n = 0
            · obtain ⟨b, hkb, hb16, n0, n1, hT⟩ := give_turned HI.out h0
              have c1 := give_any r k n
              rw [h0] at c1
              subst hkb
              generalize giveF r b n = x at *
              have C1 := Lib.hid c1
              have HT := Lib.hid hT
              clear c1 hT h0
              go_wp2_with fail
              refine (C1.out _).mono ?_
              rintro e w1 ⟨rfl, hb1⟩
              have r1 := rowKeep hb1 q1
              have rf := rowKeep hb1 q3
              have HB1 := Lib.hid (bthen HBm.out hb1)
              have l1 := Nat.ne_of_lt (rowAt_lt r1)
              have l3 := Nat.ne_of_lt (rowAt_lt rf)
              clear hb1 q1 q3
              have rx : rowAt (w1.alloc (.cells (ints 288 x) 26)) w1.heap.size = some (ints 288 x, 26) := rowAt_alloc_at _ _ _ _ rfl
              have ry := rowPast (o := .cells (ints 288 x) 26) r1
              have rg := rowPast (o := .cells (ints 288 x) 26) rf
              have HBW := Lib.hid (below_allocS HB1.out (.cells (ints 288 x) 26))
              go_wp2_with fail
              go_loopw [78] (fun i w' => ∃ j : Nat, j ≤ 16 ∧ i = .int .i64 j ∧ rowAt w' w.heap.size = some (ints 288 r, 26) ∧ rowAt w' w1.heap.size = some (ints 288 x, 26) ∧ rowAt w' w0.heap.size = some (#[.func (.func 13) #[] #[], .func (.func 11) #[] #[]], 29) ∧ Below w.heap.size w w') (fun i _ => 16 - (intOf i).toNat)
              case atStart => exact ⟨0, by omega, rfl, ry, rx, rg, HBW.out⟩
              case round =>
                rename_i wj
                obtain ⟨j, hj, rfl, q1, q2, q3, hbj⟩ := hrel
                have HBj := Lib.hid hbj
                clear hbj r1 rf rx ry rg HBW HB1 l1 l3
                by_cases hlt2 : j < 16
                · obtain ⟨f0, f1, f2⟩ := free_bound HI.out hlt2
                  have c2 := free_is f0 rfl
                  by_cases jb : j = b
                  · subst jb
                    obtain ⟨N, hN⟩ : ∃ N, N = freeN r j := ⟨_, rfl⟩
                    rw [← hN] at c2 f1 f2
                    have C2 := Lib.hid c2
                    clear c2 f0
                    by_cases hf : freeE x j = 0
                    · have g1 := HT.out.free j hlt2 hf
                      rw [if_pos rfl, ← hN] at g1
                      clear hN
                      have c3 := free_is hf g1
                      have C3 := Lib.hid c3
                      clear c3 hf g1
                      go_wp2_with fail
                      refine (C2.out _).mono ?_
                      rintro e w2 ⟨rfl, hb2⟩
                      have s2 := rowKeep hb2 q1
                      have t2 := rowKeep hb2 q2
                      have v2 := rowKeep hb2 q3
                      have HB2 := Lib.hid (bthen HBj.out hb2)
                      clear hb2 q1 q2 q3
                      go_wp2_with fail
                      refine (C3.out _).mono ?_
                      rintro e w3 ⟨rfl, hb3⟩
                      have s3 := rowKeep hb3 s2
                      have t3 := rowKeep hb3 t2
                      have v3 := rowKeep hb3 v2
                      have HB3 := Lib.hid (bthen HB2.out hb3)
                      clear hb3 s2 t2 v2
                      go_wp2_with fail
                      go_roundw
                      case rel => exact ⟨j + 1, by omega, by go_num, s3, t3, v3, HB3.out⟩
                      case measure => simp [intOf]; omega
                    · have hf1 : (freeE x j == 0) = false := beq_eq_false_iff_ne.2 hf
                      have hf2 : decide (freeE x j = 0) = false := decide_eq_false hf
                      have c3 := free_any x j
                      generalize freeE x j = FE at *
                      generalize freeN x j = FN at *
                      have C3 := Lib.hid c3
                      clear c3
                      go_wp2_with fail
                      refine (C2.out _).mono ?_
                      rintro e w2 ⟨rfl, hb2⟩
                      have s2 := rowKeep hb2 q1
                      have t2 := rowKeep hb2 q2
                      have v2 := rowKeep hb2 q3
                      have HB2 := Lib.hid (bthen HBj.out hb2)
                      clear hb2 q1 q2 q3
                      go_wp2_with fail
                      refine (C3.out _).mono ?_
                      rintro e w3 ⟨rfl, hb3⟩
                      have s3 := rowKeep hb3 s2
                      have t3 := rowKeep hb3 t2
                      have v3 := rowKeep hb3 v2
                      have HB3 := Lib.hid (bthen HB2.out hb3)
                      clear hb3 s2 t2 v2
                      go_wp2_with fail
                      go_roundw
                      case rel => exact ⟨j + 1, by omega, by go_num, s3, t3, v3, HB3.out⟩
                      case measure => simp [intOf]; omega
                  · have jb1 : ((j : Int) == (b : Int)) = false := beq_eq_false_iff_ne.2 (by omega)
                    have jb2 : decide ((j : Int) = (b : Int)) = false := decide_eq_false (by omega)
                    have jb3 : ¬ (j : Int) = (b : Int) := by omega
                    obtain ⟨N, hN⟩ : ∃ N, N = freeN r j := ⟨_, rfl⟩
                    rw [← hN] at c2 f1 f2
                    have C2 := Lib.hid c2
                    clear c2 f0
                    by_cases hf : freeE x j = 0
                    · have g1 := HT.out.free j hlt2 hf
                      rw [if_neg jb, ← hN] at g1
                      clear hN
                      rw [Int.add_zero] at g1
                      have c3 := free_is hf g1
                      have C3 := Lib.hid c3
                      clear c3 hf g1
                      go_wp2_with fail
                      refine (C2.out _).mono ?_
                      rintro e w2 ⟨rfl, hb2⟩
                      have s2 := rowKeep hb2 q1
                      have t2 := rowKeep hb2 q2
                      have v2 := rowKeep hb2 q3
                      have HB2 := Lib.hid (bthen HBj.out hb2)
                      clear hb2 q1 q2 q3
                      go_wp2_with fail
                      refine (C3.out _).mono ?_
                      rintro e w3 ⟨rfl, hb3⟩
                      have s3 := rowKeep hb3 s2
                      have t3 := rowKeep hb3 t2
                      have v3 := rowKeep hb3 v2
                      have HB3 := Lib.hid (bthen HB2.out hb3)
                      clear hb3 s2 t2 v2
                      go_wp2_with fail
                      go_roundw
                      case rel => exact ⟨j + 1, by omega, by go_num, s3, t3, v3, HB3.out⟩
                      case measure => simp [intOf]; omega
                    · have hf1 : (freeE x j == 0) = false := beq_eq_false_iff_ne.2 hf
                      have hf2 : decide (freeE x j = 0) = false := decide_eq_false hf
                      have c3 := free_any x j
                      generalize freeE x j = FE at *
                      generalize freeN x j = FN at *
                      have C3 := Lib.hid c3
                      clear c3
                      go_wp2_with fail
                      refine (C2.out _).mono ?_
                      rintro e w2 ⟨rfl, hb2⟩
                      have s2 := rowKeep hb2 q1
                      have t2 := rowKeep hb2 q2
                      have v2 := rowKeep hb2 q3
                      have HB2 := Lib.hid (bthen HBj.out hb2)
                      clear hb2 q1 q2 q3
                      go_wp2_with fail
                      refine (C3.out _).mono ?_
                      rintro e w3 ⟨rfl, hb3⟩
                      have s3 := rowKeep hb3 s2
                      have t3 := rowKeep hb3 t2
                      have v3 := rowKeep hb3 v2
                      have HB3 := Lib.hid (bthen HB2.out hb3)
                      clear hb3 s2 t2 v2
                      go_wp2_with fail
                      go_roundw
                      case rel => exact ⟨j + 1, by omega, by go_num, s3, t3, v3, HB3.out⟩
                      case measure => simp [intOf]; omega
                · have hj16 : (16 : Int) ≤ (j : Int) := by omega
                  have ho := HT.out.over
                  by_cases ht : totalE x = 0
                  · have g1 := HT.out.total ht
                    rw [← HTR.out] at g1
                    have c3 : ∀ w, Calls Try.prog 20 #[.agg (ints 288 x)] w fun e w' => e = .returned (.tuple #[.int .i64 (TT + (n)), .int .i64 0]) ∧ Below w.heap.size w w' := fun w => by rw [← g1, ← ht]; exact total_any x w
                    have C3 := Lib.hid c3
                    clear c3 g1 ht
                    go_wp2_with fail
                    refine (C3.out _).mono ?_
                    rintro e w2 ⟨rfl, hb2⟩
                    have s2 := rowKeep hb2 q1
                    have t2 := rowKeep hb2 q2
                    have v2 := rowKeep hb2 q3
                    have HB2 := Lib.hid (bthen HBj.out hb2)
                    clear hb2 q1 q2 q3
                    have k1 := rowAt_lt s2
                    have k2 := rowAt_lt t2
                    go_upto_region 31 with fail
                    refine region_seq ?_
                    repeat (go_big_quiet_step ((first | (go_at_call 26; exact quiet_call (by simp) (overR_is (by assumption) _)))))
                    refine wpQuiet_nil ?_
                    intro w4 hb4
                    have y1 := rowKeep hb4 s2
                    have y3 := rowKeep hb4 v2
                    have HB4 := Lib.hid (bthen HB2.out hb4)
                    clear hb4
                    go_wp2_with fail
                    go_roundw
                    case rel => exact ⟨2, by omega, by go_num, y1, y3, HB4.out⟩
                    case measure => simp [intOf]
                  · have ht1 : (totalE x == 0) = false := beq_eq_false_iff_ne.2 ht
                    have ht2 : decide (totalE x = 0) = false := decide_eq_false ht
                    have c3 := total_any x
                    generalize totalE x = TE at *
                    generalize totalN x = TN at *
                    have C3 := Lib.hid c3
                    clear c3
                    go_wp2_with fail
                    refine (C3.out _).mono ?_
                    rintro e w2 ⟨rfl, hb2⟩
                    have s2 := rowKeep hb2 q1
                    have t2 := rowKeep hb2 q2
                    have v2 := rowKeep hb2 q3
                    have HB2 := Lib.hid (bthen HBj.out hb2)
                    clear hb2 q1 q2 q3
                    have k1 := rowAt_lt s2
                    have k2 := rowAt_lt t2
                    go_upto_region 31 with fail
                    refine region_seq ?_
                    repeat (go_big_quiet_step ((first | (go_at_call 26; exact quiet_call (by simp) (overR_is (by assumption) _)))))
                    refine wpQuiet_nil ?_
                    intro w4 hb4
                    have y1 := rowKeep hb4 s2
                    have y3 := rowKeep hb4 v2
                    have HB4 := Lib.hid (bthen HB2.out hb4)
                    clear hb4
                    go_wp2_with fail
                    go_roundw
                    case rel => exact ⟨2, by omega, by go_num, y1, y3, HB4.out⟩
                    case measure => simp [intOf]
            · have h0' := h0
              have c1 := give_any r k n
              generalize giveE r k n = E1 at *
              generalize giveF r k n = F1 at *
              have hq1 : (E1 == 0) = false := beq_eq_false_iff_ne.2 h0
              have hq2 : decide (E1 = 0) = false := decide_eq_false h0
              have C1 := Lib.hid c1
              clear c1 h0'
              go_wp2_with fail
              refine (C1.out _).mono ?_
              rintro e w1 ⟨rfl, hb1⟩
              have r1 := rowKeep hb1 q1
              have rf := rowKeep hb1 q3
              have HB1 := Lib.hid (bthen HBm.out hb1)
              clear hb1 q1 q3
              go_wp2_with fail
              go_roundw
              case rel => exact ⟨2, by omega, by go_num, rowPast r1, rowPast rf, below_allocS HB1.out _⟩
              case measure => simp [intOf]
          · obtain rfl : u = 2 := by omega
            go_wp2_with fail
            refine (awake3 _).mono ?_
            rintro e w2 ⟨rfl, hb2⟩
            have HB2 := Lib.hid (bthen HBm.out hb2)
            clear hb2
            go_wp2_with fail
            go_ret
            exact ⟨rfl, HB2.out⟩
end Go.Proofs.Ytpicfjlcepfneaa
