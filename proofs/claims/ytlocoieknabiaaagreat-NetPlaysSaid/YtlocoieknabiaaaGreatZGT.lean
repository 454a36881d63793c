/-
  Layer 15 (net): the reference sends a message.
-/
import Derived.Test.YtlocoieknabiaaaGreatZNetRef
import Derived.Test.YtlocoieknabiaaaGreatZMsgRR
import Derived.Test.YtlocoieknabiaaaGreatZGS
import Derived.Test.YtlocoieknabiaaaGreatZMsgFacts
namespace Go.Proofs.YtlocoieknabiaaaGreat
set_option maxRecDepth 20000
open Go.RowKit
set_option linter.unusedSimpArgs false
set_option linter.unusedVariables false
attribute [local go_sem] rowCells rowAt_drewN rowAt_alloc rowAt_drew setRow_alloc setRow_drewN setRow_drew setCell_alloc setCell_drewN rowAt_setRow rowAt_setCell Later.cell Later.frozen
attribute [local go_sem ↓] xload_msg xstore_msg xalloc_msg xbuildS_msg xbuild_msg0 xload_do xstore_do xalloc_do xload_rnet xstore_rnet xalloc_rnet
attribute [local go_sem] load_msg load_msg_later store_msg Msg.size Msg.cut_all Msg.splice_all buildSM_agg load_do store_do doC_size doC_all doC_splice doC_cut doC_get0 doC_get1 doC_getE0 doC_getE1 load_rnet store_rnet rnC_size rnC_all rnC_splice load_msg_at rnC_get0 rnC_get1 rnC_get2 rnC_get3 rnC_get4 rnC_get5 rnC_getE0 rnC_getE1 rnC_getE2 rnC_getE3 rnC_getE4 rnC_getE5 rnC_set1 rnC_set2 rnC_set3 rnC_set4 rnC_set5

theorem row2of3 (w : World) (o1 : Obj) (c : Array Value) (T : TypeId) (o3 : Obj) : rowAt (((w.alloc o1).alloc (.cells c T)).alloc o3) (w.heap.size + 1) = some (c, T) := rowPast (rowAt_alloc_at (w.alloc o1) c T _ (by simp))
theorem row3of3 (w : World) (o1 o2 : Obj) (c : Array Value) (T : TypeId) : rowAt (((w.alloc o1).alloc o2).alloc (.cells c T)) (w.heap.size + 2) = some (c, T) := rowAt_alloc_at ((w.alloc o1).alloc o2) c T _ (by simp)

set_option maxHeartbeats 4000000 in
theorem rsend_no (m : Msg) {room s c l d : Int} {a : Option Addr} {n cap : Nat} (w : World) (hr : rightM m = false) (hm : MsgOk w m) :
    Calls Tryz.prog 7 #[.agg (rnC room a n cap s c l d), .agg m.cells] w fun e w' => e = .returned (.tuple #[.agg (rnC room a n cap s c l d), .int .i64 1]) ∧ Below w.heap.size w w' := by
  have HR := Lib.hid (rmright_is hr (hm.below (below_allocS (below_allocS (below_allocS (Below.refl w.heap.size w) (.cells (rnC room a n cap s c l d) 29)) (.cells m.cells 34)) (.cells (rnC 0 none 0 0 0 0 0 0) 29))))
  clear hr hm
  go_enter Tryz.func7, Tryz.ntmps7
  go_wp2_with fail
  refine HR.out.mono ?_
  rintro e w1 ⟨rfl, hb⟩
  have r1 : rowAt w1 w.heap.size = some (rnC room a n cap s c l d, 29) := rowKeep hb (rowPast (rowPast (rowAt_alloc_at _ _ _ _ rfl)))
  have r2 : rowAt w1 (w.heap.size + 2) = some (rnC 0 none 0 0 0 0 0 0, 29) := rowKeep hb (row3of3 _ _ _ _ _)
  have HB1 := Lib.hid (bthen (below_allocS (below_allocS (below_allocS (Below.refl w.heap.size w) _) _) _) hb)
  have n2 := rowAt_lt r2
  clear hb HR
  go_wp2_with fail
  refine ret_ct (u := .int .i64 1) (by rfl) (by with_unfolding_all rfl) (by with_unfolding_all rfl) (by rfl) (load_rnet_row (rowAt_setRow_same _ r2)) ?_
  exact ⟨rfl, below_setRow' HB1.out (by omega) _⟩
set_option maxHeartbeats 4000000 in
theorem rsend_full (m : Msg) {room s c l d : Int} {a : Option Addr} {n cap : Nat} (w : World) (hr : rightM m = true) (hm : MsgOk w m) (hroom : room ≤ (n : Int)) :
    Calls Tryz.prog 7 #[.agg (rnC room a n cap s c l d), .agg m.cells] w fun e w' => e = .returned (.tuple #[.agg (rnC room a n cap s c l d), .int .i64 7]) ∧ Below w.heap.size w w' := by
  have HR := Lib.hid (rmright_is hr (hm.below (below_allocS (below_allocS (below_allocS (Below.refl w.heap.size w) (.cells (rnC room a n cap s c l d) 29)) (.cells m.cells 34)) (.cells (rnC 0 none 0 0 0 0 0 0) 29))))
  clear hr hm
  have g2 : decide (room ≤ (n : Int)) = true := decide_eq_true hroom
  go_enter Tryz.func7, Tryz.ntmps7
  go_wp2_with fail
  refine HR.out.mono ?_
  rintro e w1 ⟨rfl, hb⟩
  have r1 : rowAt w1 w.heap.size = some (rnC room a n cap s c l d, 29) := rowKeep hb (rowPast (rowPast (rowAt_alloc_at _ _ _ _ rfl)))
  have r2 : rowAt w1 (w.heap.size + 2) = some (rnC 0 none 0 0 0 0 0 0, 29) := rowKeep hb (row3of3 _ _ _ _ _)
  have HB1 := Lib.hid (bthen (below_allocS (below_allocS (below_allocS (Below.refl w.heap.size w) _) _) _) hb)
  have n2 := rowAt_lt r2
  have hz := fun i => cell_of_rowAt r1 i
  clear hb HR
  go_wp2_with fail
  refine ret_ct (u := .int .i64 7) (by rfl) (by with_unfolding_all rfl) (by with_unfolding_all rfl) (by rfl) (load_rnet_row (rowAt_setRow_same _ r2)) ?_
  exact ⟨rfl, below_setRow' HB1.out (by omega) _⟩
set_option maxHeartbeats 4000000 in
theorem rsend_ok (m : Msg) (S : List Msg) {room s c l d : Int} {a : Option Addr} {cap B : Nat} {w : World} (hr : rightM m = true) (hm : MsgOk w m) (h : w.ownsRow B 34 12 (.slice a S.length cap) S.length (msgV S)) (hroom : ¬ room ≤ (S.length : Int)) (hlen : S.length ≤ 100000) (hl : 0 ≤ s ∧ s ≤ 1000000) :
    Calls Tryz.prog 7 #[.agg (rnC room a S.length cap s c l d), .agg m.cells] w fun e w' => ∃ a' c', e = .returned (.tuple #[.agg (rnC room a' (S.length + 1) c' (s + 1) c l d), .int .i64 0]) ∧ w'.ownsRow w.heap.size 34 12 (.slice a' (S.length + 1) c') (S ++ [m]).length (msgV (S ++ [m])) ∧ Below w.heap.size w w' := by
  have HR := Lib.hid (rmright_is hr (hm.below (below_allocS (below_allocS (below_allocS (Below.refl w.heap.size w) (.cells (rnC room a S.length cap s c l d) 29)) (.cells m.cells 34)) (.cells (rnC 0 none 0 0 0 0 0 0) 29))))
  have HO := Lib.hid h
  clear hr hm h
  have g2 : decide (room ≤ (S.length : Int)) = false := decide_eq_false hroom
  clear hroom
  go_enter Tryz.func7, Tryz.ntmps7
  go_wp2_with fail
  refine HR.out.mono ?_
  rintro e w1 ⟨rfl, hb⟩
  have r1 : rowAt w1 w.heap.size = some (rnC room a S.length cap s c l d, 29) := rowKeep hb (rowPast (rowPast (rowAt_alloc_at _ _ _ _ rfl)))
  have rm : rowAt w1 (w.heap.size + 1) = some (m.cells, 34) := rowKeep hb (row2of3 _ _ _ _ _)
  have r2 : rowAt w1 (w.heap.size + 2) = some (rnC 0 none 0 0 0 0 0 0, 29) := rowKeep hb (row3of3 _ _ _ _ _)
  have HB1 := Lib.hid (bthen (below_allocS (below_allocS (below_allocS (Below.refl w.heap.size w) _) _) _) hb)
  have n2 := rowAt_lt r2
  have hz := fun i => cell_of_rowAt r1 i
  clear hb HR
  go_upto_region 5 with fail
  have hsz1 : w.heap.size + 3 ≤ w1.heap.size := by omega
  clear hz
  refine wp_region_late_drew (lt := [8]) (S := fun w' : World => rowAt w' w.heap.size = some (rnC room a S.length cap s c l d, 29) ∧ rowAt w' (w.heap.size + 2) = some (rnC 0 none 0 0 0 0 0 0, 29) ∧ Hid (Below w.heap.size w w' ∧ rowAt w' (w.heap.size + 1) = some (m.cells, 34)) ∧ Hid (w.heap.size + 3 ≤ w'.heap.size)) (by kernel_rfl) ⟨r1, r2, Lib.hid ⟨HB1.out.drew, rm⟩, Lib.hid hsz1⟩ (fun hS => ?_)
  generalize w1.drew = W7 at *
  refine late_take (i := 1) (lt := [8]) (rd := [1, 2, 4, 7]) (by simp only [List.getElem?_toArray, List.getElem?_cons_succ, List.getElem?_cons_zero]; rfl) (by decide +kernel) (by decide +kernel) (by decide +kernel) (by decide +kernel) (by decide +kernel) (by exact fun _ _ _ _ h => h) hS (by rfl) ?_
  apply Exists.intro
  refine ⟨fun w' hSw => ?_, ?_⟩
  · go_simp
    with_reducible rfl
  (try simp only [act_put, act_put_none, List.set_cons_zero, List.set_cons_succ])
  refine late_take (i := 2) (lt := [8]) (rd := [1, 2, 4, 7]) (by simp only [List.getElem?_toArray, List.getElem?_cons_succ, List.getElem?_cons_zero]; rfl) (by decide +kernel) (by decide +kernel) (by decide +kernel) (by decide +kernel) (by decide +kernel) (by exact fun _ _ _ _ h => h) hS (by rfl) ?_
  apply Exists.intro
  refine ⟨fun w' hSw => ?_, ?_⟩
  · have q1 : w'.cell? ⟨w.heap.size, 1, none⟩ = some (.slice a S.length cap) := by rw [cell_of_rowAt hSw.1]; rfl
    go_simp
    with_reducible rfl
  (try simp only [act_put, act_put_none, List.set_cons_zero, List.set_cons_succ])
  refine late_take (i := 4) (lt := [8]) (rd := [1, 2, 4, 7]) (by simp only [List.getElem?_toArray, List.getElem?_cons_succ, List.getElem?_cons_zero]; rfl) (by decide +kernel) (by decide +kernel) (by decide +kernel) (by decide +kernel) (by decide +kernel) (by exact fun _ _ _ _ h => h) hS (by rfl) ?_
  apply Exists.intro
  refine ⟨fun w' hSw => ?_, ?_⟩
  · have q1 := hSw.2.2.1.out.2
    go_simp
    with_reducible rfl
  (try simp only [act_put, act_put_none, List.set_cons_zero, List.set_cons_succ])
  refine wpAnyR_ready (rs := [0, 5]) (by decide +kernel) (by simp) ?_
  refine AllReadyR.cons (i := 0) (by simp only [List.getElem?_toArray, List.getElem?_cons_succ, List.getElem?_cons_zero]; rfl) (fun K hK => ?_) ?_
  · go_simp
    have hb : Below W7.heap.size W7 (W7.alloc (.cells #[] 34)) := (Below.refl _ _).alloc (Nat.le_refl _) _
    have hE := own_row0 W7 hS.2.2.2.out rfl
    have hS9 := And.intro (rowKeep hb hS.1) (And.intro (rowKeep hb hS.2.1) (And.intro (Lib.hid (And.intro (bthen hS.2.2.1.out.1 hb) (rowKeep hb hS.2.2.1.out.2))) (Lib.hid (Nat.le_trans hS.2.2.2.out hb.size))))
    have hlte : W7.heap.size < (W7.alloc (.cells #[] 34)).heap.size := by simp
    clear hb
    obtain ⟨e0, he0⟩ : ∃ e0, W7.heap.size = e0 := ⟨_, rfl⟩
    rw [he0] at hE hlte ⊢
    clear he0
    generalize W7.alloc (.cells #[] 34) = V1 at *
    have HE := Lib.hid hE
    clear hE
    refine hK.out _ _ hS9 (fun hS2 => ?_)
    clear hS hK K hS2
    have hS := hS9
    clear hS9
    (try simp only [act_put, act_put_none, List.set_cons_zero, List.set_cons_succ])
    refine wpAnyR_ready (rs := [3, 5]) (by decide +kernel) (by simp) ?_
    refine AllReadyR.cons (i := 3) (by simp only [List.getElem?_toArray, List.getElem?_cons_succ, List.getElem?_cons_zero]; rfl) (fun K hK => ?_) ?_
    · refine wp_append_msgs _ _ rfl rfl HE.out a S.length cap S rfl rfl (fun e => ?c0) ?c1 (by omega) hS.2.2.2.out ?_
      case c0 => exact ((own_cells (own_below HO.out hS.2.2.1.out.1)).2.2.1 e)
      case c1 =>
        intro j u hu
        obtain ⟨b, e, hcc⟩ := (own_cells (own_below HO.out hS.2.2.1.out.1)).2.2.2 j u hu
        exact ⟨b, 0, e, by rw [Nat.zero_add]; exact hcc⟩
      intro v3 V2 hown hb hgr
      rw [Nat.zero_add, List.nil_append] at hown
      have hS9 := And.intro ((rowAt_below hb _ (by omega)).trans hS.1) (And.intro ((rowAt_below hb _ (by omega)).trans hS.2.1) (And.intro (Lib.hid (And.intro (hS.2.2.1.out.1.trans (hb.mono (show w.heap.size ≤ _ by omega))) ((rowAt_below hb (w.heap.size + 1) (by omega)).trans hS.2.2.1.out.2))) (Lib.hid (Nat.le_trans hS.2.2.2.out hb.size))))
      clear HE hb hgr
      have HE := Lib.hid hown
      clear hown
      refine hK.out _ _ hS9 (fun hS2 => ?_)
      clear hS hK K hS2
      have hS := hS9
      clear hS9
      (try simp only [act_put, act_put_none, List.set_cons_zero, List.set_cons_succ])
      refine wpAnyR_ready (rs := [5]) (by decide +kernel) (by simp) ?_
      refine AllReadyR.cons (i := 5) (by simp only [List.getElem?_toArray, List.getElem?_cons_succ, List.getElem?_cons_zero]; rfl) (fun K hK => ?_) ?_
      · go_simp
        have hb : Below V2.heap.size V2 (V2.alloc (.cells m.cells 34)) := (Below.refl _ _).alloc (Nat.le_refl _) _
        have r9 : rowAt (V2.alloc (.cells m.cells 34)) V2.heap.size = some (m.cells, 34) := rowAt_alloc_at _ _ _ _ rfl
        have hS9 := And.intro (rowKeep hb hS.1) (And.intro (rowKeep hb hS.2.1) (And.intro (Lib.hid (And.intro (bthen hS.2.2.1.out.1 hb) (rowKeep hb hS.2.2.1.out.2))) (Lib.hid (Nat.le_trans hS.2.2.2.out hb.size))))
        have HE9 := Lib.hid (own_alloc HE.out (.cells m.cells 34))
        clear HE
        have HE := HE9
        clear HE9
        clear hb
        obtain ⟨b9, hb9⟩ : ∃ b9, V2.heap.size = b9 := ⟨_, rfl⟩
        rw [hb9] at r9 ⊢
        clear hb9
        generalize V2.alloc (.cells m.cells 34) = V3 at *
        refine hK.out _ _ hS9 (fun hS2 => ?_)
        clear hS hK K hS2
        have hS := hS9
        clear hS9
        (try simp only [act_put, act_put_none, List.set_cons_zero, List.set_cons_succ])
        refine wpAnyR_ready (rs := [6]) (by decide +kernel) (by simp) ?_
        refine AllReadyR.cons (i := 6) (by simp only [List.getElem?_toArray, List.getElem?_cons_succ, List.getElem?_cons_zero]; rfl) (fun K hK => ?_) ?_
        · refine wp_append_msgs _ _ rfl rfl HE.out (some ⟨b9, 0, none⟩) 1 1 [m] rfl rfl (fun e => by cases e) ?c1 (by omega) hS.2.2.2.out ?_
          case c1 =>
            intro j u hu
            rw [msgV_one] at hu
            exact ⟨b9, 0, rfl, by rw [Nat.zero_add, cell_of_rowAt r9, ← hu]; simp⟩
          intro v10 V4 hown hb hgr
          obtain ⟨a10, c10, rfl⟩ : ∃ a10 c10, v10 = .slice a10 (S.length + 1) c10 := by
            obtain ⟨a10, c10, e, _⟩ := own_open hown (by decide)
            exact ⟨a10, c10, e⟩
          rw [← msgV_app] at hown
          have hS9 := And.intro ((rowAt_below hb _ (by omega)).trans hS.1) (And.intro ((rowAt_below hb _ (by omega)).trans hS.2.1) (And.intro (Lib.hid (And.intro (hS.2.2.1.out.1.trans (hb.mono (show w.heap.size ≤ _ by omega))) ((rowAt_below hb (w.heap.size + 1) (by omega)).trans hS.2.2.1.out.2))) (Lib.hid (Nat.le_trans hS.2.2.2.out hb.size))))
          clear HE hb hgr r9
          have HE : Hid (V4.ownsRow (w.heap.size + 3) 34 12 (.slice a10 (S.length + 1) c10) (S ++ [m]).length (msgV (S ++ [m]))) := Lib.hid (by rw [List.length_append]; exact hown)
          clear hown
          refine hK.out _ _ hS9 (fun hS2 => ?_)
          clear hS hK K hS2
          have hS := hS9
          clear hS9
          (try simp only [act_put, act_put_none, List.set_cons_zero, List.set_cons_succ])
          refine late_take (i := 7) (lt := [8]) (rd := [1, 2, 4, 7]) (by simp only [List.getElem?_toArray, List.getElem?_cons_succ, List.getElem?_cons_zero]; rfl) (by decide +kernel) (by decide +kernel) (by decide +kernel) (by decide +kernel) (by decide +kernel) (by exact fun _ _ _ _ h => h) hS (by rfl) ?_
          apply Exists.intro
          refine ⟨fun w' hSw => ?_, ?_⟩
          · go_simp
            with_reducible rfl
          (try simp only [act_put, act_put_none, List.set_cons_zero, List.set_cons_succ])
          refine wpAnyR_ready (rs := [8]) (by decide +kernel) (by simp) ?_
          refine AllReadyR.last (i := 8) (by simp only [List.getElem?_toArray, List.getElem?_cons_succ, List.getElem?_cons_zero]; rfl) (by decide) (fun K hK => ?_) ?_
          · have hz := fun i => cell_of_rowAt hS.1 i
            have fz := frozen_of_rowAt hS.1
            go_simp
            refine hK.out _ _ ?_
            clear hK K
            (try simp only [act_put, act_put_none, List.set_cons_zero, List.set_cons_succ])
            refine wpAnyR_done (by decide +kernel) ?_ _
            have q1 := rowAt_setCell_same 1 (.slice a10 (S.length + 1) c10) hS.1
            rw [rnC_set1] at q1
            have q2 : rowAt (V4.setCell ⟨w.heap.size, 1, none⟩ (.slice a10 (S.length + 1) c10)) (w.heap.size + 2) = some (rnC 0 none 0 0 0 0 0 0, 29) := by rw [rowAt_setCell_other _ _ _ _ (by simp)]; exact hS.2.1
            have HO9 := Lib.hid (own_setCell (i := 1) (x := .slice a10 (S.length + 1) c10) HE.out (show w.heap.size < w.heap.size + 3 by omega))
            have HB9 := Lib.hid (below_setCell' (i := 1) (v := .slice a10 (S.length + 1) c10) hS.2.2.1.out.1 (Nat.le_refl w.heap.size))
            have hs9 : w.heap.size + 3 ≤ (V4.setCell ⟨w.heap.size, 1, none⟩ (.slice a10 (S.length + 1) c10)).heap.size := by simpa using hS.2.2.2.out
            generalize V4.setCell ⟨w.heap.size, 1, none⟩ (.slice a10 (S.length + 1) c10) = W9 at *
            clear hS HE
            have hz := fun i => cell_of_rowAt q1 i
            have fz := frozen_of_rowAt q1
            go_wp2_with fail
            have rr : rowAt (W9.setCell ⟨w.heap.size, 2, none⟩ (.int .i64 (s + 1))) (w.heap.size + 2) = some (rnC 0 none 0 0 0 0 0 0, 29) := by rw [rowAt_setCell_other _ _ _ _ (by simp)]; exact q2
            refine ret_ct (u := .int .i64 0) (by rfl) (by with_unfolding_all rfl) (by with_unfolding_all rfl) (by rfl) (load_rnet_row (rowAt_setRow_same _ rr)) ?_
            exact ⟨a10, c10, rfl, own_mono (own_setRow (own_setCell HO9.out (show w.heap.size < w.heap.size + 3 by omega)) (show w.heap.size + 2 < w.heap.size + 3 by omega) _) (by omega), below_setRow' (below_setCell' HB9.out (Nat.le_refl _)) (show w.heap.size ≤ w.heap.size + 2 by omega) _⟩
          exact AllReadyR.nil
        exact AllReadyR.nil
      exact AllReadyR.nil
    refine AllReadyR.cons (i := 5) (by simp only [List.getElem?_toArray, List.getElem?_cons_succ, List.getElem?_cons_zero]; rfl) (fun K hK => ?_) ?_
    · go_simp
      have hb : Below V1.heap.size V1 (V1.alloc (.cells m.cells 34)) := (Below.refl _ _).alloc (Nat.le_refl _) _
      have r9 : rowAt (V1.alloc (.cells m.cells 34)) V1.heap.size = some (m.cells, 34) := rowAt_alloc_at _ _ _ _ rfl
      have hS9 := And.intro (rowKeep hb hS.1) (And.intro (rowKeep hb hS.2.1) (And.intro (Lib.hid (And.intro (bthen hS.2.2.1.out.1 hb) (rowKeep hb hS.2.2.1.out.2))) (Lib.hid (Nat.le_trans hS.2.2.2.out hb.size))))
      have HE9 := Lib.hid (own_alloc HE.out (.cells m.cells 34))
      clear HE
      have HE := HE9
      clear HE9
      clear hb
      obtain ⟨b9, hb9⟩ : ∃ b9, V1.heap.size = b9 := ⟨_, rfl⟩
      rw [hb9] at r9 hlte ⊢
      clear hb9
      generalize V1.alloc (.cells m.cells 34) = V2 at *
      have hne : b9 ≠ e0 := by omega
      refine hK.out _ _ hS9 (fun hS2 => ?_)
      clear hS hK K hS2
      have hS := hS9
      clear hS9
      (try simp only [act_put, act_put_none, List.set_cons_zero, List.set_cons_succ])
      refine wpAnyR_ready (rs := [3]) (by decide +kernel) (by simp) ?_
      refine AllReadyR.cons (i := 3) (by simp only [List.getElem?_toArray, List.getElem?_cons_succ, List.getElem?_cons_zero]; rfl) (fun K hK => ?_) ?_
      · refine wp_append_msgs _ _ rfl rfl HE.out a S.length cap S rfl rfl (fun e => ?c0) ?c1 (by omega) hS.2.2.2.out ?_
        case c0 => exact ((own_cells (own_below HO.out hS.2.2.1.out.1)).2.2.1 e)
        case c1 =>
          intro j u hu
          obtain ⟨b, e, hcc⟩ := (own_cells (own_below HO.out hS.2.2.1.out.1)).2.2.2 j u hu
          exact ⟨b, 0, e, by rw [Nat.zero_add]; exact hcc⟩
        intro v3 V3 hown hb hgr
        rw [Nat.zero_add, List.nil_append] at hown
        have hS9 := And.intro ((rowAt_below hb _ (by omega)).trans hS.1) (And.intro ((rowAt_below hb _ (by omega)).trans hS.2.1) (And.intro (Lib.hid (And.intro (hS.2.2.1.out.1.trans (hb.mono (show w.heap.size ≤ _ by omega))) ((rowAt_below hb (w.heap.size + 1) (by omega)).trans hS.2.2.1.out.2))) (Lib.hid (Nat.le_trans hS.2.2.2.out hb.size))))
        have hr9 := grown_row hgr r9 (fun e => hne (by injection e))
        clear r9
        have r9 := hr9
        clear hr9
        clear HE hb hgr
        have HE := Lib.hid hown
        clear hown
        refine hK.out _ _ hS9 (fun hS2 => ?_)
        clear hS hK K hS2
        have hS := hS9
        clear hS9
        (try simp only [act_put, act_put_none, List.set_cons_zero, List.set_cons_succ])
        refine wpAnyR_ready (rs := [6]) (by decide +kernel) (by simp) ?_
        refine AllReadyR.cons (i := 6) (by simp only [List.getElem?_toArray, List.getElem?_cons_succ, List.getElem?_cons_zero]; rfl) (fun K hK => ?_) ?_
        · refine wp_append_msgs _ _ rfl rfl HE.out (some ⟨b9, 0, none⟩) 1 1 [m] rfl rfl (fun e => by cases e) ?c1 (by omega) hS.2.2.2.out ?_
          case c1 =>
            intro j u hu
            rw [msgV_one] at hu
            exact ⟨b9, 0, rfl, by rw [Nat.zero_add, cell_of_rowAt r9, ← hu]; simp⟩
          intro v10 V4 hown hb hgr
          obtain ⟨a10, c10, rfl⟩ : ∃ a10 c10, v10 = .slice a10 (S.length + 1) c10 := by
            obtain ⟨a10, c10, e, _⟩ := own_open hown (by decide)
            exact ⟨a10, c10, e⟩
          rw [← msgV_app] at hown
          have hS9 := And.intro ((rowAt_below hb _ (by omega)).trans hS.1) (And.intro ((rowAt_below hb _ (by omega)).trans hS.2.1) (And.intro (Lib.hid (And.intro (hS.2.2.1.out.1.trans (hb.mono (show w.heap.size ≤ _ by omega))) ((rowAt_below hb (w.heap.size + 1) (by omega)).trans hS.2.2.1.out.2))) (Lib.hid (Nat.le_trans hS.2.2.2.out hb.size))))
          clear HE hb hgr r9
          have HE : Hid (V4.ownsRow (w.heap.size + 3) 34 12 (.slice a10 (S.length + 1) c10) (S ++ [m]).length (msgV (S ++ [m]))) := Lib.hid (by rw [List.length_append]; exact hown)
          clear hown
          refine hK.out _ _ hS9 (fun hS2 => ?_)
          clear hS hK K hS2
          have hS := hS9
          clear hS9
          (try simp only [act_put, act_put_none, List.set_cons_zero, List.set_cons_succ])
          refine late_take (i := 7) (lt := [8]) (rd := [1, 2, 4, 7]) (by simp only [List.getElem?_toArray, List.getElem?_cons_succ, List.getElem?_cons_zero]; rfl) (by decide +kernel) (by decide +kernel) (by decide +kernel) (by decide +kernel) (by decide +kernel) (by exact fun _ _ _ _ h => h) hS (by rfl) ?_
          apply Exists.intro
          refine ⟨fun w' hSw => ?_, ?_⟩
          · go_simp
            with_reducible rfl
          (try simp only [act_put, act_put_none, List.set_cons_zero, List.set_cons_succ])
          refine wpAnyR_ready (rs := [8]) (by decide +kernel) (by simp) ?_
          refine AllReadyR.last (i := 8) (by simp only [List.getElem?_toArray, List.getElem?_cons_succ, List.getElem?_cons_zero]; rfl) (by decide) (fun K hK => ?_) ?_
          · have hz := fun i => cell_of_rowAt hS.1 i
            have fz := frozen_of_rowAt hS.1
            go_simp
            refine hK.out _ _ ?_
            clear hK K
            (try simp only [act_put, act_put_none, List.set_cons_zero, List.set_cons_succ])
            refine wpAnyR_done (by decide +kernel) ?_ _
            have q1 := rowAt_setCell_same 1 (.slice a10 (S.length + 1) c10) hS.1
            rw [rnC_set1] at q1
            have q2 : rowAt (V4.setCell ⟨w.heap.size, 1, none⟩ (.slice a10 (S.length + 1) c10)) (w.heap.size + 2) = some (rnC 0 none 0 0 0 0 0 0, 29) := by rw [rowAt_setCell_other _ _ _ _ (by simp)]; exact hS.2.1
            have HO9 := Lib.hid (own_setCell (i := 1) (x := .slice a10 (S.length + 1) c10) HE.out (show w.heap.size < w.heap.size + 3 by omega))
            have HB9 := Lib.hid (below_setCell' (i := 1) (v := .slice a10 (S.length + 1) c10) hS.2.2.1.out.1 (Nat.le_refl w.heap.size))
            have hs9 : w.heap.size + 3 ≤ (V4.setCell ⟨w.heap.size, 1, none⟩ (.slice a10 (S.length + 1) c10)).heap.size := by simpa using hS.2.2.2.out
            generalize V4.setCell ⟨w.heap.size, 1, none⟩ (.slice a10 (S.length + 1) c10) = W9 at *
            clear hS HE
            have hz := fun i => cell_of_rowAt q1 i
            have fz := frozen_of_rowAt q1
            go_wp2_with fail
            have rr : rowAt (W9.setCell ⟨w.heap.size, 2, none⟩ (.int .i64 (s + 1))) (w.heap.size + 2) = some (rnC 0 none 0 0 0 0 0 0, 29) := by rw [rowAt_setCell_other _ _ _ _ (by simp)]; exact q2
            refine ret_ct (u := .int .i64 0) (by rfl) (by with_unfolding_all rfl) (by with_unfolding_all rfl) (by rfl) (load_rnet_row (rowAt_setRow_same _ rr)) ?_
            exact ⟨a10, c10, rfl, own_mono (own_setRow (own_setCell HO9.out (show w.heap.size < w.heap.size + 3 by omega)) (show w.heap.size + 2 < w.heap.size + 3 by omega) _) (by omega), below_setRow' (below_setCell' HB9.out (Nat.le_refl _)) (show w.heap.size ≤ w.heap.size + 2 by omega) _⟩
          exact AllReadyR.nil
        exact AllReadyR.nil
      exact AllReadyR.nil
    exact AllReadyR.nil
  refine AllReadyR.cons (i := 5) (by simp only [List.getElem?_toArray, List.getElem?_cons_succ, List.getElem?_cons_zero]; rfl) (fun K hK => ?_) ?_
  · go_simp
    have hb : Below W7.heap.size W7 (W7.alloc (.cells m.cells 34)) := (Below.refl _ _).alloc (Nat.le_refl _) _
    have r9 : rowAt (W7.alloc (.cells m.cells 34)) W7.heap.size = some (m.cells, 34) := rowAt_alloc_at _ _ _ _ rfl
    have hS9 := And.intro (rowKeep hb hS.1) (And.intro (rowKeep hb hS.2.1) (And.intro (Lib.hid (And.intro (bthen hS.2.2.1.out.1 hb) (rowKeep hb hS.2.2.1.out.2))) (Lib.hid (Nat.le_trans hS.2.2.2.out hb.size))))
    clear hb
    obtain ⟨b9, hb9⟩ : ∃ b9, W7.heap.size = b9 := ⟨_, rfl⟩
    rw [hb9] at r9 ⊢
    clear hb9
    generalize W7.alloc (.cells m.cells 34) = V1 at *
    refine hK.out _ _ hS9 (fun hS2 => ?_)
    clear hS hK K hS2
    have hS := hS9
    clear hS9
    (try simp only [act_put, act_put_none, List.set_cons_zero, List.set_cons_succ])
    refine wpAnyR_ready (rs := [0]) (by decide +kernel) (by simp) ?_
    refine AllReadyR.cons (i := 0) (by simp only [List.getElem?_toArray, List.getElem?_cons_succ, List.getElem?_cons_zero]; rfl) (fun K hK => ?_) ?_
    · go_simp
      have hb : Below V1.heap.size V1 (V1.alloc (.cells #[] 34)) := (Below.refl _ _).alloc (Nat.le_refl _) _
      have hE := own_row0 V1 hS.2.2.2.out rfl
      have hS9 := And.intro (rowKeep hb hS.1) (And.intro (rowKeep hb hS.2.1) (And.intro (Lib.hid (And.intro (bthen hS.2.2.1.out.1 hb) (rowKeep hb hS.2.2.1.out.2))) (Lib.hid (Nat.le_trans hS.2.2.2.out hb.size))))
      have hlte : V1.heap.size < (V1.alloc (.cells #[] 34)).heap.size := by simp
      have hr9 := rowKeep hb r9
      have hl9 := rowAt_lt r9
      clear r9
      have r9 := hr9
      clear hr9
      clear hb
      obtain ⟨e0, he0⟩ : ∃ e0, V1.heap.size = e0 := ⟨_, rfl⟩
      rw [he0] at hE hlte hl9 ⊢
      clear he0
      generalize V1.alloc (.cells #[] 34) = V2 at *
      have HE := Lib.hid hE
      clear hE
      have hne : b9 ≠ e0 := by omega
      refine hK.out _ _ hS9 (fun hS2 => ?_)
      clear hS hK K hS2
      have hS := hS9
      clear hS9
      (try simp only [act_put, act_put_none, List.set_cons_zero, List.set_cons_succ])
      refine wpAnyR_ready (rs := [3]) (by decide +kernel) (by simp) ?_
      refine AllReadyR.cons (i := 3) (by simp only [List.getElem?_toArray, List.getElem?_cons_succ, List.getElem?_cons_zero]; rfl) (fun K hK => ?_) ?_
      · refine wp_append_msgs _ _ rfl rfl HE.out a S.length cap S rfl rfl (fun e => ?c0) ?c1 (by omega) hS.2.2.2.out ?_
        case c0 => exact ((own_cells (own_below HO.out hS.2.2.1.out.1)).2.2.1 e)
        case c1 =>
          intro j u hu
          obtain ⟨b, e, hcc⟩ := (own_cells (own_below HO.out hS.2.2.1.out.1)).2.2.2 j u hu
          exact ⟨b, 0, e, by rw [Nat.zero_add]; exact hcc⟩
        intro v3 V3 hown hb hgr
        rw [Nat.zero_add, List.nil_append] at hown
        have hS9 := And.intro ((rowAt_below hb _ (by omega)).trans hS.1) (And.intro ((rowAt_below hb _ (by omega)).trans hS.2.1) (And.intro (Lib.hid (And.intro (hS.2.2.1.out.1.trans (hb.mono (show w.heap.size ≤ _ by omega))) ((rowAt_below hb (w.heap.size + 1) (by omega)).trans hS.2.2.1.out.2))) (Lib.hid (Nat.le_trans hS.2.2.2.out hb.size))))
        have hr9 := grown_row hgr r9 (fun e => hne (by injection e))
        clear r9
        have r9 := hr9
        clear hr9
        clear HE hb hgr
        have HE := Lib.hid hown
        clear hown
        refine hK.out _ _ hS9 (fun hS2 => ?_)
        clear hS hK K hS2
        have hS := hS9
        clear hS9
        (try simp only [act_put, act_put_none, List.set_cons_zero, List.set_cons_succ])
        refine wpAnyR_ready (rs := [6]) (by decide +kernel) (by simp) ?_
        refine AllReadyR.cons (i := 6) (by simp only [List.getElem?_toArray, List.getElem?_cons_succ, List.getElem?_cons_zero]; rfl) (fun K hK => ?_) ?_
        · refine wp_append_msgs _ _ rfl rfl HE.out (some ⟨b9, 0, none⟩) 1 1 [m] rfl rfl (fun e => by cases e) ?c1 (by omega) hS.2.2.2.out ?_
          case c1 =>
            intro j u hu
            rw [msgV_one] at hu
            exact ⟨b9, 0, rfl, by rw [Nat.zero_add, cell_of_rowAt r9, ← hu]; simp⟩
          intro v10 V4 hown hb hgr
          obtain ⟨a10, c10, rfl⟩ : ∃ a10 c10, v10 = .slice a10 (S.length + 1) c10 := by
            obtain ⟨a10, c10, e, _⟩ := own_open hown (by decide)
            exact ⟨a10, c10, e⟩
          rw [← msgV_app] at hown
          have hS9 := And.intro ((rowAt_below hb _ (by omega)).trans hS.1) (And.intro ((rowAt_below hb _ (by omega)).trans hS.2.1) (And.intro (Lib.hid (And.intro (hS.2.2.1.out.1.trans (hb.mono (show w.heap.size ≤ _ by omega))) ((rowAt_below hb (w.heap.size + 1) (by omega)).trans hS.2.2.1.out.2))) (Lib.hid (Nat.le_trans hS.2.2.2.out hb.size))))
          clear HE hb hgr r9
          have HE : Hid (V4.ownsRow (w.heap.size + 3) 34 12 (.slice a10 (S.length + 1) c10) (S ++ [m]).length (msgV (S ++ [m]))) := Lib.hid (by rw [List.length_append]; exact hown)
          clear hown
          refine hK.out _ _ hS9 (fun hS2 => ?_)
          clear hS hK K hS2
          have hS := hS9
          clear hS9
          (try simp only [act_put, act_put_none, List.set_cons_zero, List.set_cons_succ])
          refine late_take (i := 7) (lt := [8]) (rd := [1, 2, 4, 7]) (by simp only [List.getElem?_toArray, List.getElem?_cons_succ, List.getElem?_cons_zero]; rfl) (by decide +kernel) (by decide +kernel) (by decide +kernel) (by decide +kernel) (by decide +kernel) (by exact fun _ _ _ _ h => h) hS (by rfl) ?_
          apply Exists.intro
          refine ⟨fun w' hSw => ?_, ?_⟩
          · go_simp
            with_reducible rfl
          (try simp only [act_put, act_put_none, List.set_cons_zero, List.set_cons_succ])
          refine wpAnyR_ready (rs := [8]) (by decide +kernel) (by simp) ?_
          refine AllReadyR.last (i := 8) (by simp only [List.getElem?_toArray, List.getElem?_cons_succ, List.getElem?_cons_zero]; rfl) (by decide) (fun K hK => ?_) ?_
          · have hz := fun i => cell_of_rowAt hS.1 i
            have fz := frozen_of_rowAt hS.1
            go_simp
            refine hK.out _ _ ?_
            clear hK K
            (try simp only [act_put, act_put_none, List.set_cons_zero, List.set_cons_succ])
            refine wpAnyR_done (by decide +kernel) ?_ _
            have q1 := rowAt_setCell_same 1 (.slice a10 (S.length + 1) c10) hS.1
            rw [rnC_set1] at q1
            have q2 : rowAt (V4.setCell ⟨w.heap.size, 1, none⟩ (.slice a10 (S.length + 1) c10)) (w.heap.size + 2) = some (rnC 0 none 0 0 0 0 0 0, 29) := by rw [rowAt_setCell_other _ _ _ _ (by simp)]; exact hS.2.1
            have HO9 := Lib.hid (own_setCell (i := 1) (x := .slice a10 (S.length + 1) c10) HE.out (show w.heap.size < w.heap.size + 3 by omega))
            have HB9 := Lib.hid (below_setCell' (i := 1) (v := .slice a10 (S.length + 1) c10) hS.2.2.1.out.1 (Nat.le_refl w.heap.size))
            have hs9 : w.heap.size + 3 ≤ (V4.setCell ⟨w.heap.size, 1, none⟩ (.slice a10 (S.length + 1) c10)).heap.size := by simpa using hS.2.2.2.out
            generalize V4.setCell ⟨w.heap.size, 1, none⟩ (.slice a10 (S.length + 1) c10) = W9 at *
            clear hS HE
            have hz := fun i => cell_of_rowAt q1 i
            have fz := frozen_of_rowAt q1
            go_wp2_with fail
            have rr : rowAt (W9.setCell ⟨w.heap.size, 2, none⟩ (.int .i64 (s + 1))) (w.heap.size + 2) = some (rnC 0 none 0 0 0 0 0 0, 29) := by rw [rowAt_setCell_other _ _ _ _ (by simp)]; exact q2
            refine ret_ct (u := .int .i64 0) (by rfl) (by with_unfolding_all rfl) (by with_unfolding_all rfl) (by rfl) (load_rnet_row (rowAt_setRow_same _ rr)) ?_
            exact ⟨a10, c10, rfl, own_mono (own_setRow (own_setCell HO9.out (show w.heap.size < w.heap.size + 3 by omega)) (show w.heap.size + 2 < w.heap.size + 3 by omega) _) (by omega), below_setRow' (below_setCell' HB9.out (Nat.le_refl _)) (show w.heap.size ≤ w.heap.size + 2 by omega) _⟩
          exact AllReadyR.nil
        exact AllReadyR.nil
      exact AllReadyR.nil
    exact AllReadyR.nil
  exact AllReadyR.nil
end Go.Proofs.YtlocoieknabiaaaGreat

/-
  Layer 15 (net): a step of the net, and of the reference.
-/
namespace Go.Proofs.YtlocoieknabiaaaGreat
set_option maxRecDepth 20000
open Go.RowKit
set_option linter.unusedSimpArgs false
set_option linter.unusedVariables false
attribute [local go_sem] rowCells rowAt_drewN rowAt_alloc rowAt_drew setRow_alloc setRow_drewN setRow_drew setCell_alloc setCell_drewN rowAt_setRow rowAt_setCell Later.cell Later.frozen
attribute [local go_sem ↓] xload_msg xstore_msg xalloc_msg xbuildS_msg xbuild_msg0 xload_do xstore_do xalloc_do xload_rnet xstore_rnet xalloc_rnet
attribute [local go_sem] load_msg load_msg_later store_msg Msg.size Msg.cut_all Msg.splice_all buildSM_agg load_do store_do doC_size doC_all doC_splice doC_cut doC_get0 doC_get1 doC_getE0 doC_getE1 load_rnet store_rnet rnC_size rnC_all rnC_splice load_msg_at rnC_get0 rnC_get1 rnC_get2 rnC_get3 rnC_get4 rnC_get5 rnC_getE0 rnC_getE1 rnC_getE2 rnC_getE3 rnC_getE4 rnC_getE5 rnC_set1 rnC_set2 rnC_set3 rnC_set4 rnC_set5

/-- What sending comes to. -/
def SendR (room : Int) (R : List Msg) (m : Msg) (s : Int) (R' : List Msg) (s' e : Int) : Prop :=
  (rightM m = false ∧ R' = R ∧ s' = s ∧ e = 1) ∨ (rightM m = true ∧ room ≤ (R.length : Int) ∧ R' = R ∧ s' = s ∧ e = 7) ∨ (rightM m = true ∧ ¬ room ≤ (R.length : Int) ∧ R' = R ++ [m] ∧ s' = s + 1 ∧ e = 0)
theorem sendR_any (room : Int) (R : List Msg) (m : Msg) (s : Int) : ∃ R' s' e, SendR room R m s R' s' e := by
  by_cases h1 : rightM m = true
  · by_cases h2 : room ≤ (R.length : Int)
    · exact ⟨R, s, 7, .inr (.inl ⟨h1, h2, rfl, rfl, rfl⟩)⟩
    · exact ⟨R ++ [m], s + 1, 0, .inr (.inr ⟨h1, h2, rfl, rfl, rfl⟩)⟩
  · exact ⟨R, s, 1, .inl ⟨by simpa using h1, rfl, rfl, rfl⟩⟩
/-- What taking, or losing, comes to. -/
def PullR (R : List Msg) (k n : Int) (R' : List Msg) (n' e : Int) (x : Msg) : Prop :=
  ((k < 0 ∨ (R.length : Int) ≤ k) ∧ R' = R ∧ n' = n ∧ e = 10 ∧ x = msg0) ∨ (∃ j : Nat, k = (j : Int) ∧ j < R.length ∧ R' = withoutM R j ∧ n' = n + 1 ∧ e = 0 ∧ x = R.getD j msg0)
theorem pullR_any (R : List Msg) (k n : Int) : ∃ R' n' e x, PullR R k n R' n' e x := by
  by_cases h : k < 0 ∨ (R.length : Int) ≤ k
  · exact ⟨R, n, 10, msg0, .inl ⟨h, rfl, rfl, rfl, rfl⟩⟩
  · obtain ⟨j, rfl⟩ := Int.eq_ofNat_of_zero_le (show 0 ≤ k by omega)
    exact ⟨_, _, _, _, .inr ⟨j, rfl, by omega, rfl, rfl, rfl, rfl⟩⟩
/-- What making two comes to. -/
def TwiceR (room : Int) (R : List Msg) (k n : Int) (R' : List Msg) (n' e : Int) : Prop :=
  ((k < 0 ∨ (R.length : Int) ≤ k) ∧ R' = R ∧ n' = n ∧ e = 10) ∨ (∃ j : Nat, k = (j : Int) ∧ j < R.length ∧ room ≤ (R.length : Int) ∧ R' = R ∧ n' = n ∧ e = 7) ∨ (∃ j : Nat, k = (j : Int) ∧ j < R.length ∧ ¬ room ≤ (R.length : Int) ∧ R' = R ++ [R.getD j msg0] ∧ n' = n + 1 ∧ e = 0)
theorem twiceR_any (room : Int) (R : List Msg) (k n : Int) : ∃ R' n' e, TwiceR room R k n R' n' e := by
  by_cases h : k < 0 ∨ (R.length : Int) ≤ k
  · exact ⟨R, n, 10, .inl ⟨h, rfl, rfl, rfl⟩⟩
  · obtain ⟨j, rfl⟩ := Int.eq_ofNat_of_zero_le (show 0 ≤ k by omega)
    by_cases h2 : room ≤ (R.length : Int)
    · exact ⟨_, _, _, .inr (.inl ⟨j, rfl, by omega, h2, rfl, rfl, rfl⟩)⟩
    · exact ⟨_, _, _, .inr (.inr ⟨j, rfl, by omega, h2, rfl, rfl, rfl⟩)⟩
/-- The numbers of a net, behind k steps. -/
structure NumOk (w0 : World) (room : Int) (R : List Msg) (s c l d : Int) (k : Nat) : Prop where
  sum : s + d = c + l + (R.length : Int)
  s0 : 0 ≤ s ∧ s ≤ k
  c0 : 0 ≤ c ∧ c ≤ k
  l0 : 0 ≤ l ∧ l ≤ k
  d0 : 0 ≤ d ∧ d ≤ k
  len : R.length ≤ k
  room : (R.length : Int) ≤ room
  ok : ∀ m ∈ R, MsgOk w0 m ∧ rightM m = true
theorem NumOk.step {w0 : World} {room : Int} {R : List Msg} {s c l d : Int} {k : Nat} (h : NumOk w0 room R s c l d k) : NumOk w0 room R s c l d (k + 1) :=
  ⟨h.sum, by have := h.s0; omega, by have := h.c0; omega, by have := h.l0; omega, by have := h.d0; omega, by have := h.len; omega, h.room, h.ok⟩
theorem NumOk.send {w0 : World} {room : Int} {R R' : List Msg} {s c l d s' e : Int} {k : Nat} {m : Msg} (h : NumOk w0 room R s c l d k) (hS : SendR room R m s R' s' e) (hm : MsgOk w0 m) : NumOk w0 room R' s' c l d (k + 1) := by
  rcases hS with ⟨_, rfl, rfl, _⟩ | ⟨_, _, rfl, rfl, _⟩ | ⟨hr, h2, rfl, rfl, _⟩
  · exact h.step
  · exact h.step
  · have hl : (R ++ [m]).length = R.length + 1 := by simp
    have := h.sum
    refine ⟨by rw [hl]; omega, by have := h.s0; omega, by have := h.c0; omega, by have := h.l0; omega, by have := h.d0; omega, by have := h.len; omega, by rw [hl]; omega, fun x hx => ?_⟩
    rcases List.mem_append.1 hx with hx | hx
    · exact h.ok x hx
    · rw [List.mem_singleton.1 hx]; exact ⟨hm, hr⟩
theorem NumOk.take {w0 : World} {room : Int} {R R' : List Msg} {s c l d c' e k0 : Int} {k : Nat} {x : Msg} (h : NumOk w0 room R s c l d k) (hS : PullR R k0 c R' c' e x) : NumOk w0 room R' s c' l d (k + 1) := by
  rcases hS with ⟨_, rfl, rfl, _⟩ | ⟨j, _, hj, rfl, rfl, _⟩
  · exact h.step
  · have hl := withoutM_len hj
    have := h.sum
    exact ⟨by rw [hl]; omega, by have := h.s0; omega, by have := h.c0; omega, by have := h.l0; omega, by have := h.d0; omega, by have := h.len; omega, by have := h.room; rw [hl]; omega, fun x hx => h.ok x (withoutM_mem hx)⟩
theorem NumOk.lose {w0 : World} {room : Int} {R R' : List Msg} {s c l d l' e k0 : Int} {k : Nat} {x : Msg} (h : NumOk w0 room R s c l d k) (hS : PullR R k0 l R' l' e x) : NumOk w0 room R' s c l' d (k + 1) := by
  rcases hS with ⟨_, rfl, rfl, _⟩ | ⟨j, _, hj, rfl, rfl, _⟩
  · exact h.step
  · have hl := withoutM_len hj
    have := h.sum
    exact ⟨by rw [hl]; omega, by have := h.s0; omega, by have := h.c0; omega, by have := h.l0; omega, by have := h.d0; omega, by have := h.len; omega, by have := h.room; rw [hl]; omega, fun x hx => h.ok x (withoutM_mem hx)⟩
theorem NumOk.twice {w0 : World} {room : Int} {R R' : List Msg} {s c l d d' e k0 : Int} {k : Nat} (h : NumOk w0 room R s c l d k) (hS : TwiceR room R k0 d R' d' e) : NumOk w0 room R' s c l d' (k + 1) := by
  rcases hS with ⟨_, rfl, rfl, _⟩ | ⟨j, _, hj, _, rfl, rfl, _⟩ | ⟨j, _, hj, h2, rfl, rfl, _⟩
  · exact h.step
  · exact h.step
  · have hl : (R ++ [R.getD j msg0]).length = R.length + 1 := by simp
    have := h.sum
    refine ⟨by rw [hl]; omega, by have := h.s0; omega, by have := h.c0; omega, by have := h.l0; omega, by have := h.d0; omega, by have := h.len; omega, by rw [hl]; omega, fun x hx => ?_⟩
    rcases List.mem_append.1 hx with hx | hx
    · exact h.ok x hx
    · rw [List.mem_singleton.1 hx]; exact h.ok _ (getD_mem hj)
section
variable {X : Nat → Prop} {w w0 : World} {g q B cap k : Nat} {room s c l d : Int} {a : Option Addr} {R : List Msg}
theorem rsend_any {R' : List Msg} {s' e0 : Int} {m : Msg} (h : w.ownsRow B 34 12 (.slice a R.length cap) R.length (msgV R)) (hB : B ≤ w.heap.size) (hm : MsgOk w m) (hS : SendR room R m s R' s' e0) (hN : NumOk w0 room R s c l d k) (hk : k ≤ 1000) :
    Calls Tryz.prog 7 #[.agg (rnC room a R.length cap s c l d), .agg m.cells] w fun e w' => ∃ a' cap', e = .returned (.tuple #[.agg (rnC room a' R'.length cap' s' c l d), .int .i64 e0]) ∧ w'.ownsRow B 34 12 (.slice a' R'.length cap') R'.length (msgV R') ∧ Below w.heap.size w w' := by
  rcases hS with ⟨hr, rfl, rfl, rfl⟩ | ⟨hr, h2, rfl, rfl, rfl⟩ | ⟨hr, h2, rfl, rfl, rfl⟩
  · exact (rsend_no m w hr hm).mono fun _ _ ⟨h1, hb⟩ => ⟨a, cap, h1, own_below h hb, hb⟩
  · exact (rsend_full m w hr hm h2).mono fun _ _ ⟨h1, hb⟩ => ⟨a, cap, h1, own_below h hb, hb⟩
  · have hl : (R ++ [m]).length = R.length + 1 := by simp
    have h3 := hN.len
    have h4 := hN.s0
    rw [hl]
    exact (rsend_ok m R hr hm h h2 (by omega) (by omega)).mono fun _ _ ⟨a', cap', h1, ho, hb⟩ => ⟨a', cap', h1, by rw [hl] at ho; exact own_mono ho hB, hb⟩
theorem nsend_any {R' : List Msg} {s' e0 : Int} {m : Msg} (h : NT X w g q room (psOf R) s c l d) (hm : MsgOk w m) (hS : SendR room R m s R' s' e0) (hN : NumOk w0 room R s c l d k) (hk : k ≤ 1000) (hX : ∀ b, w.heap.size ≤ b → X b) :
    Calls Tryz.prog 8 #[.pointer (some ⟨g, 0, none⟩), .agg m.cells] w fun e w' => e = .returned (.int .i64 e0) ∧ NT X w' g q room (psOf R') s' c l d ∧ Two g q w w' := by
  have hq : q ≤ w.heap.size := by have := h.cells; omega
  have h3 := hN.len
  have h4 := hN.s0
  have h5 := hN.room
  rcases hS with ⟨hr, rfl, rfl, rfl⟩ | ⟨hr, h2, rfl, rfl, rfl⟩ | ⟨hr, h2, rfl, rfl, rfl⟩
  · exact (send_no m g hr hm).mono fun _ _ ⟨h1, hb⟩ => ⟨h1, h.below hb, Two.of_below hb hq⟩
  · exact (send_full m hr hm h (by rw [psOf_len]; omega)).mono fun _ _ ⟨h1, hb⟩ => ⟨h1, h.below hb, Two.of_below hb hq⟩
  · exact (send_m m hr hm h (by rw [psOf_len]; omega) (by rw [psOf_len]; omega) (by omega) hX).mono fun _ _ ⟨h1, hn, ht⟩ => ⟨h1, by rw [psOf_snoc]; exact hn, ht⟩
theorem rtake_any {R' : List Msg} {c' e0 k0 : Int} {x : Msg} (h : w.ownsRow B 34 12 (.slice a R.length cap) R.length (msgV R)) (hB : B ≤ w.heap.size) (hS : PullR R k0 c R' c' e0 x) (hN : NumOk w0 room R s c l d k) (hk : k ≤ 1000) :
    Calls Tryz.prog 10 #[.agg (rnC room a R.length cap s c l d), .int .i64 k0] w fun e w' => ∃ a' cap', e = .returned (.tuple #[.agg (rnC room a' R'.length cap' s c' l d), .agg x.cells, .int .i64 e0]) ∧ w'.ownsRow B 34 12 (.slice a' R'.length cap') R'.length (msgV R') ∧ Below w.heap.size w w' := by
  have h3 := hN.len
  have h4 := hN.c0
  rcases hS with ⟨h1, rfl, rfl, rfl, rfl⟩ | ⟨j, rfl, hj, rfl, rfl, rfl, rfl⟩
  · exact (rtake_none w h1).mono fun _ _ ⟨h1, hb⟩ => ⟨a, cap, h1, own_below h hb, hb⟩
  · have hl := withoutM_len hj
    exact (rtake_ok R h hj (by omega) (by omega)).mono fun _ _ ⟨a', cap', h1, ho, hb⟩ => ⟨a', cap', by rw [hl]; exact h1, by rw [hl] at ho ⊢; exact own_mono ho hB, hb⟩
theorem rlose_any {R' : List Msg} {l' e0 k0 : Int} {x : Msg} (h : w.ownsRow B 34 12 (.slice a R.length cap) R.length (msgV R)) (hB : B ≤ w.heap.size) (hS : PullR R k0 l R' l' e0 x) (hN : NumOk w0 room R s c l d k) (hk : k ≤ 1000) :
    Calls Tryz.prog 12 #[.agg (rnC room a R.length cap s c l d), .int .i64 k0] w fun e w' => ∃ a' cap', e = .returned (.tuple #[.agg (rnC room a' R'.length cap' s c l' d), .int .i64 e0]) ∧ w'.ownsRow B 34 12 (.slice a' R'.length cap') R'.length (msgV R') ∧ Below w.heap.size w w' := by
  have h3 := hN.len
  have h4 := hN.l0
  rcases hS with ⟨h1, rfl, rfl, rfl, rfl⟩ | ⟨j, rfl, hj, rfl, rfl, rfl, rfl⟩
  · exact (rlose_none w h1).mono fun _ _ ⟨h1, hb⟩ => ⟨a, cap, h1, own_below h hb, hb⟩
  · have hl := withoutM_len hj
    exact (rlose_ok R h hj (by omega) (by omega)).mono fun _ _ ⟨a', cap', h1, ho, hb⟩ => ⟨a', cap', by rw [hl]; exact h1, by rw [hl] at ho ⊢; exact own_mono ho hB, hb⟩
theorem nlose_any {R' : List Msg} {l' e0 k0 : Int} {x : Msg} (h : NT X w g q room (psOf R) s c l d) (hS : PullR R k0 l R' l' e0 x) (hN : NumOk w0 room R s c l d k) (hk : k ≤ 1000) (hX : ∀ b, w.heap.size ≤ b → X b) :
    Calls Tryz.prog 13 #[.pointer (some ⟨g, 0, none⟩), .int .i64 k0] w fun e w' => e = .returned (.int .i64 e0) ∧ NT X w' g q room (psOf R') s c l' d ∧ Two g q w w' := by
  have hq : q ≤ w.heap.size := by have := h.cells; omega
  have h3 := hN.len
  have h4 := hN.l0
  rcases hS with ⟨h1, rfl, rfl, rfl, rfl⟩ | ⟨j, rfl, hj, rfl, rfl, rfl, rfl⟩
  · exact (lose_none h (by rw [psOf_len]; exact h1)).mono fun _ _ ⟨h1, hb⟩ => ⟨h1, h.below hb, Two.of_below hb hq⟩
  · exact (lose_ok h (by rw [psOf_len]; exact hj) (by rw [psOf_len]; omega) (by omega) hX).mono fun _ _ ⟨h1, hn, ht⟩ => ⟨h1, by rw [psOf_without]; exact hn, ht⟩
theorem rtwice_any {R' : List Msg} {d' e0 k0 : Int} (h : w.ownsRow B 34 12 (.slice a R.length cap) R.length (msgV R)) (hB : B ≤ w.heap.size) (hS : TwiceR room R k0 d R' d' e0) (hN : NumOk w0 room R s c l d k) (hk : k ≤ 1000) :
    Calls Tryz.prog 14 #[.agg (rnC room a R.length cap s c l d), .int .i64 k0] w fun e w' => ∃ a' cap', e = .returned (.tuple #[.agg (rnC room a' R'.length cap' s c l d'), .int .i64 e0]) ∧ w'.ownsRow B 34 12 (.slice a' R'.length cap') R'.length (msgV R') ∧ Below w.heap.size w w' := by
  have h3 := hN.len
  have h4 := hN.d0
  rcases hS with ⟨h1, rfl, rfl, rfl⟩ | ⟨j, rfl, hj, h2, rfl, rfl, rfl⟩ | ⟨j, rfl, hj, h2, rfl, rfl, rfl⟩
  · exact (rtwice_none w h1).mono fun _ _ ⟨h1, hb⟩ => ⟨a, cap, h1, own_below h hb, hb⟩
  · exact (rtwice_full w hj h2).mono fun _ _ ⟨h1, hb⟩ => ⟨a, cap, h1, own_below h hb, hb⟩
  · have hl : (R ++ [R.getD j msg0]).length = R.length + 1 := by simp
    exact (rtwice_ok R h hj h2 (by omega) (by omega)).mono fun _ _ ⟨a', cap', h1, ho, hb⟩ => ⟨a', cap', by rw [hl]; exact h1, by rw [hl] at ho ⊢; exact own_mono ho hB, hb⟩
theorem ntwice_any {R' : List Msg} {d' e0 k0 : Int} (h : NT X w g q room (psOf R) s c l d) (hS : TwiceR room R k0 d R' d' e0) (hN : NumOk w0 room R s c l d k) (hk : k ≤ 1000) (hX : ∀ b, w.heap.size ≤ b → X b) :
    Calls Tryz.prog 15 #[.pointer (some ⟨g, 0, none⟩), .int .i64 k0] w fun e w' => e = .returned (.int .i64 e0) ∧ NT X w' g q room (psOf R') s c l d' ∧ Two g q w w' := by
  have hq : q ≤ w.heap.size := by have := h.cells; omega
  have h3 := hN.len
  have h4 := hN.d0
  have h5 := hN.room
  rcases hS with ⟨h1, rfl, rfl, rfl⟩ | ⟨j, rfl, hj, h2, rfl, rfl, rfl⟩ | ⟨j, rfl, hj, h2, rfl, rfl, rfl⟩
  · exact (twice_none h (by rw [psOf_len]; exact h1)).mono fun _ _ ⟨h1, hb⟩ => ⟨h1, h.below hb, Two.of_below hb hq⟩
  · exact (twice_full h (by omega) (by rw [psOf_len]; omega) (by rw [psOf_len]; omega)).mono fun _ _ ⟨h1, hb⟩ => ⟨h1, h.below hb, Two.of_below hb hq⟩
  · exact (twice_ok h (by rw [psOf_len]; exact hj) (by rw [psOf_len]; omega) (by rw [psOf_len]; omega) (by omega) hX).mono fun _ _ ⟨h1, hn, ht⟩ => ⟨h1, by rw [psOf_snoc, ← psOf_get R hj]; exact hn, ht⟩
theorem reM_msg0 {w : World} (h : MsgOk w msg0) : MsgOk w (reM msg0 none 0 fun _ => (none, 0)) := ⟨⟨fun i hi => absurd hi (by simp [reM, msg0]), fun i hi => absurd hi (by simp [reM, msg0])⟩, Nat.le_refl _, fun _ => rfl, h.big⟩
theorem msg0_ok (w : World) : MsgOk w msg0 := ⟨⟨fun i hi => absurd hi (by simp [msg0]), fun i hi => absurd hi (by simp [msg0])⟩, Nat.le_refl _, fun _ => rfl, by decide, by decide, by decide⟩
theorem ntake_any {R' : List Msg} {c' e0 k0 : Int} {x : Msg} (h : NT X w g q room (psOf R) s c l d) (hS : PullR R k0 c R' c' e0 x) (hN : NumOk w0 room R s c l d k) (hk : k ≤ 1000) (hX : ∀ b, w.heap.size ≤ b → X b) (hb0 : Below w0.heap.size w0 w) :
    Calls Tryz.prog 9 #[.pointer (some ⟨g, 0, none⟩), .int .i64 k0] w fun e w' => ∃ mm : Msg, e = .returned (.tuple #[.agg mm.cells, .int .i64 e0]) ∧ MsgOk w' mm ∧ (∀ w2, MsgOk w2 mm → MsgOk w2 x → Calls Tryz.prog 11 #[.agg mm.cells, .agg x.cells] w2 fun e w' => e = .returned (.bool true) ∧ Below w2.heap.size w2 w') ∧
      NT X w' g q room (psOf R') s c' l d ∧ Two g q w w' := by
  have hq : q ≤ w.heap.size := by have := h.cells; omega
  have h3 := hN.len
  have h4 := hN.c0
  rcases hS with ⟨h1, rfl, rfl, rfl, rfl⟩ | ⟨j, rfl, hj, rfl, rfl, rfl, rfl⟩
  · exact (take_none h (by rw [psOf_len]; exact h1)).mono fun _ w' ⟨h1, hb⟩ => ⟨msg0, h1, msg0_ok w', fun w2 o1 o2 => msame_yes' msg0 none 0 (fun _ => (none, 0)) w2 (reM_msg0 o1) o2, h.below hb, Two.of_below hb hq⟩
  · have hm := hN.ok _ (getD_mem hj)
    exact (take_m (R.getD j msg0) h (by rw [psOf_len]; exact hj) (by rw [psOf_len]; omega) (by omega) hm.2 (hm.1.below hb0) (psOf_get R hj) hX).mono fun _ w' ⟨A', c1, H, h1, ho, hn, ht⟩ => ⟨reM (R.getD j msg0) A' c1 H, h1, ho, fun w2 o1 o2 => msame_yes' _ A' c1 H w2 o1 o2, by rw [psOf_without]; exact hn, ht⟩
end
end Go.Proofs.YtlocoieknabiaaaGreat

/-
  Layer 15 (net): few steps; no net.
-/
namespace Go.Proofs.YtlocoieknabiaaaGreat
set_option maxRecDepth 20000
open Go.RowKit
set_option linter.unusedSimpArgs false
set_option linter.unusedVariables false
attribute [local go_sem] rowCells rowAt_drewN rowAt_alloc rowAt_drew setRow_alloc setRow_drewN setRow_drew setCell_alloc setCell_drewN rowAt_setRow rowAt_setCell Later.cell Later.frozen
attribute [local go_sem ↓] xload_msg xstore_msg xalloc_msg xbuildS_msg xbuild_msg0 xload_do xstore_do xalloc_do xload_rnet xstore_rnet xalloc_rnet
attribute [local go_sem] load_msg load_msg_later store_msg Msg.size Msg.cut_all Msg.splice_all buildSM_agg load_do store_do doC_size doC_all doC_splice doC_cut doC_get0 doC_get1 doC_getE0 doC_getE1 load_rnet store_rnet rnC_size rnC_all rnC_splice load_msg_at rnC_get0 rnC_get1 rnC_get2 rnC_get3 rnC_get4 rnC_get5 rnC_getE0 rnC_getE1 rnC_getE2 rnC_getE3 rnC_getE4 rnC_getE5 rnC_set1 rnC_set2 rnC_set3 rnC_set4 rnC_set5

theorem netNew_none (room : Int) (w : World) (h : room < 1 ∨ 256 < room) : Calls Tryz.prog 4 #[.int .i64 room] w fun e w' => e = .returned (.pointer none) ∧ Below w.heap.size w w' := by
  by_cases h1 : room < 1
  · have g1 : decide (room < 1) = true := decide_eq_true h1
    go_enter Tryz.func4, Tryz.ntmps4
    go_wp2_with fail
    go_ret
    exact ⟨rfl, Below.refl _ _⟩
  · have g1 : decide (room < 1) = false := decide_eq_false h1
    have g2 : decide (256 < room) = true := decide_eq_true (by omega)
    go_enter Tryz.func4, Tryz.ntmps4
    go_wp2_with fail
    go_ret
    exact ⟨rfl, Below.refl _ _⟩
def few15B (n : Nat) (M : Nat → Msg) : Bool := (List.range n).all (fun i => few13B (M i).fn (M i).fl (M i).pn (M i).po) && decide (n ≤ 40)
theorem few15_no {n k : Nat} {M : Nat → Msg} (hk : k < n) (h : few13B (M k).fn (M k).fl (M k).pn (M k).po = false) : few15B n M = false := by
  have : (List.range n).all (fun i => few13B (M i).fn (M i).fl (M i).pn (M i).po) = false := by
    rw [List.all_eq_false]
    exact ⟨k, List.mem_range.2 hk, by simp [h]⟩
  simp [few15B, this]
theorem few15_yes {n : Nat} {M : Nat → Msg} (h : ∀ i, i < n → few13B (M i).fn (M i).fl (M i).pn (M i).po = true) : few15B n M = decide (n ≤ 40) := by
  have : (List.range n).all (fun i => few13B (M i).fn (M i).fl (M i).pn (M i).po) = true := by
    rw [List.all_eq_true]
    exact fun i hi => h i (List.mem_range.1 hi)
  simp [few15B, this]
set_option maxHeartbeats 4000000 in
theorem few15_any (A : Option Addr) (n c : Nat) (V K : Nat → Int) (M : Nat → Msg) (hn : n ≤ 9223372036854775807) (w : World) (h : DosIs w A n V K M) : Calls Tryz.prog 5 #[.slice A n c] w fun e w' => e = .returned (.bool (few15B n M)) ∧ Below w.heap.size w w' := by
  have HD := Lib.hid h
  clear h
  go_enter Tryz.func5, Tryz.ntmps5
  go_wp2_with fail
  go_loopw [7] (fun i wx => ∃ k : Nat, k ≤ n ∧ i = .int .i64 k ∧ Hid (∀ j, j < k → few13B (M j).fn (M j).fl (M j).pn (M j).po = true) ∧ Hid (Below w.heap.size w wx)) (fun i _ => n - (intOf i).toNat)
  case atStart => exact ⟨0, Nat.zero_le _, rfl, Lib.hid fun j hj => by omega, Lib.hid (Below.refl _ _)⟩
  case round =>
    rename World => wr
    obtain ⟨k, hk, rfl, HF, HB⟩ := hrel
    by_cases hlt : k < n
    · obtain ⟨b, o, rfl, hl⟩ := (HD.out.below HB.out).load hlt
      have HK := Lib.hid (((HD.out.below HB.out).ok k hlt).below ((Below.refl wr.heap.size wr).alloc (Nat.le_refl _) (.cells (doC (V k) (K k) (M k)) 36)))
      obtain ⟨fb, hfb⟩ : ∃ b, few13B (M k).fn (M k).fl (M k).pn (M k).po = b := ⟨_, rfl⟩
      have HFB := Lib.hid hfb
      obtain ⟨m, hm⟩ : ∃ m, M k = m := ⟨_, rfl⟩
      rw [hm] at hl HK hfb
      have HFM := Lib.hid hfb
      clear hm hfb
      go_wp2_with fail
      refine (few14_is HK.out HFM.out).mono ?_
      rintro e w2 ⟨rfl, hb⟩
      have HB2 := Lib.hid (bthen HB.out (bthen ((Below.refl _ _).alloc (Nat.le_refl _) _) hb))
      clear hb hl HK HFM
      cases fb
      · have HNO := Lib.hid (few15_no hlt HFB.out)
        go_wp2_with fail
        go_ret
        exact ⟨by rw [HNO.out]; rfl, HB2.out⟩
      · go_wp2_with fail
        go_roundw
        case rel =>
          refine ⟨k + 1, by omega, by go_num, Lib.hid fun j hj => ?_, HB2⟩
          by_cases e : j = k
          · subst e; exact HFB.out
          · exact HF.out j (by omega)
        case measure => simp [intOf]; omega
    · obtain rfl : k = n := by omega
      have HYES := Lib.hid (few15_yes HF.out)
      obtain ⟨z, hz⟩ : ∃ z, decide (k ≤ 40) = z := ⟨_, rfl⟩
      have hz2 : decide ((k : Int) ≤ 40) = z := by rw [← hz]; exact decide_eq_decide.2 (by omega)
      go_wp2_with fail
      go_ret
      exact ⟨by rw [HYES.out, hz]; rfl, HB.out⟩
end Go.Proofs.YtlocoieknabiaaaGreat
