/-
  Layer 15 (net): the reference takes a message.
-/
import Derived.Test.YtlocoieknabiaaaGreatZNetRef
namespace Go.Proofs.YtlocoieknabiaaaGreat
set_option maxRecDepth 20000
open Go.RowKit
set_option linter.unusedSimpArgs false
set_option linter.unusedVariables false
attribute [local go_sem] rowCells rowAt_drewN rowAt_alloc rowAt_drew setRow_alloc setRow_drewN setRow_drew setCell_alloc setCell_drewN rowAt_setRow rowAt_setCell Later.cell Later.frozen
attribute [local go_sem ↓] xload_msg xstore_msg xalloc_msg xbuildS_msg xbuild_msg0 xload_do xstore_do xalloc_do xload_rnet xstore_rnet xalloc_rnet
attribute [local go_sem] load_msg load_msg_later store_msg Msg.size Msg.cut_all Msg.splice_all buildSM_agg load_do store_do doC_size doC_all doC_splice doC_cut doC_get0 doC_get1 doC_getE0 doC_getE1 load_rnet store_rnet rnC_size rnC_all rnC_splice load_msg_at rnC_get0 rnC_get1 rnC_get2 rnC_get3 rnC_get4 rnC_get5 rnC_getE0 rnC_getE1 rnC_getE2 rnC_getE3 rnC_getE4 rnC_getE5 rnC_set1 rnC_set2 rnC_set3 rnC_set4 rnC_set5

theorem row2of4 (w : World) (o1 : Obj) (c : Array Value) (T : TypeId) (o3 o4 : Obj) : rowAt ((((w.alloc o1).alloc (.cells c T)).alloc o3).alloc o4) (w.heap.size + 1) = some (c, T) := rowPast (rowPast (rowAt_alloc_at (w.alloc o1) c T _ (by simp)))
theorem row3of4 (w : World) (o1 o2 : Obj) (c : Array Value) (T : TypeId) (o4 : Obj) : rowAt ((((w.alloc o1).alloc o2).alloc (.cells c T)).alloc o4) (w.heap.size + 2) = some (c, T) := rowPast (rowAt_alloc_at ((w.alloc o1).alloc o2) c T _ (by simp))
theorem row4of4 (w : World) (o1 o2 o3 : Obj) (c : Array Value) (T : TypeId) : rowAt ((((w.alloc o1).alloc o2).alloc o3).alloc (.cells c T)) (w.heap.size + 3) = some (c, T) := rowAt_alloc_at (((w.alloc o1).alloc o2).alloc o3) c T _ (by simp)
set_option maxHeartbeats 2000000 in
theorem rtake_none {room s c l d : Int} {a : Option Addr} {n cap : Nat} {k : Int} (w : World) (hk : k < 0 ∨ (n : Int) ≤ k) :
    Calls Tryz.prog 10 #[.agg (rnC room a n cap s c l d), .int .i64 k] w fun e w' => e = .returned (.tuple #[.agg (rnC room a n cap s c l d), .agg msg0.cells, .int .i64 10]) ∧ Below w.heap.size w w' := by
  by_cases h0 : k < 0
  · have g0 : decide (k < 0) = true := decide_eq_true h0
    clear hk h0
    go_enter Tryz.func10, Tryz.ntmps10
    go_wp2_with fail
    refine ret_two (s := .int .i64 10) (by rfl) (by with_unfolding_all rfl) (by with_unfolding_all rfl) (by with_unfolding_all rfl) (by rfl) (load_rnet_row (rowPast (rowAt_alloc_at _ _ _ _ (by simp)))) (load_msg_row (rowAt_alloc_at _ _ _ _ (by simp)) (Msg.size _)) ?_
    exact ⟨rfl, below_allocS (below_allocS (below_allocS (Below.refl _ _) _) _) _⟩
  · have g0 : decide (k < 0) = false := decide_eq_false h0
    have g1 : decide ((n : Int) ≤ k) = true := decide_eq_true (by omega)
    clear hk h0
    go_enter Tryz.func10, Tryz.ntmps10
    go_wp2_with fail
    refine ret_two (s := .int .i64 10) (by rfl) (by with_unfolding_all rfl) (by with_unfolding_all rfl) (by with_unfolding_all rfl) (by rfl) (load_rnet_row (rowPast (rowAt_alloc_at _ _ _ _ (by simp)))) (load_msg_row (rowAt_alloc_at _ _ _ _ (by simp)) (Msg.size _)) ?_
    exact ⟨rfl, below_allocS (below_allocS (below_allocS (Below.refl _ _) _) _) _⟩
set_option maxHeartbeats 4000000 in
theorem rtake_ok (S : List Msg) {room s c l d : Int} {a : Option Addr} {cap B k : Nat} {w : World} (h : w.ownsRow B 34 12 (.slice a S.length cap) S.length (msgV S)) (hk : k < S.length) (hlen : S.length ≤ 100000) (hl : 0 ≤ c ∧ c ≤ 1000000) :
    Calls Tryz.prog 10 #[.agg (rnC room a S.length cap s c l d), .int .i64 (k : Int)] w fun e w' => ∃ a' c', e = .returned (.tuple #[.agg (rnC room a' (S.length - 1) c' s (c + 1) l d), .agg (S.getD k msg0).cells, .int .i64 0]) ∧ w'.ownsRow w.heap.size 34 12 (.slice a' (S.length - 1) c') (withoutM S k).length (msgV (withoutM S k)) ∧ Below w.heap.size w w' := by
  have HO := Lib.hid h
  clear h
  have g0 : decide ((k : Int) < 0) = false := decide_eq_false (by omega)
  have g1 : decide ((S.length : Int) ≤ (k : Int)) = false := decide_eq_false (by omega)
  obtain ⟨gb, rfl, _, _, _⟩ := own_msg' HO.out hk
  obtain ⟨gb', hgb, _, hgl, hld⟩ := own_msg' (own_below HO.out (below_allocS (below_allocS (below_allocS (Below.refl w.heap.size w) (.cells (rnC room (some ⟨gb, 0, none⟩) S.length cap s c l d) 29)) (.cells (rnC 0 none 0 0 0 0 0 0) 29)) (.cells msg0.cells 34))) hk
  injection hgb with hgb
  injection hgb with hgb
  subst hgb
  obtain ⟨mk, hmk⟩ : ∃ mk, S.getD k msg0 = mk := ⟨_, rfl⟩
  rw [hmk] at hld ⊢
  clear hmk
  go_enter Tryz.func10, Tryz.ntmps10
  go_wp2_with fail
  refine (without_ok S k (own_below HO.out (below_allocS (below_allocS (below_allocS (below_allocS (Below.refl _ _) _) _) _) _)) hk hlen).mono ?_
  rintro e w1 ⟨a', c', rfl, hown, hb⟩
  have r1 : rowAt w1 w.heap.size = some (rnC room (some ⟨gb, 0, none⟩) S.length cap s c l d, 29) := rowKeep hb (rowPast (rowPast (rowPast (rowAt_alloc_at _ _ _ _ rfl))))
  have r2 : rowAt w1 (w.heap.size + 1) = some (rnC 0 none 0 0 0 0 0 0, 29) := rowKeep hb (row2of4 _ _ _ _ _ _)
  have r3 : rowAt w1 (w.heap.size + 2) = some (msg0.cells, 34) := rowKeep hb (row3of4 _ _ _ _ _ _)
  have r4 : rowAt w1 (w.heap.size + 3) = some (mk.cells, 34) := rowKeep hb (row4of4 _ _ _ _ _ _)
  have HB1 := Lib.hid (bthen (below_allocS (below_allocS (below_allocS (below_allocS (Below.refl w.heap.size w) _) _) _) _) hb)
  have HO1 : Hid (w1.ownsRow (w.heap.size + 4) 34 12 (.slice a' (S.length - 1) c') (withoutM S k).length (msgV (withoutM S k))) := Lib.hid (by simpa using hown)
  have n1 := rowAt_lt r1
  have hz := fun i => cell_of_rowAt r1 i
  have fz := frozen_of_rowAt r1
  clear hown hb HO hld hgl
  go_upto_region 6 with fail
  have hon := (Only.setCell (i := 1) (p := w.heap.size) (w := w1) (.slice a' (S.length - 1) c')).trans (Only.setCell (i := 3) (.int .i64 (c + 1)))
  have q1 : rowAt ((w1.setCell ⟨w.heap.size, 1, none⟩ (.slice a' (S.length - 1) c')).setCell ⟨w.heap.size, 3, none⟩ (.int .i64 (c + 1))) w.heap.size = some (rnC room a' (S.length - 1) c' s (c + 1) l d, 29) := (rowAt_setCell_same 3 _ (rowAt_setCell_same 1 _ r1)).trans (by rw [rnC_set1, rnC_set3])
  have q2 := hon.row (show w.heap.size + 1 ≠ w.heap.size by omega) r2
  have q3 := hon.row (show w.heap.size + 2 ≠ w.heap.size by omega) r3
  have q4 := hon.row (show w.heap.size + 3 ≠ w.heap.size by omega) r4
  have HO2 := Lib.hid (own_setCell (i := 3) (x := .int .i64 (c + 1)) (own_setCell (i := 1) (x := .slice a' (S.length - 1) c') HO1.out (show w.heap.size < w.heap.size + 4 by omega)) (show w.heap.size < w.heap.size + 4 by omega))
  have HB2 : Hid (Below w.heap.size w ((w1.setCell ⟨w.heap.size, 1, none⟩ (.slice a' (S.length - 1) c')).setCell ⟨w.heap.size, 3, none⟩ (.int .i64 (c + 1)))) := Lib.hid (below_setCell' (below_setCell' HB1.out (Nat.le_refl _)) (Nat.le_refl _))
  clear hon r1 r2 r3 r4 hz fz HB1 HO1 n1
  generalize (w1.setCell ⟨w.heap.size, 1, none⟩ (.slice a' (S.length - 1) c')).setCell ⟨w.heap.size, 3, none⟩ (.int .i64 (c + 1)) = W2 at *
  have f1 : rowAt W2.drew (w.heap.size + 1) = some (rnC 0 none 0 0 0 0 0 0, 29) := q2
  have f2 : rowAt W2.drew (w.heap.size + 2) = some (msg0.cells, 34) := q3
  clear q2 q3
  refine wp_region_late_drew (lt := []) (S := fun w' : World => rowAt w' w.heap.size = some (rnC room a' (S.length - 1) c' s (c + 1) l d, 29) ∧ rowAt w' (w.heap.size + 3) = some (mk.cells, 34) ∧ Hid (Below w.heap.size w w') ∧ Hid (w'.ownsRow (w.heap.size + 4) 34 12 (.slice a' (S.length - 1) c') (withoutM S k).length (msgV (withoutM S k)))) (by kernel_rfl) ⟨q1, q4, Lib.hid HB2.out.drew, Lib.hid (own_below HO2.out ((Below.refl _ _).drew))⟩ (fun hS => ?_)
  generalize W2.drew = W3 at *
  refine late_take (i := 0) (lt := []) (rd := [0]) (by simp only [List.getElem?_toArray, List.getElem?_cons_succ, List.getElem?_cons_zero]; rfl) (by decide +kernel) (by decide +kernel) (by decide +kernel) (by decide +kernel) (by decide +kernel) (by exact fun _ _ _ _ h => h) hS (by rfl) ?_
  apply Exists.intro
  refine ⟨fun w' hSw => ?_, ?_⟩
  · go_simp
    with_reducible rfl
  (try simp only [act_put, act_put_none, List.set_cons_zero, List.set_cons_succ])
  refine wpAnyR_ready (rs := [1, 2]) (by decide +kernel) (by simp) ?_
  refine AllReadyR.cons (i := 1) (by simp only [List.getElem?_toArray, List.getElem?_cons_succ, List.getElem?_cons_zero]; rfl) (fun K hK => ?_) ?_
  · go_simp
    refine hK.out _ _ hS (fun hS2 => ?_)
    clear hK K hS2
    (try simp only [act_put, act_put_none, List.set_cons_zero, List.set_cons_succ])
    refine wpAnyR_ready (rs := [2]) (by decide +kernel) (by simp) ?_
    refine AllReadyR.cons (i := 2) (by simp only [List.getElem?_toArray, List.getElem?_cons_succ, List.getElem?_cons_zero]; rfl) (fun K hK => ?_) ?_
    · have hg1 := rowAt_lt f1
      go_simp
      have hon : Only (w.heap.size + 1) W3 (W3.setRow (w.heap.size + 1) (rnC room a' (S.length - 1) c' s (c + 1) l d)) := onlyRow _
      have g1 := rowAt_setRow_same (rnC room a' (S.length - 1) c' s (c + 1) l d) f1
      have g2 := hon.row (show w.heap.size + 2 ≠ w.heap.size + 1 by omega) f2
      have hS9 := And.intro (hon.row (show w.heap.size ≠ w.heap.size + 1 by omega) hS.1) (And.intro (hon.row (show w.heap.size + 3 ≠ w.heap.size + 1 by omega) hS.2.1) (And.intro (Lib.hid (below_setRow' hS.2.2.1.out (show w.heap.size ≤ w.heap.size + 1 by omega) (rnC room a' (S.length - 1) c' s (c + 1) l d))) (Lib.hid (own_setRow hS.2.2.2.out (show w.heap.size + 1 < w.heap.size + 4 by omega) (rnC room a' (S.length - 1) c' s (c + 1) l d)))))
      refine hK.out _ _ hS9 (fun hS2 => ?_)
      clear hS hK K hon hS2 f1 f2 hg1
      have hS := hS9
      have f1 := g1
      have f2 := g2
      clear hS9 g1 g2
      generalize W3.setRow (w.heap.size + 1) (rnC room a' (S.length - 1) c' s (c + 1) l d) = W4 at *
      (try simp only [act_put, act_put_none, List.set_cons_zero, List.set_cons_succ])
      refine wpAnyR_ready (rs := [3]) (by decide +kernel) (by simp) ?_
      refine AllReadyR.cons (i := 3) (by simp only [List.getElem?_toArray, List.getElem?_cons_succ, List.getElem?_cons_zero]; rfl) (fun K hK => ?_) ?_
      · have hg2 := rowAt_lt f2
        go_simp
        have hon : Only (w.heap.size + 2) W4 (W4.setRow (w.heap.size + 2) mk.cells) := onlyRow _
        have g2 := rowAt_setRow_same mk.cells f2
        have g1 := hon.row (show w.heap.size + 1 ≠ w.heap.size + 2 by omega) f1
        have hS9 := And.intro (hon.row (show w.heap.size ≠ w.heap.size + 2 by omega) hS.1) (And.intro (hon.row (show w.heap.size + 3 ≠ w.heap.size + 2 by omega) hS.2.1) (And.intro (Lib.hid (below_setRow' hS.2.2.1.out (show w.heap.size ≤ w.heap.size + 2 by omega) mk.cells)) (Lib.hid (own_setRow hS.2.2.2.out (show w.heap.size + 2 < w.heap.size + 4 by omega) mk.cells))))
        refine hK.out _ _ hS9 (fun hS2 => ?_)
        clear hS hK K hon hS2 f1 f2 hg2
        have hS := hS9
        have f1 := g1
        have f2 := g2
        clear hS9 g1 g2
        generalize W4.setRow (w.heap.size + 2) mk.cells = W5 at *
        (try simp only [act_put, act_put_none, List.set_cons_zero, List.set_cons_succ])
        refine wpAnyR_ready (rs := [4]) (by decide +kernel) (by simp) ?_
        refine AllReadyR.cons (i := 4) (by simp only [List.getElem?_toArray, List.getElem?_cons_succ, List.getElem?_cons_zero]; rfl) (fun K hK => ?_) ?_
        · go_simp
          refine hK.out _ _ hS (fun hS2 => ?_)
          clear hK K hS2
          (try simp only [act_put, act_put_none, List.set_cons_zero, List.set_cons_succ])
          refine wpAnyR_done (by decide +kernel) ?_ _
          have h1 := hS.1
          have h2 := hS.2.1
          go_wp2_with fail
          refine ret_two (s := .int .i64 0) (by rfl) (by with_unfolding_all rfl) (by with_unfolding_all rfl) (by with_unfolding_all rfl) (by rfl) (load_rnet_row f1) (load_msg_row f2 (Msg.size _)) ?_
          exact ⟨a', c', rfl, own_mono hS.2.2.2.out (by omega), hS.2.2.1.out⟩
        exact AllReadyR.nil
      exact AllReadyR.nil
    exact AllReadyR.nil
  refine AllReadyR.cons (i := 2) (by simp only [List.getElem?_toArray, List.getElem?_cons_succ, List.getElem?_cons_zero]; rfl) (fun K hK => ?_) ?_
  · have hg1 := rowAt_lt f1
    go_simp
    have hon : Only (w.heap.size + 1) W3 (W3.setRow (w.heap.size + 1) (rnC room a' (S.length - 1) c' s (c + 1) l d)) := onlyRow _
    have g1 := rowAt_setRow_same (rnC room a' (S.length - 1) c' s (c + 1) l d) f1
    have g2 := hon.row (show w.heap.size + 2 ≠ w.heap.size + 1 by omega) f2
    have hS9 := And.intro (hon.row (show w.heap.size ≠ w.heap.size + 1 by omega) hS.1) (And.intro (hon.row (show w.heap.size + 3 ≠ w.heap.size + 1 by omega) hS.2.1) (And.intro (Lib.hid (below_setRow' hS.2.2.1.out (show w.heap.size ≤ w.heap.size + 1 by omega) (rnC room a' (S.length - 1) c' s (c + 1) l d))) (Lib.hid (own_setRow hS.2.2.2.out (show w.heap.size + 1 < w.heap.size + 4 by omega) (rnC room a' (S.length - 1) c' s (c + 1) l d)))))
    refine hK.out _ _ hS9 (fun hS2 => ?_)
    clear hS hK K hon hS2 f1 f2 hg1
    have hS := hS9
    have f1 := g1
    have f2 := g2
    clear hS9 g1 g2
    generalize W3.setRow (w.heap.size + 1) (rnC room a' (S.length - 1) c' s (c + 1) l d) = W4 at *
    (try simp only [act_put, act_put_none, List.set_cons_zero, List.set_cons_succ])
    refine wpAnyR_ready (rs := [1]) (by decide +kernel) (by simp) ?_
    refine AllReadyR.cons (i := 1) (by simp only [List.getElem?_toArray, List.getElem?_cons_succ, List.getElem?_cons_zero]; rfl) (fun K hK => ?_) ?_
    · go_simp
      refine hK.out _ _ hS (fun hS2 => ?_)
      clear hK K hS2
      (try simp only [act_put, act_put_none, List.set_cons_zero, List.set_cons_succ])
      refine wpAnyR_ready (rs := [3]) (by decide +kernel) (by simp) ?_
      refine AllReadyR.cons (i := 3) (by simp only [List.getElem?_toArray, List.getElem?_cons_succ, List.getElem?_cons_zero]; rfl) (fun K hK => ?_) ?_
      · have hg2 := rowAt_lt f2
        go_simp
        have hon : Only (w.heap.size + 2) W4 (W4.setRow (w.heap.size + 2) mk.cells) := onlyRow _
        have g2 := rowAt_setRow_same mk.cells f2
        have g1 := hon.row (show w.heap.size + 1 ≠ w.heap.size + 2 by omega) f1
        have hS9 := And.intro (hon.row (show w.heap.size ≠ w.heap.size + 2 by omega) hS.1) (And.intro (hon.row (show w.heap.size + 3 ≠ w.heap.size + 2 by omega) hS.2.1) (And.intro (Lib.hid (below_setRow' hS.2.2.1.out (show w.heap.size ≤ w.heap.size + 2 by omega) mk.cells)) (Lib.hid (own_setRow hS.2.2.2.out (show w.heap.size + 2 < w.heap.size + 4 by omega) mk.cells))))
        refine hK.out _ _ hS9 (fun hS2 => ?_)
        clear hS hK K hon hS2 f1 f2 hg2
        have hS := hS9
        have f1 := g1
        have f2 := g2
        clear hS9 g1 g2
        generalize W4.setRow (w.heap.size + 2) mk.cells = W5 at *
        (try simp only [act_put, act_put_none, List.set_cons_zero, List.set_cons_succ])
        refine wpAnyR_ready (rs := [4]) (by decide +kernel) (by simp) ?_
        refine AllReadyR.cons (i := 4) (by simp only [List.getElem?_toArray, List.getElem?_cons_succ, List.getElem?_cons_zero]; rfl) (fun K hK => ?_) ?_
        · go_simp
          refine hK.out _ _ hS (fun hS2 => ?_)
          clear hK K hS2
          (try simp only [act_put, act_put_none, List.set_cons_zero, List.set_cons_succ])
          refine wpAnyR_done (by decide +kernel) ?_ _
          have h1 := hS.1
          have h2 := hS.2.1
          go_wp2_with fail
          refine ret_two (s := .int .i64 0) (by rfl) (by with_unfolding_all rfl) (by with_unfolding_all rfl) (by with_unfolding_all rfl) (by rfl) (load_rnet_row f1) (load_msg_row f2 (Msg.size _)) ?_
          exact ⟨a', c', rfl, own_mono hS.2.2.2.out (by omega), hS.2.2.1.out⟩
        exact AllReadyR.nil
      exact AllReadyR.nil
    exact AllReadyR.nil
  exact AllReadyR.nil

end Go.Proofs.YtlocoieknabiaaaGreat

/-
  Layer 15 (net): the reference makes a message two.
-/
namespace Go.Proofs.YtlocoieknabiaaaGreat
set_option maxRecDepth 20000
open Go.RowKit
set_option linter.unusedSimpArgs false
set_option linter.unusedVariables false
attribute [local go_sem] rowCells rowAt_drewN rowAt_alloc rowAt_drew setRow_alloc setRow_drewN setRow_drew setCell_alloc setCell_drewN rowAt_setRow rowAt_setCell Later.cell Later.frozen
attribute [local go_sem ↓] xload_msg xstore_msg xalloc_msg xbuildS_msg xbuild_msg0 xload_do xstore_do xalloc_do xload_rnet xstore_rnet xalloc_rnet
attribute [local go_sem] load_msg load_msg_later store_msg Msg.size Msg.cut_all Msg.splice_all buildSM_agg load_do store_do doC_size doC_all doC_splice doC_cut doC_get0 doC_get1 doC_getE0 doC_getE1 load_rnet store_rnet rnC_size rnC_all rnC_splice load_msg_at rnC_get0 rnC_get1 rnC_get2 rnC_get3 rnC_get4 rnC_get5 rnC_getE0 rnC_getE1 rnC_getE2 rnC_getE3 rnC_getE4 rnC_getE5 rnC_set1 rnC_set2 rnC_set3 rnC_set4 rnC_set5

set_option maxHeartbeats 2000000 in
theorem rtwice_none {room s c l d : Int} {a : Option Addr} {n cap : Nat} {k : Int} (w : World) (hk : k < 0 ∨ (n : Int) ≤ k) :
    Calls Tryz.prog 14 #[.agg (rnC room a n cap s c l d), .int .i64 k] w fun e w' => e = .returned (.tuple #[.agg (rnC room a n cap s c l d), .int .i64 10]) ∧ Below w.heap.size w w' := by
  by_cases h0 : k < 0
  · have g0 : decide (k < 0) = true := decide_eq_true h0
    clear hk h0
    go_enter Tryz.func14, Tryz.ntmps14
    go_wp2_with fail
    refine ret_ct (u := .int .i64 10) (by rfl) (by with_unfolding_all rfl) (by with_unfolding_all rfl) (by rfl) (load_rnet_row (rowAt_alloc_at _ _ _ _ (by simp))) ?_
    exact ⟨rfl, below_allocS (below_allocS (Below.refl _ _) _) _⟩
  · have g0 : decide (k < 0) = false := decide_eq_false h0
    have g1 : decide ((n : Int) ≤ k) = true := decide_eq_true (by omega)
    clear hk h0
    go_enter Tryz.func14, Tryz.ntmps14
    go_wp2_with fail
    refine ret_ct (u := .int .i64 10) (by rfl) (by with_unfolding_all rfl) (by with_unfolding_all rfl) (by rfl) (load_rnet_row (rowAt_alloc_at _ _ _ _ (by simp))) ?_
    exact ⟨rfl, below_allocS (below_allocS (Below.refl _ _) _) _⟩
set_option maxHeartbeats 2000000 in
theorem rtwice_full {room s c l d : Int} {a : Option Addr} {n cap : Nat} {k : Nat} (w : World) (hk : k < n) (hroom : room ≤ (n : Int)) :
    Calls Tryz.prog 14 #[.agg (rnC room a n cap s c l d), .int .i64 (k : Int)] w fun e w' => e = .returned (.tuple #[.agg (rnC room a n cap s c l d), .int .i64 7]) ∧ Below w.heap.size w w' := by
  have g0 : decide ((k : Int) < 0) = false := decide_eq_false (by omega)
  have g1 : decide ((n : Int) ≤ (k : Int)) = false := decide_eq_false (by omega)
  have g2 : decide (room ≤ (n : Int)) = true := decide_eq_true hroom
  go_enter Tryz.func14, Tryz.ntmps14
  go_wp2_with fail
  refine ret_ct (u := .int .i64 7) (by rfl) (by with_unfolding_all rfl) (by with_unfolding_all rfl) (by rfl) (load_rnet_row (rowAt_alloc_at _ _ _ _ (by simp))) ?_
  exact ⟨rfl, below_allocS (below_allocS (Below.refl _ _) _) _⟩
set_option maxHeartbeats 4000000 in
theorem rtwice_ok (S : List Msg) {room s c l d : Int} {a : Option Addr} {cap B k : Nat} {w : World} (h : w.ownsRow B 34 12 (.slice a S.length cap) S.length (msgV S)) (hk : k < S.length) (hroom : ¬ room ≤ (S.length : Int)) (hlen : S.length ≤ 100000) (hl : 0 ≤ d ∧ d ≤ 1000000) :
    Calls Tryz.prog 14 #[.agg (rnC room a S.length cap s c l d), .int .i64 (k : Int)] w fun e w' => ∃ a' c', e = .returned (.tuple #[.agg (rnC room a' (S.length + 1) c' s c l (d + 1)), .int .i64 0]) ∧ w'.ownsRow w.heap.size 34 12 (.slice a' (S.length + 1) c') (S ++ [S.getD k msg0]).length (msgV (S ++ [S.getD k msg0])) ∧ Below w.heap.size w w' := by
  have HO := Lib.hid h
  clear h
  have g0 : decide ((k : Int) < 0) = false := decide_eq_false (by omega)
  have g1 : decide ((S.length : Int) ≤ (k : Int)) = false := decide_eq_false (by omega)
  have g2 : decide (room ≤ (S.length : Int)) = false := decide_eq_false hroom
  obtain ⟨gb, rfl, _, _, _⟩ := own_msg' HO.out hk
  obtain ⟨mk, hmk⟩ : ∃ mk, S.getD k msg0 = mk := ⟨_, rfl⟩
  have HMK := Lib.hid hmk
  rw [hmk]
  clear hmk hroom
  go_enter Tryz.func14, Tryz.ntmps14
  go_upto_region 5 with fail
  refine wp_region_late_drew (lt := [12]) (S := fun w' : World => rowAt w' w.heap.size = some (rnC room (some ⟨gb, 0, none⟩) S.length cap s c l d, 29) ∧ rowAt w' (w.heap.size + 1) = some (rnC 0 none 0 0 0 0 0 0, 29) ∧ Hid (Below w.heap.size w w') ∧ Hid (w.heap.size + 2 ≤ w'.heap.size)) (by kernel_rfl) ⟨rowPast (rowAt_alloc_at _ _ _ _ rfl), rowAt_alloc_at _ _ _ _ (by simp), Lib.hid (below_allocS (below_allocS (Below.refl _ _) _) _).drew, Lib.hid (by simp)⟩ (fun hS => ?_)
  generalize ((w.alloc (.cells (rnC room (some ⟨gb, 0, none⟩) S.length cap s c l d) 29)).alloc (.cells (rnC 0 none 0 0 0 0 0 0) 29)).drew = W7 at *
  refine late_take (i := 1) (lt := [12]) (rd := [1, 2, 4, 5, 6, 7, 8, 11]) (by simp only [List.getElem?_toArray, List.getElem?_cons_succ, List.getElem?_cons_zero]; rfl) (by decide +kernel) (by decide +kernel) (by decide +kernel) (by decide +kernel) (by decide +kernel) (by exact fun _ _ _ _ h => h) hS (by rfl) ?_
  apply Exists.intro
  refine ⟨fun w' hSw => ?_, ?_⟩
  · go_simp
    with_reducible rfl
  (try simp only [act_put, act_put_none, List.set_cons_zero, List.set_cons_succ])
  refine late_take (i := 2) (lt := [12]) (rd := [1, 2, 4, 5, 6, 7, 8, 11]) (by simp only [List.getElem?_toArray, List.getElem?_cons_succ, List.getElem?_cons_zero]; rfl) (by decide +kernel) (by decide +kernel) (by decide +kernel) (by decide +kernel) (by decide +kernel) (by exact fun _ _ _ _ h => h) hS (by rfl) ?_
  apply Exists.intro
  refine ⟨fun w' hSw => ?_, ?_⟩
  · have q1 : w'.cell? ⟨w.heap.size, 1, none⟩ = some (.slice (some ⟨gb, 0, none⟩) S.length cap) := by rw [cell_of_rowAt hSw.1]; rfl
    go_simp
    with_reducible rfl
  (try simp only [act_put, act_put_none, List.set_cons_zero, List.set_cons_succ])
  refine late_take (i := 4) (lt := [12]) (rd := [1, 2, 4, 5, 6, 7, 8, 11]) (by simp only [List.getElem?_toArray, List.getElem?_cons_succ, List.getElem?_cons_zero]; rfl) (by decide +kernel) (by decide +kernel) (by decide +kernel) (by decide +kernel) (by decide +kernel) (by exact fun _ _ _ _ h => h) hS (by rfl) ?_
  apply Exists.intro
  refine ⟨fun w' hSw => ?_, ?_⟩
  · go_simp
    with_reducible rfl
  (try simp only [act_put, act_put_none, List.set_cons_zero, List.set_cons_succ])
  refine late_take (i := 5) (lt := [12]) (rd := [1, 2, 4, 5, 6, 7, 8, 11]) (by simp only [List.getElem?_toArray, List.getElem?_cons_succ, List.getElem?_cons_zero]; rfl) (by decide +kernel) (by decide +kernel) (by decide +kernel) (by decide +kernel) (by decide +kernel) (by exact fun _ _ _ _ h => h) hS (by rfl) ?_
  apply Exists.intro
  refine ⟨fun w' hSw => ?_, ?_⟩
  · have q1 : w'.cell? ⟨w.heap.size, 1, none⟩ = some (.slice (some ⟨gb, 0, none⟩) S.length cap) := by rw [cell_of_rowAt hSw.1]; rfl
    go_simp
    with_reducible rfl
  (try simp only [act_put, act_put_none, List.set_cons_zero, List.set_cons_succ])
  refine late_take (i := 6) (lt := [12]) (rd := [1, 2, 4, 5, 6, 7, 8, 11]) (by simp only [List.getElem?_toArray, List.getElem?_cons_succ, List.getElem?_cons_zero]; rfl) (by decide +kernel) (by decide +kernel) (by decide +kernel) (by decide +kernel) (by decide +kernel) (by exact fun _ _ _ _ h => h) hS (by rfl) ?_
  apply Exists.intro
  refine ⟨fun w' hSw => ?_, ?_⟩
  · go_simp
    with_reducible rfl
  (try simp only [act_put, act_put_none, List.set_cons_zero, List.set_cons_succ])
  refine late_take (i := 7) (lt := [12]) (rd := [1, 2, 4, 5, 6, 7, 8, 11]) (by simp only [List.getElem?_toArray, List.getElem?_cons_succ, List.getElem?_cons_zero]; rfl) (by decide +kernel) (by decide +kernel) (by decide +kernel) (by decide +kernel) (by decide +kernel) (by exact fun _ _ _ _ h => h) hS (by rfl) ?_
  apply Exists.intro
  refine ⟨fun w' hSw => ?_, ?_⟩
  · go_simp
    with_reducible rfl
  (try simp only [act_put, act_put_none, List.set_cons_zero, List.set_cons_succ])
  refine late_take (i := 8) (lt := [12]) (rd := [1, 2, 4, 5, 6, 7, 8, 11]) (by simp only [List.getElem?_toArray, List.getElem?_cons_succ, List.getElem?_cons_zero]; rfl) (by decide +kernel) (by decide +kernel) (by decide +kernel) (by decide +kernel) (by decide +kernel) (by exact fun _ _ _ _ h => h) hS (by rfl) ?_
  apply Exists.intro
  refine ⟨fun w' hSw => ?_, ?_⟩
  · have q1 := load_of_own (own_below HO.out hSw.2.2.1.out) HMK.out hk
    go_simp
    with_reducible rfl
  (try simp only [act_put, act_put_none, List.set_cons_zero, List.set_cons_succ])
  refine wpAnyR_ready (rs := [0, 9]) (by decide +kernel) (by simp) ?_
  refine AllReadyR.cons (i := 0) (by simp only [List.getElem?_toArray, List.getElem?_cons_succ, List.getElem?_cons_zero]; rfl) (fun K hK => ?_) ?_
  · go_simp
    have hb : Below W7.heap.size W7 (W7.alloc (.cells #[] 34)) := (Below.refl _ _).alloc (Nat.le_refl _) _
    have hE := own_row0 W7 hS.2.2.2.out rfl
    have hS9 := And.intro (rowKeep hb hS.1) (And.intro (rowKeep hb hS.2.1) (And.intro (Lib.hid (bthen hS.2.2.1.out hb)) (Lib.hid (Nat.le_trans hS.2.2.2.out hb.size))))
    have hlte : W7.heap.size < (W7.alloc (.cells #[] 34)).heap.size := by simp
    clear hb
    obtain ⟨e0, he0⟩ : ∃ e0, W7.heap.size = e0 := ⟨_, rfl⟩
    rw [he0] at hE hlte ⊢
    clear he0
    generalize W7.alloc (.cells #[] 34) = V1 at *
    have HE := Lib.hid hE
    clear hE
    refine hK.out _ _ hS9 (fun hS2 => ?_)
    clear hS hK K hS2
    have hS := hS9
    clear hS9
    (try simp only [act_put, act_put_none, List.set_cons_zero, List.set_cons_succ])
    refine wpAnyR_ready (rs := [3, 9]) (by decide +kernel) (by simp) ?_
    refine AllReadyR.cons (i := 3) (by simp only [List.getElem?_toArray, List.getElem?_cons_succ, List.getElem?_cons_zero]; rfl) (fun K hK => ?_) ?_
    · refine wp_append_msgs _ _ rfl rfl HE.out (some ⟨gb, 0, none⟩) S.length cap S rfl rfl (fun e => ?c0) ?c1 (by omega) hS.2.2.2.out ?_
      case c0 => exact ((own_cells (own_below HO.out hS.2.2.1.out)).2.2.1 e)
      case c1 =>
        intro j u hu
        obtain ⟨b, e, hcc⟩ := (own_cells (own_below HO.out hS.2.2.1.out)).2.2.2 j u hu
        exact ⟨b, 0, e, by rw [Nat.zero_add]; exact hcc⟩
      intro v3 V2 hown hb hgr
      rw [Nat.zero_add, List.nil_append] at hown
      have hS9 := And.intro ((rowAt_below hb _ (by omega)).trans hS.1) (And.intro ((rowAt_below hb _ (by omega)).trans hS.2.1) (And.intro (Lib.hid (hS.2.2.1.out.trans (hb.mono (by omega)))) (Lib.hid (Nat.le_trans hS.2.2.2.out hb.size))))
      clear HE hb hgr
      have HE := Lib.hid hown
      clear hown
      refine hK.out _ _ hS9 (fun hS2 => ?_)
      clear hS hK K hS2
      have hS := hS9
      clear hS9
      (try simp only [act_put, act_put_none, List.set_cons_zero, List.set_cons_succ])
      refine wpAnyR_ready (rs := [9]) (by decide +kernel) (by simp) ?_
      refine AllReadyR.cons (i := 9) (by simp only [List.getElem?_toArray, List.getElem?_cons_succ, List.getElem?_cons_zero]; rfl) (fun K hK => ?_) ?_
      · go_simp
        have hb : Below V2.heap.size V2 (V2.alloc (.cells mk.cells 34)) := (Below.refl _ _).alloc (Nat.le_refl _) _
        have r9 : rowAt (V2.alloc (.cells mk.cells 34)) V2.heap.size = some (mk.cells, 34) := rowAt_alloc_at _ _ _ _ rfl
        have hS9 := And.intro (rowKeep hb hS.1) (And.intro (rowKeep hb hS.2.1) (And.intro (Lib.hid (bthen hS.2.2.1.out hb)) (Lib.hid (Nat.le_trans hS.2.2.2.out hb.size))))
        have HE9 := Lib.hid (own_alloc HE.out (.cells mk.cells 34))
        clear HE
        have HE := HE9
        clear HE9
        clear hb
        obtain ⟨b9, hb9⟩ : ∃ b9, V2.heap.size = b9 := ⟨_, rfl⟩
        rw [hb9] at r9 ⊢
        clear hb9
        generalize V2.alloc (.cells mk.cells 34) = V3 at *
        refine hK.out _ _ hS9 (fun hS2 => ?_)
        clear hS hK K hS2
        have hS := hS9
        clear hS9
        (try simp only [act_put, act_put_none, List.set_cons_zero, List.set_cons_succ])
        refine wpAnyR_ready (rs := [10]) (by decide +kernel) (by simp) ?_
        refine AllReadyR.cons (i := 10) (by simp only [List.getElem?_toArray, List.getElem?_cons_succ, List.getElem?_cons_zero]; rfl) (fun K hK => ?_) ?_
        · refine wp_append_msgs _ _ rfl rfl HE.out (some ⟨b9, 0, none⟩) 1 1 [mk] rfl rfl (fun e => by cases e) ?c1 (by omega) hS.2.2.2.out ?_
          case c1 =>
            intro j u hu
            rw [msgV_one] at hu
            exact ⟨b9, 0, rfl, by rw [Nat.zero_add, cell_of_rowAt r9, ← hu]; simp⟩
          intro v10 V4 hown hb hgr
          obtain ⟨a10, c10, rfl⟩ : ∃ a10 c10, v10 = .slice a10 (S.length + 1) c10 := by
            obtain ⟨a10, c10, e, _⟩ := own_open hown (by decide)
            exact ⟨a10, c10, e⟩
          rw [← msgV_app] at hown
          have hS9 := And.intro ((rowAt_below hb _ (by omega)).trans hS.1) (And.intro ((rowAt_below hb _ (by omega)).trans hS.2.1) (And.intro (Lib.hid (hS.2.2.1.out.trans (hb.mono (by omega)))) (Lib.hid (Nat.le_trans hS.2.2.2.out hb.size))))
          clear HE hb hgr r9
          have HE : Hid (V4.ownsRow (w.heap.size + 2) 34 12 (.slice a10 (S.length + 1) c10) (S ++ [mk]).length (msgV (S ++ [mk]))) := Lib.hid (by rw [List.length_append]; exact hown)
          clear hown
          refine hK.out _ _ hS9 (fun hS2 => ?_)
          clear hS hK K hS2
          have hS := hS9
          clear hS9
          (try simp only [act_put, act_put_none, List.set_cons_zero, List.set_cons_succ])
          refine late_take (i := 11) (lt := [12]) (rd := [1, 2, 4, 5, 6, 7, 8, 11]) (by simp only [List.getElem?_toArray, List.getElem?_cons_succ, List.getElem?_cons_zero]; rfl) (by decide +kernel) (by decide +kernel) (by decide +kernel) (by decide +kernel) (by decide +kernel) (by exact fun _ _ _ _ h => h) hS (by rfl) ?_
          apply Exists.intro
          refine ⟨fun w' hSw => ?_, ?_⟩
          · go_simp
            with_reducible rfl
          (try simp only [act_put, act_put_none, List.set_cons_zero, List.set_cons_succ])
          refine wpAnyR_ready (rs := [12]) (by decide +kernel) (by simp) ?_
          refine AllReadyR.last (i := 12) (by simp only [List.getElem?_toArray, List.getElem?_cons_succ, List.getElem?_cons_zero]; rfl) (by decide) (fun K hK => ?_) ?_
          · have hz := fun i => cell_of_rowAt hS.1 i
            have fz := frozen_of_rowAt hS.1
            go_simp
            refine hK.out _ _ ?_
            clear hK K
            (try simp only [act_put, act_put_none, List.set_cons_zero, List.set_cons_succ])
            refine wpAnyR_done (by decide +kernel) ?_ _
            have q1 := rowAt_setCell_same 1 (.slice a10 (S.length + 1) c10) hS.1
            rw [rnC_set1] at q1
            have q2 : rowAt (V4.setCell ⟨w.heap.size, 1, none⟩ (.slice a10 (S.length + 1) c10)) (w.heap.size + 1) = some (rnC 0 none 0 0 0 0 0 0, 29) := by rw [rowAt_setCell_other _ _ _ _ (by simp)]; exact hS.2.1
            have HO9 := Lib.hid (own_setCell (i := 1) (x := .slice a10 (S.length + 1) c10) HE.out (show w.heap.size < w.heap.size + 2 by omega))
            have HB9 := Lib.hid (below_setCell' (i := 1) (v := .slice a10 (S.length + 1) c10) hS.2.2.1.out (Nat.le_refl w.heap.size))
            have hs9 : w.heap.size + 2 ≤ (V4.setCell ⟨w.heap.size, 1, none⟩ (.slice a10 (S.length + 1) c10)).heap.size := by simpa using hS.2.2.2.out
            generalize V4.setCell ⟨w.heap.size, 1, none⟩ (.slice a10 (S.length + 1) c10) = W9 at *
            clear hS HE
            have hz := fun i => cell_of_rowAt q1 i
            have fz := frozen_of_rowAt q1
            go_wp2_with fail
            have rr : rowAt (W9.setCell ⟨w.heap.size, 5, none⟩ (.int .i64 (d + 1))) (w.heap.size + 1) = some (rnC 0 none 0 0 0 0 0 0, 29) := by rw [rowAt_setCell_other _ _ _ _ (by simp)]; exact q2
            refine ret_ct (u := .int .i64 0) (by rfl) (by with_unfolding_all rfl) (by with_unfolding_all rfl) (by rfl) (load_rnet_row (rowAt_setRow_same _ rr)) ?_
            exact ⟨a10, c10, rfl, own_mono (own_setRow (own_setCell HO9.out (show w.heap.size < w.heap.size + 2 by omega)) (show w.heap.size + 1 < w.heap.size + 2 by omega) _) (by omega), below_setRow' (below_setCell' HB9.out (Nat.le_refl _)) (show w.heap.size ≤ w.heap.size + 1 by omega) _⟩
          exact AllReadyR.nil
        exact AllReadyR.nil
      exact AllReadyR.nil
    refine AllReadyR.cons (i := 9) (by simp only [List.getElem?_toArray, List.getElem?_cons_succ, List.getElem?_cons_zero]; rfl) (fun K hK => ?_) ?_
    · go_simp
      have hb : Below V1.heap.size V1 (V1.alloc (.cells mk.cells 34)) := (Below.refl _ _).alloc (Nat.le_refl _) _
      have r9 : rowAt (V1.alloc (.cells mk.cells 34)) V1.heap.size = some (mk.cells, 34) := rowAt_alloc_at _ _ _ _ rfl
      have hS9 := And.intro (rowKeep hb hS.1) (And.intro (rowKeep hb hS.2.1) (And.intro (Lib.hid (bthen hS.2.2.1.out hb)) (Lib.hid (Nat.le_trans hS.2.2.2.out hb.size))))
      have HE9 := Lib.hid (own_alloc HE.out (.cells mk.cells 34))
      clear HE
      have HE := HE9
      clear HE9
      clear hb
      obtain ⟨b9, hb9⟩ : ∃ b9, V1.heap.size = b9 := ⟨_, rfl⟩
      rw [hb9] at r9 hlte ⊢
      clear hb9
      generalize V1.alloc (.cells mk.cells 34) = V2 at *
      have hne : b9 ≠ e0 := by omega
      refine hK.out _ _ hS9 (fun hS2 => ?_)
      clear hS hK K hS2
      have hS := hS9
      clear hS9
      (try simp only [act_put, act_put_none, List.set_cons_zero, List.set_cons_succ])
      refine wpAnyR_ready (rs := [3]) (by decide +kernel) (by simp) ?_
      refine AllReadyR.cons (i := 3) (by simp only [List.getElem?_toArray, List.getElem?_cons_succ, List.getElem?_cons_zero]; rfl) (fun K hK => ?_) ?_
      · refine wp_append_msgs _ _ rfl rfl HE.out (some ⟨gb, 0, none⟩) S.length cap S rfl rfl (fun e => ?c0) ?c1 (by omega) hS.2.2.2.out ?_
        case c0 => exact ((own_cells (own_below HO.out hS.2.2.1.out)).2.2.1 e)
        case c1 =>
          intro j u hu
          obtain ⟨b, e, hcc⟩ := (own_cells (own_below HO.out hS.2.2.1.out)).2.2.2 j u hu
          exact ⟨b, 0, e, by rw [Nat.zero_add]; exact hcc⟩
        intro v3 V3 hown hb hgr
        rw [Nat.zero_add, List.nil_append] at hown
        have hS9 := And.intro ((rowAt_below hb _ (by omega)).trans hS.1) (And.intro ((rowAt_below hb _ (by omega)).trans hS.2.1) (And.intro (Lib.hid (hS.2.2.1.out.trans (hb.mono (by omega)))) (Lib.hid (Nat.le_trans hS.2.2.2.out hb.size))))
        have hr9 := grown_row hgr r9 (fun e => hne (by injection e))
        clear r9
        have r9 := hr9
        clear hr9
        clear HE hb hgr
        have HE := Lib.hid hown
        clear hown
        refine hK.out _ _ hS9 (fun hS2 => ?_)
        clear hS hK K hS2
        have hS := hS9
        clear hS9
        (try simp only [act_put, act_put_none, List.set_cons_zero, List.set_cons_succ])
        refine wpAnyR_ready (rs := [10]) (by decide +kernel) (by simp) ?_
        refine AllReadyR.cons (i := 10) (by simp only [List.getElem?_toArray, List.getElem?_cons_succ, List.getElem?_cons_zero]; rfl) (fun K hK => ?_) ?_
        · refine wp_append_msgs _ _ rfl rfl HE.out (some ⟨b9, 0, none⟩) 1 1 [mk] rfl rfl (fun e => by cases e) ?c1 (by omega) hS.2.2.2.out ?_
          case c1 =>
            intro j u hu
            rw [msgV_one] at hu
            exact ⟨b9, 0, rfl, by rw [Nat.zero_add, cell_of_rowAt r9, ← hu]; simp⟩
          intro v10 V4 hown hb hgr
          obtain ⟨a10, c10, rfl⟩ : ∃ a10 c10, v10 = .slice a10 (S.length + 1) c10 := by
            obtain ⟨a10, c10, e, _⟩ := own_open hown (by decide)
            exact ⟨a10, c10, e⟩
          rw [← msgV_app] at hown
          have hS9 := And.intro ((rowAt_below hb _ (by omega)).trans hS.1) (And.intro ((rowAt_below hb _ (by omega)).trans hS.2.1) (And.intro (Lib.hid (hS.2.2.1.out.trans (hb.mono (by omega)))) (Lib.hid (Nat.le_trans hS.2.2.2.out hb.size))))
          clear HE hb hgr r9
          have HE : Hid (V4.ownsRow (w.heap.size + 2) 34 12 (.slice a10 (S.length + 1) c10) (S ++ [mk]).length (msgV (S ++ [mk]))) := Lib.hid (by rw [List.length_append]; exact hown)
          clear hown
          refine hK.out _ _ hS9 (fun hS2 => ?_)
          clear hS hK K hS2
          have hS := hS9
          clear hS9
          (try simp only [act_put, act_put_none, List.set_cons_zero, List.set_cons_succ])
          refine late_take (i := 11) (lt := [12]) (rd := [1, 2, 4, 5, 6, 7, 8, 11]) (by simp only [List.getElem?_toArray, List.getElem?_cons_succ, List.getElem?_cons_zero]; rfl) (by decide +kernel) (by decide +kernel) (by decide +kernel) (by decide +kernel) (by decide +kernel) (by exact fun _ _ _ _ h => h) hS (by rfl) ?_
          apply Exists.intro
          refine ⟨fun w' hSw => ?_, ?_⟩
          · go_simp
            with_reducible rfl
          (try simp only [act_put, act_put_none, List.set_cons_zero, List.set_cons_succ])
          refine wpAnyR_ready (rs := [12]) (by decide +kernel) (by simp) ?_
          refine AllReadyR.last (i := 12) (by simp only [List.getElem?_toArray, List.getElem?_cons_succ, List.getElem?_cons_zero]; rfl) (by decide) (fun K hK => ?_) ?_
          · have hz := fun i => cell_of_rowAt hS.1 i
            have fz := frozen_of_rowAt hS.1
            go_simp
            refine hK.out _ _ ?_
            clear hK K
            (try simp only [act_put, act_put_none, List.set_cons_zero, List.set_cons_succ])
            refine wpAnyR_done (by decide +kernel) ?_ _
            have q1 := rowAt_setCell_same 1 (.slice a10 (S.length + 1) c10) hS.1
            rw [rnC_set1] at q1
            have q2 : rowAt (V4.setCell ⟨w.heap.size, 1, none⟩ (.slice a10 (S.length + 1) c10)) (w.heap.size + 1) = some (rnC 0 none 0 0 0 0 0 0, 29) := by rw [rowAt_setCell_other _ _ _ _ (by simp)]; exact hS.2.1
            have HO9 := Lib.hid (own_setCell (i := 1) (x := .slice a10 (S.length + 1) c10) HE.out (show w.heap.size < w.heap.size + 2 by omega))
            have HB9 := Lib.hid (below_setCell' (i := 1) (v := .slice a10 (S.length + 1) c10) hS.2.2.1.out (Nat.le_refl w.heap.size))
            have hs9 : w.heap.size + 2 ≤ (V4.setCell ⟨w.heap.size, 1, none⟩ (.slice a10 (S.length + 1) c10)).heap.size := by simpa using hS.2.2.2.out
            generalize V4.setCell ⟨w.heap.size, 1, none⟩ (.slice a10 (S.length + 1) c10) = W9 at *
            clear hS HE
            have hz := fun i => cell_of_rowAt q1 i
            have fz := frozen_of_rowAt q1
            go_wp2_with fail
            have rr : rowAt (W9.setCell ⟨w.heap.size, 5, none⟩ (.int .i64 (d + 1))) (w.heap.size + 1) = some (rnC 0 none 0 0 0 0 0 0, 29) := by rw [rowAt_setCell_other _ _ _ _ (by simp)]; exact q2
            refine ret_ct (u := .int .i64 0) (by rfl) (by with_unfolding_all rfl) (by with_unfolding_all rfl) (by rfl) (load_rnet_row (rowAt_setRow_same _ rr)) ?_
            exact ⟨a10, c10, rfl, own_mono (own_setRow (own_setCell HO9.out (show w.heap.size < w.heap.size + 2 by omega)) (show w.heap.size + 1 < w.heap.size + 2 by omega) _) (by omega), below_setRow' (below_setCell' HB9.out (Nat.le_refl _)) (show w.heap.size ≤ w.heap.size + 1 by omega) _⟩
          exact AllReadyR.nil
        exact AllReadyR.nil
      exact AllReadyR.nil
    exact AllReadyR.nil
  refine AllReadyR.cons (i := 9) (by simp only [List.getElem?_toArray, List.getElem?_cons_succ, List.getElem?_cons_zero]; rfl) (fun K hK => ?_) ?_
  · go_simp
    have hb : Below W7.heap.size W7 (W7.alloc (.cells mk.cells 34)) := (Below.refl _ _).alloc (Nat.le_refl _) _
    have r9 : rowAt (W7.alloc (.cells mk.cells 34)) W7.heap.size = some (mk.cells, 34) := rowAt_alloc_at _ _ _ _ rfl
    have hS9 := And.intro (rowKeep hb hS.1) (And.intro (rowKeep hb hS.2.1) (And.intro (Lib.hid (bthen hS.2.2.1.out hb)) (Lib.hid (Nat.le_trans hS.2.2.2.out hb.size))))
    clear hb
    obtain ⟨b9, hb9⟩ : ∃ b9, W7.heap.size = b9 := ⟨_, rfl⟩
    rw [hb9] at r9 ⊢
    clear hb9
    generalize W7.alloc (.cells mk.cells 34) = V1 at *
    refine hK.out _ _ hS9 (fun hS2 => ?_)
    clear hS hK K hS2
    have hS := hS9
    clear hS9
    (try simp only [act_put, act_put_none, List.set_cons_zero, List.set_cons_succ])
    refine wpAnyR_ready (rs := [0]) (by decide +kernel) (by simp) ?_
    refine AllReadyR.cons (i := 0) (by simp only [List.getElem?_toArray, List.getElem?_cons_succ, List.getElem?_cons_zero]; rfl) (fun K hK => ?_) ?_
    · go_simp
      have hb : Below V1.heap.size V1 (V1.alloc (.cells #[] 34)) := (Below.refl _ _).alloc (Nat.le_refl _) _
      have hE := own_row0 V1 hS.2.2.2.out rfl
      have hS9 := And.intro (rowKeep hb hS.1) (And.intro (rowKeep hb hS.2.1) (And.intro (Lib.hid (bthen hS.2.2.1.out hb)) (Lib.hid (Nat.le_trans hS.2.2.2.out hb.size))))
      have hlte : V1.heap.size < (V1.alloc (.cells #[] 34)).heap.size := by simp
      have hr9 := rowKeep hb r9
      have hl9 := rowAt_lt r9
      clear r9
      have r9 := hr9
      clear hr9
      clear hb
      obtain ⟨e0, he0⟩ : ∃ e0, V1.heap.size = e0 := ⟨_, rfl⟩
      rw [he0] at hE hlte hl9 ⊢
      clear he0
      generalize V1.alloc (.cells #[] 34) = V2 at *
      have HE := Lib.hid hE
      clear hE
      have hne : b9 ≠ e0 := by omega
      refine hK.out _ _ hS9 (fun hS2 => ?_)
      clear hS hK K hS2
      have hS := hS9
      clear hS9
      (try simp only [act_put, act_put_none, List.set_cons_zero, List.set_cons_succ])
      refine wpAnyR_ready (rs := [3]) (by decide +kernel) (by simp) ?_
      refine AllReadyR.cons (i := 3) (by simp only [List.getElem?_toArray, List.getElem?_cons_succ, List.getElem?_cons_zero]; rfl) (fun K hK => ?_) ?_
      · refine wp_append_msgs _ _ rfl rfl HE.out (some ⟨gb, 0, none⟩) S.length cap S rfl rfl (fun e => ?c0) ?c1 (by omega) hS.2.2.2.out ?_
        case c0 => exact ((own_cells (own_below HO.out hS.2.2.1.out)).2.2.1 e)
        case c1 =>
          intro j u hu
          obtain ⟨b, e, hcc⟩ := (own_cells (own_below HO.out hS.2.2.1.out)).2.2.2 j u hu
          exact ⟨b, 0, e, by rw [Nat.zero_add]; exact hcc⟩
        intro v3 V3 hown hb hgr
        rw [Nat.zero_add, List.nil_append] at hown
        have hS9 := And.intro ((rowAt_below hb _ (by omega)).trans hS.1) (And.intro ((rowAt_below hb _ (by omega)).trans hS.2.1) (And.intro (Lib.hid (hS.2.2.1.out.trans (hb.mono (by omega)))) (Lib.hid (Nat.le_trans hS.2.2.2.out hb.size))))
        have hr9 := grown_row hgr r9 (fun e => hne (by injection e))
        clear r9
        have r9 := hr9
        clear hr9
        clear HE hb hgr
        have HE := Lib.hid hown
        clear hown
        refine hK.out _ _ hS9 (fun hS2 => ?_)
        clear hS hK K hS2
        have hS := hS9
        clear hS9
        (try simp only [act_put, act_put_none, List.set_cons_zero, List.set_cons_succ])
        refine wpAnyR_ready (rs := [10]) (by decide +kernel) (by simp) ?_
        refine AllReadyR.cons (i := 10) (by simp only [List.getElem?_toArray, List.getElem?_cons_succ, List.getElem?_cons_zero]; rfl) (fun K hK => ?_) ?_
        · refine wp_append_msgs _ _ rfl rfl HE.out (some ⟨b9, 0, none⟩) 1 1 [mk] rfl rfl (fun e => by cases e) ?c1 (by omega) hS.2.2.2.out ?_
          case c1 =>
            intro j u hu
            rw [msgV_one] at hu
            exact ⟨b9, 0, rfl, by rw [Nat.zero_add, cell_of_rowAt r9, ← hu]; simp⟩
          intro v10 V4 hown hb hgr
          obtain ⟨a10, c10, rfl⟩ : ∃ a10 c10, v10 = .slice a10 (S.length + 1) c10 := by
            obtain ⟨a10, c10, e, _⟩ := own_open hown (by decide)
            exact ⟨a10, c10, e⟩
          rw [← msgV_app] at hown
          have hS9 := And.intro ((rowAt_below hb _ (by omega)).trans hS.1) (And.intro ((rowAt_below hb _ (by omega)).trans hS.2.1) (And.intro (Lib.hid (hS.2.2.1.out.trans (hb.mono (by omega)))) (Lib.hid (Nat.le_trans hS.2.2.2.out hb.size))))
          clear HE hb hgr r9
          have HE : Hid (V4.ownsRow (w.heap.size + 2) 34 12 (.slice a10 (S.length + 1) c10) (S ++ [mk]).length (msgV (S ++ [mk]))) := Lib.hid (by rw [List.length_append]; exact hown)
          clear hown
          refine hK.out _ _ hS9 (fun hS2 => ?_)
          clear hS hK K hS2
          have hS := hS9
          clear hS9
          (try simp only [act_put, act_put_none, List.set_cons_zero, List.set_cons_succ])
          refine late_take (i := 11) (lt := [12]) (rd := [1, 2, 4, 5, 6, 7, 8, 11]) (by simp only [List.getElem?_toArray, List.getElem?_cons_succ, List.getElem?_cons_zero]; rfl) (by decide +kernel) (by decide +kernel) (by decide +kernel) (by decide +kernel) (by decide +kernel) (by exact fun _ _ _ _ h => h) hS (by rfl) ?_
          apply Exists.intro
          refine ⟨fun w' hSw => ?_, ?_⟩
          · go_simp
            with_reducible rfl
          (try simp only [act_put, act_put_none, List.set_cons_zero, List.set_cons_succ])
          refine wpAnyR_ready (rs := [12]) (by decide +kernel) (by simp) ?_
          refine AllReadyR.last (i := 12) (by simp only [List.getElem?_toArray, List.getElem?_cons_succ, List.getElem?_cons_zero]; rfl) (by decide) (fun K hK => ?_) ?_
          · have hz := fun i => cell_of_rowAt hS.1 i
            have fz := frozen_of_rowAt hS.1
            go_simp
            refine hK.out _ _ ?_
            clear hK K
            (try simp only [act_put, act_put_none, List.set_cons_zero, List.set_cons_succ])
            refine wpAnyR_done (by decide +kernel) ?_ _
            have q1 := rowAt_setCell_same 1 (.slice a10 (S.length + 1) c10) hS.1
            rw [rnC_set1] at q1
            have q2 : rowAt (V4.setCell ⟨w.heap.size, 1, none⟩ (.slice a10 (S.length + 1) c10)) (w.heap.size + 1) = some (rnC 0 none 0 0 0 0 0 0, 29) := by rw [rowAt_setCell_other _ _ _ _ (by simp)]; exact hS.2.1
            have HO9 := Lib.hid (own_setCell (i := 1) (x := .slice a10 (S.length + 1) c10) HE.out (show w.heap.size < w.heap.size + 2 by omega))
            have HB9 := Lib.hid (below_setCell' (i := 1) (v := .slice a10 (S.length + 1) c10) hS.2.2.1.out (Nat.le_refl w.heap.size))
            have hs9 : w.heap.size + 2 ≤ (V4.setCell ⟨w.heap.size, 1, none⟩ (.slice a10 (S.length + 1) c10)).heap.size := by simpa using hS.2.2.2.out
            generalize V4.setCell ⟨w.heap.size, 1, none⟩ (.slice a10 (S.length + 1) c10) = W9 at *
            clear hS HE
            have hz := fun i => cell_of_rowAt q1 i
            have fz := frozen_of_rowAt q1
            go_wp2_with fail
            have rr : rowAt (W9.setCell ⟨w.heap.size, 5, none⟩ (.int .i64 (d + 1))) (w.heap.size + 1) = some (rnC 0 none 0 0 0 0 0 0, 29) := by rw [rowAt_setCell_other _ _ _ _ (by simp)]; exact q2
            refine ret_ct (u := .int .i64 0) (by rfl) (by with_unfolding_all rfl) (by with_unfolding_all rfl) (by rfl) (load_rnet_row (rowAt_setRow_same _ rr)) ?_
            exact ⟨a10, c10, rfl, own_mono (own_setRow (own_setCell HO9.out (show w.heap.size < w.heap.size + 2 by omega)) (show w.heap.size + 1 < w.heap.size + 2 by omega) _) (by omega), below_setRow' (below_setCell' HB9.out (Nat.le_refl _)) (show w.heap.size ≤ w.heap.size + 1 by omega) _⟩
          exact AllReadyR.nil
        exact AllReadyR.nil
      exact AllReadyR.nil
    exact AllReadyR.nil
  exact AllReadyR.nil
end Go.Proofs.YtlocoieknabiaaaGreat
