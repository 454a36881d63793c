/-
  Layer 15 (net): the walk of NetPlays.
-/
import Derived.Test.YtlocoieknabiaaaGreatZGT
import Derived.Test.YtlocoieknabiaaaGreatZAwake15
import Derived.Deep.CutRange
import Derived.Deep.CutBlock
namespace Go.Proofs.YtlocoieknabiaaaGreat
set_option maxRecDepth 20000
open Go.RowKit
set_option linter.unusedSimpArgs false
set_option linter.unusedVariables false
attribute [local go_sem] rowCells rowAt_drewN rowAt_alloc rowAt_drew setRow_alloc setRow_drewN setRow_drew setCell_alloc setCell_drewN rowAt_setRow rowAt_setCell Later.cell Later.frozen
attribute [local go_sem ↓] xload_msg xstore_msg xalloc_msg xbuildS_msg xbuild_msg0 xload_do xstore_do xalloc_do xload_rnet xstore_rnet xalloc_rnet
attribute [local go_sem] load_msg load_msg_later store_msg Msg.size Msg.cut_all Msg.splice_all buildSM_agg load_do store_do doC_size doC_all doC_splice doC_cut doC_get0 doC_get1 doC_getE0 doC_getE1 load_rnet store_rnet rnC_size rnC_all rnC_splice load_msg_at rnC_get0 rnC_get1 rnC_get2 rnC_get3 rnC_get4 rnC_get5 rnC_getE0 rnC_getE1 rnC_getE2 rnC_getE3 rnC_getE4 rnC_getE5 rnC_set1 rnC_set2 rnC_set3 rnC_set4 rnC_set5

noncomputable def buildR1 (w : World) (u : Value) : Result Next := ((do pure (Next.value (← Instr.build 29 #[(0, u)])) : Sem Next)).run Tryz.prog w
section
variable (ρ : Operand → Value) (d : Option Tmp) (T : TypeId) (p : String) (af : Array Edge) (gd : Option (Nat × Bool)) (x : Operand) (w : World)
theorem xbuild_rnet1 : (execOp ρ ⟨d, .build 29 #[(0, x)], T, p, af, gd⟩).run Tryz.prog w = buildR1 w (ρ x) := by simp [execOp, buildR1]
end
theorem buildR1_net (w : World) (n : Int) : buildR1 w (.int .i64 n) = .ok (.value (.agg (rnC n none 0 0 0 0 0 0))) w := by kernel_rfl
attribute [local go_sem ↓] xbuild_rnet1
attribute [local go_sem] buildR1_net
/-- The net, the reference's net, and the numbers, behind k steps. -/
structure NPl (w0 w : World) (g q p : Nat) (room : Int) (R : List Msg) (s c l d : Int) (a : Option Addr) (cap k : Nat) : Prop where
  net : NT (fun b => b ≠ p) w g q room (psOf R) s c l d
  own : w.ownsRow (p + 1) 34 12 (.slice a R.length cap) R.length (msgV R)
  row : rowAt w p = some (rnC room a R.length cap s c l d, 29)
  bel : Below w0.heap.size w0 w
  num : NumOk w0 room R s c l d k
theorem PullR.ok {w0 : World} {room : Int} {R R' : List Msg} {s c l d n n' e k0 : Int} {k : Nat} {x : Msg} (hS : PullR R k0 n R' n' e x) (h : NumOk w0 room R s c l d k) : MsgOk w0 x := by
  rcases hS with ⟨_, _, _, _, rfl⟩ | ⟨j, _, hj, _, _, _, rfl⟩
  · exact msg0_ok w0
  · exact (h.ok _ (getD_mem hj)).1
theorem NPl.below {w0 w w' : World} {g q p : Nat} {room : Int} {R : List Msg} {s c l d : Int} {a : Option Addr} {cap k : Nat} (h : NPl w0 w g q p room R s c l d a cap k) (hb : Below w.heap.size w w') : NPl w0 w' g q p room R s c l d a cap k :=
  ⟨h.net.below hb, own_below h.own hb, rowKeep hb h.row, bthen h.bel hb, h.num⟩
theorem NT.none {X X' : Nat → Prop} {w : World} {g q : Nat} {room s c l d : Int} (h : NT X w g q room [] s c l d) : NT X' w g q room [] s c l d := by
  obtain ⟨A, cap, V, h⟩ := h
  exact ⟨A, cap, V, ⟨h.row, h.book, h.lt, h.le, h.nil, h.big, h.off, h.cell, h.by_, fun x hx hp => absurd rfl hp, fun i hi => absurd hi (by simp)⟩⟩
theorem NT.store {w : World} {g q p : Nat} {room s c l d : Int} {ps : List (List UInt8)} (h : NT (fun b => b ≠ p) w g q room ps s c l d) (h1 : g ≠ p) (h2 : q ≠ p) (cs : Array Value) : NT (fun b => b ≠ p) (w.setRow p cs) g q room ps s c l d :=
  h.grown (r := some p) ⟨rfl, rfl, rfl, by rw [setRow_size]; exact Nat.le_refl _, fun k _ hk => setRow_other w p k cs (fun e => hk (by rw [e]))⟩ (fun b hb e => hb (by injection e)) (fun e => h1 (by injection e)) (fun e => h2 (by injection e)) (fun _ _ hb => hb)

set_option maxHeartbeats 16000000 in
theorem netPlays_walk (room : Int) (hroom : -9223372036854775808 ≤ room ∧ room ≤ 9223372036854775807) (A : Option Addr) (n c0 : Nat) (V K : Nat → Int) (M : Nat → Msg) (hnc : n ≤ c0) (hc0 : c0 ≤ 9223372036854775807) (hA : A = none → c0 = 0) (w : World) (h : DosIs w A n V K M) :
    Calls Tryz.prog 3 #[.int .i64 room, .slice A n c0] w fun e w' => e = .returned (.bool true) ∧ Below w.heap.size w w' := by
  have HD := Lib.hid h
  clear h hroom
  by_cases hr : room < 1 ∨ 256 < room
  · have HR := Lib.hid hr
    by_cases hr1 : room < 1
    · have g1 : decide (room < 1) = true := decide_eq_true hr1
      clear hr hr1
      go_enter Tryz.func3, Tryz.ntmps3
      go_wp2_with fail
      refine (netNew_none room _ HR.out).mono ?_
      rintro e w1 ⟨rfl, hb⟩
      have HB1 := Lib.hid hb
      clear hb HD
      go_wp2_with fail
      refine (awake15 _).mono ?_
      rintro e wz ⟨rfl, hb⟩
      have HBZ := Lib.hid (bthen HB1.out hb)
      clear hb
      go_wp2
      go_ret
      exact ⟨rfl, HBZ.out⟩
    · have g1 : decide (room < 1) = false := decide_eq_false hr1
      have g2 : decide (256 < room) = true := decide_eq_true (by omega)
      clear hr hr1
      go_enter Tryz.func3, Tryz.ntmps3
      go_wp2_with fail
      refine (netNew_none room _ HR.out).mono ?_
      rintro e w1 ⟨rfl, hb⟩
      have HB1 := Lib.hid hb
      clear hb HD
      go_wp2_with fail
      refine (awake15 _).mono ?_
      rintro e wz ⟨rfl, hb⟩
      have HBZ := Lib.hid (bthen HB1.out hb)
      clear hb
      go_wp2
      go_ret
      exact ⟨rfl, HBZ.out⟩
  have h1 : 1 ≤ room := by omega
  have h2 : room ≤ 256 := by omega
  have g1 : decide (room < 1) = false := decide_eq_false (by omega)
  have g2 : decide (256 < room) = false := decide_eq_false (by omega)
  obtain ⟨fb, hfb⟩ : ∃ b, few15B n M = b := ⟨_, rfl⟩
  have HF := Lib.hid hfb
  clear hr hfb
  go_enter Tryz.func3, Tryz.ntmps3
  go_wp2_with fail
  refine (netNew_ok (X := fun _ => True) room _ h1 h2).mono ?_
  rintro e w1 ⟨g, q, rfl, hnt, hq, hb⟩
  have hqg := hnt.cells.2.2.2.2.2.2.2
  have hgw := hnt.cells.2.2.2.2.2.2.1
  have HB1 := Lib.hid hb
  have HNT := Lib.hid hnt
  clear hb hnt
  go_wp2_with fail
  refine (few15_any A n c0 V K M (Nat.le_trans hnc hc0) w1 (HD.out.below HB1.out)).mono ?_
  rintro e w2 ⟨rfl, hb⟩
  have HB2 := Lib.hid (bthen HB1.out hb)
  have HNT2 := Lib.hid (HNT.out.below hb)
  have hs2 := hb.size
  clear hb HNT
  cases fb
  · rw [HF.out]
    go_wp2_with fail
    refine (awake15 _).mono ?_
    rintro e wz ⟨rfl, hb⟩
    have HBZ := Lib.hid (bthen HB2.out hb)
    clear hb
    go_wp2
    go_ret
    exact ⟨rfl, HBZ.out⟩
  · rw [HF.out]
    have hn40 : n ≤ 40 := by
      have := HF.out
      simp only [few15B, Bool.and_eq_true, decide_eq_true_eq] at this
      exact this.2
    go_upto_region 5 with fail
    obtain ⟨p, hp⟩ : ∃ p, w2.heap.size = p := ⟨_, rfl⟩
    have hal : Below w2.heap.size w2 (w2.alloc (.cells (rnC room none 0 0 0 0 0 0) 29)) := (Below.refl _ _).alloc (Nat.le_refl _) _
    have hpl : NPl w (w2.alloc (.cells (rnC room none 0 0 0 0 0 0) 29)) g q p room [] 0 0 0 0 none 0 0 :=
      ⟨(HNT2.out.below hal).none, own_nil _ _ _ _, rowAt_alloc_at _ _ _ _ hp.symm, bthen HB2.out hal, ⟨rfl, by omega, by omega, by omega, by omega, Nat.le_refl _, by simp; omega, fun m hm => by cases hm⟩⟩
    have hgp : g < p := by omega
    have HP0 := Lib.hid hpl
    rw [hp]
    clear hal hpl HNT2 HB2
    generalize w2.alloc (.cells (rnC room none 0 0 0 0 0 0) 29) = W3 at *
    clear hp hs2 hgw
    go_wp2_with fail
    go_loopw [47] (fun i wx => ∃ (k : Nat) (R : List Msg) (s c l d : Int) (a : Option Addr) (cap : Nat), k ≤ n ∧ i = .int .i64 k ∧ NPl w wx g q p room R s c l d a cap k) (fun i _ => n - (intOf i).toNat)
    case atStart => exact ⟨0, [], 0, 0, 0, 0, none, 0, Nat.zero_le _, rfl, HP0.out⟩
    case round =>
      rename World => wr
      obtain ⟨k, R, s, c, l, d, a, cap, hk, rfl, hnp⟩ := hrel
      have HNP0 := Lib.hid hnp
      clear HP0 hnp
      by_cases hlt : k < n
      · obtain ⟨b, o, rfl, hld⟩ := (HD.out.below HNP0.out.bel).load hlt
        have HM0 := Lib.hid (HD.out.ok k hlt)
        obtain ⟨v, hv⟩ : ∃ v, V k = v := ⟨_, rfl⟩
        obtain ⟨kk, hkk⟩ : ∃ kk, K k = kk := ⟨_, rfl⟩
        obtain ⟨m, hm⟩ : ∃ m, M k = m := ⟨_, rfl⟩
        rw [hv, hkk, hm] at hld
        rw [hm] at HM0
        clear hv hkk hm
        go_upto_block 2 with fail
        have hpr : p < wr.heap.size := rowAt_lt HNP0.out.row
        have hal : Below wr.heap.size wr (wr.alloc (.cells (doC v kk m) 36)) := (Below.refl _ _).alloc (Nat.le_refl _) _
        have hdo : rowAt (wr.alloc (.cells (doC v kk m) 36)) wr.heap.size = some (doC v kk m, 36) := rowAt_alloc_at _ _ _ _ rfl
        have hnp := HNP0.out.below hal
        obtain ⟨pd, hpd⟩ : ∃ pd, wr.heap.size = pd := ⟨_, rfl⟩
        rw [hpd] at hdo hpr ⊢
        clear hal hld HNP0 hpd
        generalize wr.alloc (.cells (doC v kk m) 36) = W at *
        have HNP := Lib.hid hnp
        have HMW := Lib.hid (HM0.out.below hnp.bel)
        have hpw : pd < W.heap.size := rowAt_lt hdo
        have hk1 : k ≤ 1000 := by omega
        clear hnp
        go_cut [9, 47] from 47 to 168 (fun x i wx => ∃ (R' : List Msg) (s' c' l' d' : Int) (a' : Option Addr) (cap' : Nat), x = .bool true ∧ i = .int .i64 (k : Int) ∧ NPl w wx g q p room R' s' c' l' d' a' cap' (k + 1))
        case first =>
          have hz0 : W.cell? ⟨pd, 0, none⟩ = some (.int .i64 v) := by rw [cell_of_rowAt hdo]; rfl
          by_cases hv0 : v = 0
          · subst hv0
            obtain ⟨R', s', e0, hS⟩ := sendR_any room R m s
            have HS := Lib.hid hS
            have HNUM := Lib.hid (HNP.out.num.send HS.out HM0.out)
            clear hS
            have rp := HNP.out.row

            go_wp2_with fail
            refine (rsend_any HNP.out.own (by omega) HMW.out HS.out HNP.out.num hk1).mono ?_
            rintro e w1 ⟨a', cap', rfl, hown, hb⟩
            have HN1 := Lib.hid (HNP.out.below hb)
            have HO1 := Lib.hid hown
            have hd1 := rowKeep hb hdo
            have HM1 := Lib.hid (HMW.out.below hb)
            have hp1 := rowAt_lt HN1.out.row
            have hpd1 := rowAt_lt hd1
            clear hown hb rp hdo hz0 HNP HMW hpw 
            go_upto_region 12 with fail
            obtain ⟨pq, hpq⟩ : ∃ pq, w1.heap.size = pq := ⟨_, rfl⟩
            have hal2 : Below w1.heap.size w1 (w1.alloc (.cells (rnC room a' R'.length cap' s' c l d) 29)) := (Below.refl _ _).alloc (Nat.le_refl _) _
            have HN2 := Lib.hid (HN1.out.below hal2)
            have HO2 := Lib.hid (own_below HO1.out hal2)
            have hd2 := rowKeep hal2 hd1
            have HM2 := Lib.hid (HM1.out.below hal2)
            have hq2 : rowAt (w1.alloc (.cells (rnC room a' R'.length cap' s' c l d) 29)) pq = some ((rnC room a' R'.length cap' s' c l d), 29) := rowAt_alloc_at _ _ _ _ hpq.symm
            rw [hpq] at hp1 hpd1 ⊢
            clear hal2 HN1 HO1 hd1 HM1 hpq
            generalize w1.alloc (.cells (rnC room a' R'.length cap' s' c l d) 29) = W2 at *
            have HN3 : Hid (NPl w W2.drew g q p room R s c l d a cap k) := Lib.hid (HN2.out.below (Below.refl _ _).drew)
            have HO3 : Hid (W2.drew.ownsRow (p + 1) 34 12 (.slice a' R'.length cap') R'.length (msgV R')) := Lib.hid (own_below HO2.out (Below.refl _ _).drew)
            have HM3 : Hid (MsgOk W2.drew m) := Lib.hid (HM2.out.below (Below.refl _ _).drew)
            clear HN2 HO2 HM2
            refine wp_region_late_drew (lt := []) (S := fun w' : World => rowAt w' pq = some ((rnC room a' R'.length cap' s' c l d), 29) ∧ rowAt w' pd = some (doC 0 kk m, 36)) (by kernel_rfl) ⟨hq2, hd2⟩ (fun hS => ?_)
            generalize W2.drew = W3 at *
            clear hq2 hd2
            have hp3 := rowAt_lt HN3.out.row
            refine late_take (i := 0) (lt := []) (rd := [0, 1, 2, 3, 5, 6, 8]) (by simp only [List.getElem?_toArray, List.getElem?_cons_succ, List.getElem?_cons_zero]; rfl) (by decide +kernel) (by decide +kernel) (by decide +kernel) (by decide +kernel) (by decide +kernel) (by exact fun _ _ _ _ h => h) hS (by rfl) ?_
            apply Exists.intro
            refine ⟨fun w' hSw => ?_, ?_⟩
            · have q1 := hSw.1
              go_simp
              with_reducible rfl
            (try simp only [act_put, act_put_none, List.set_cons_zero, List.set_cons_succ])
            refine late_take (i := 1) (lt := []) (rd := [0, 1, 2, 3, 5, 6, 8]) (by simp only [List.getElem?_toArray, List.getElem?_cons_succ, List.getElem?_cons_zero]; rfl) (by decide +kernel) (by decide +kernel) (by decide +kernel) (by decide +kernel) (by decide +kernel) (by exact fun _ _ _ _ h => h) hS (by rfl) ?_
            apply Exists.intro
            refine ⟨fun w' hSw => ?_, ?_⟩
            · go_simp
              with_reducible rfl
            (try simp only [act_put, act_put_none, List.set_cons_zero, List.set_cons_succ])
            refine late_take (i := 2) (lt := []) (rd := [0, 1, 2, 3, 5, 6, 8]) (by simp only [List.getElem?_toArray, List.getElem?_cons_succ, List.getElem?_cons_zero]; rfl) (by decide +kernel) (by decide +kernel) (by decide +kernel) (by decide +kernel) (by decide +kernel) (by exact fun _ _ _ _ h => h) hS (by rfl) ?_
            apply Exists.intro
            refine ⟨fun w' hSw => ?_, ?_⟩
            · go_simp
              with_reducible rfl
            (try simp only [act_put, act_put_none, List.set_cons_zero, List.set_cons_succ])
            refine late_take (i := 3) (lt := []) (rd := [0, 1, 2, 3, 5, 6, 8]) (by simp only [List.getElem?_toArray, List.getElem?_cons_succ, List.getElem?_cons_zero]; rfl) (by decide +kernel) (by decide +kernel) (by decide +kernel) (by decide +kernel) (by decide +kernel) (by exact fun _ _ _ _ h => h) hS (by rfl) ?_
            apply Exists.intro
            refine ⟨fun w' hSw => ?_, ?_⟩
            · have q1 := hSw.2
              go_simp
              with_reducible rfl
            (try simp only [act_put, act_put_none, List.set_cons_zero, List.set_cons_succ])
            refine late_take (i := 5) (lt := []) (rd := [0, 1, 2, 3, 5, 6, 8]) (by simp only [List.getElem?_toArray, List.getElem?_cons_succ, List.getElem?_cons_zero]; rfl) (by decide +kernel) (by decide +kernel) (by decide +kernel) (by decide +kernel) (by decide +kernel) (by exact fun _ _ _ _ h => h) hS (by rfl) ?_
            apply Exists.intro
            refine ⟨fun w' hSw => ?_, ?_⟩
            · go_simp
              with_reducible rfl
            (try simp only [act_put, act_put_none, List.set_cons_zero, List.set_cons_succ])
            refine wpAnyR_ready (rs := [4]) (by decide +kernel) (by simp) ?_
            refine AllReadyR.cons (i := 4) (by simp only [List.getElem?_toArray, List.getElem?_cons_succ, List.getElem?_cons_zero]; rfl) (fun K hK => ?_) ?_
            · go_simp
              go_at_call 8
              refine (nsend_any HN3.out.net HM3.out HS.out HN3.out.num hk1 (fun b hb => by show b ≠ p; omega)).mono ?_
              rintro e w4 ⟨rfl, hn, ht⟩
              go_simp
              have hS9 := And.intro (ht.row (show pq ≠ g by omega) (show pq ≠ q by omega) hS.1) (ht.row (show pd ≠ g by omega) (show pd ≠ q by omega) hS.2)
              have hrp := ht.row (show p ≠ g by omega) (show p ≠ q by omega) HN3.out.row
              have HNT4 := Lib.hid hn
              have HO4 := Lib.hid (own_twob HO3.out ht (show g < p + 1 by omega) (show q < p + 1 by omega))
              have HB4 := Lib.hid (ht.below HN3.out.bel hq)
              refine hK.out _ _ hS9 (fun hS2 => ?_)
              clear hS hK K hn ht hS2 HN3 HO3 HM3 hp3
              have hS := hS9
              clear hS9
              (try simp only [act_put, act_put_none, List.set_cons_zero, List.set_cons_succ])
              refine late_take (i := 6) (lt := []) (rd := [0, 1, 2, 3, 5, 6, 8]) (by simp only [List.getElem?_toArray, List.getElem?_cons_succ, List.getElem?_cons_zero]; rfl) (by decide +kernel) (by decide +kernel) (by decide +kernel) (by decide +kernel) (by decide +kernel) (by exact fun _ _ _ _ h => h) hS (by rfl) ?_
              apply Exists.intro
              refine ⟨fun w' hSw => ?_, ?_⟩
              · go_simp
                with_reducible rfl
              (try simp only [act_put, act_put_none, List.set_cons_zero, List.set_cons_succ])
              refine wpAnyR_ready (rs := [7]) (by decide +kernel) (by simp) ?_
              refine AllReadyR.cons (i := 7) (by simp only [List.getElem?_toArray, List.getElem?_cons_succ, List.getElem?_cons_zero]; rfl) (fun K hK => ?_) ?_
              · go_simp
                have hon : Only p w4 (w4.setRow p (rnC room a' R'.length cap' s' c l d)) := onlyRow _
                have hS9 := And.intro (hon.row (show pq ≠ p by omega) hS.1) (hon.row (show pd ≠ p by omega) hS.2)
                have HN5 : Hid (NPl w (w4.setRow p (rnC room a' R'.length cap' s' c l d)) g q p room R' s' c l d a' cap' (k + 1)) := Lib.hid ⟨HNT4.out.store (by omega) (by omega) _, own_setRow HO4.out (by omega) _, rowAt_setRow_same _ hrp, below_setRow' HB4.out (show w.heap.size ≤ p by omega) _, HNUM.out⟩
                refine hK.out _ _ hS9 (fun hS2 => ?_)
                clear hS hK K hon hS2 HNT4 HO4 HB4 hrp
                have hS := hS9
                clear hS9
                (try simp only [act_put, act_put_none, List.set_cons_zero, List.set_cons_succ])
                refine late_take (i := 8) (lt := []) (rd := [0, 1, 2, 3, 5, 6, 8]) (by simp only [List.getElem?_toArray, List.getElem?_cons_succ, List.getElem?_cons_zero]; rfl) (by decide +kernel) (by decide +kernel) (by decide +kernel) (by decide +kernel) (by decide +kernel) (by exact fun _ _ _ _ h => h) hS (by rfl) ?_
                apply Exists.intro
                refine ⟨fun w' hSw => ?_, ?_⟩
                · go_simp
                  with_reducible rfl
                (try simp only [act_put, act_put_none, List.set_cons_zero, List.set_cons_succ])
                refine wpAnyR_done (by decide +kernel) ?_ _
                go_wp2_with fail
                go_meet
                exact ⟨R', s', c, l, d, a', cap', rfl, rfl, HN5.out⟩
              exact AllReadyR.nil
            exact AllReadyR.nil
          by_cases hv1 : v = 1
          · subst hv1
            clear hv0
            obtain ⟨R', c', e0, x, hS⟩ := pullR_any R kk c
            have HS := Lib.hid hS
            have HNUM := Lib.hid (HNP.out.num.take HS.out)
            have HNO := Lib.hid HNP.out.num
            have HX := Lib.hid (hS.ok HNP.out.num)
            clear hS
            have hpw0 := rowAt_lt HNP.out.row
            have hz1 : W.cell? ⟨pd, 1, none⟩ = some (.int .i64 kk) := by rw [cell_of_rowAt hdo]; rfl
            go_wp2_with fail
            refine (ntake_any HNP.out.net HS.out HNP.out.num hk1 (fun b hb => by show b ≠ p; omega) HNP.out.bel).mono ?_
            rintro e w1 ⟨mm, rfl, hmm, hsame, hn, ht⟩
            have hd1 := ht.row (show pd ≠ g by omega) (show pd ≠ q by omega) hdo
            have hr1 := ht.row (show p ≠ g by omega) (show p ≠ q by omega) HNP.out.row
            have HO1 := Lib.hid (own_twob HNP.out.own ht (show g < p + 1 by omega) (show q < p + 1 by omega))
            have HB1 := Lib.hid (ht.below HNP.out.bel hq)
            have HNT1 := Lib.hid hn
            have HMM1 := Lib.hid hmm
            have HSM := Lib.hid hsame
            have hz1 : w1.cell? ⟨pd, 1, none⟩ = some (.int .i64 kk) := by rw [cell_of_rowAt hd1]; rfl
            have hpd1 := rowAt_lt hd1
            have hp1 := rowAt_lt hr1
            clear hmm hsame hn ht HNP HMW hdo hz0 hpw hpw0
            go_wp2_with fail
            have hal : Below w1.heap.size w1 (w1.alloc (.cells mm.cells 34)) := (Below.refl _ _).alloc (Nat.le_refl _) _
            refine (rtake_any (own_below HO1.out hal) (by simp; omega) HS.out HNO.out hk1).mono ?_
            rintro e w2 ⟨a', cap', rfl, hown, hb⟩
            have hb2 := bthen hal hb
            have hd2 := rowKeep hb2 hd1
            have hr2 := rowKeep hb2 hr1
            have hm2 : rowAt w2 w1.heap.size = some (mm.cells, 34) := rowKeep hb (rowAt_alloc_at _ _ _ _ rfl)
            have HO2 := Lib.hid hown
            have HB2 := Lib.hid (bthen HB1.out hb2)
            have HNT2 := Lib.hid (HNT1.out.below hb2)
            have HMM2 := Lib.hid (HMM1.out.below hb2)
            have hpd2 := rowAt_lt hd2
            have hp2 := rowAt_lt hr2
            have hpm2 := rowAt_lt hm2
            obtain ⟨p1, hp1e⟩ : ∃ p1, w1.heap.size = p1 := ⟨_, rfl⟩
            rw [hp1e] at hm2 hp1 hpm2 ⊢
            clear hal hb2 hown hb hd1 hr1 HO1 HB1 HNT1 HMM1 hp1e HNO hz1 hpd1
            go_upto_region 16 with fail
            obtain ⟨p2, hp2e⟩ : ∃ p2, w2.heap.size = p2 := ⟨_, rfl⟩
            have hal2 : Below w2.heap.size w2 ((w2.alloc (.cells (rnC room a' R'.length cap' s c' l d) 29)).alloc (.cells x.cells 34)) := below_allocS ((Below.refl _ _).alloc (Nat.le_refl _) _) _
            have hd3 := rowKeep hal2 hd2
            have hr3 := rowKeep hal2 hr2
            have hm3 := rowKeep hal2 hm2
            have hq3 : rowAt ((w2.alloc (.cells (rnC room a' R'.length cap' s c' l d) 29)).alloc (.cells x.cells 34)) p2 = some ((rnC room a' R'.length cap' s c' l d), 29) := rowPast (rowAt_alloc_at _ _ _ _ hp2e.symm)
            have hx3 : rowAt ((w2.alloc (.cells (rnC room a' R'.length cap' s c' l d) 29)).alloc (.cells x.cells 34)) (p2 + 1) = some (x.cells, 34) := rowAt_alloc_at _ _ _ _ (by simp [hp2e])
            have HO3 := Lib.hid (own_below HO2.out hal2)
            have HB3 := Lib.hid (bthen HB2.out hal2)
            have HNT3 := Lib.hid (HNT2.out.below hal2)
            have HMM3 := Lib.hid (HMM2.out.below hal2)
            have HX3 := Lib.hid (HX.out.below HB3.out)
            rw [hp2e] at hp2 hpd2 hpm2 ⊢
            clear hal2 hd2 hr2 hm2 HO2 HB2 HNT2 HMM2 hp2e
            generalize (w2.alloc (.cells (rnC room a' R'.length cap' s c' l d) 29)).alloc (.cells x.cells 34) = W2 at *
            have HNT4 := Lib.hid (HNT3.out.below (Below.refl _ _).drew)
            have HO4 : Hid (W2.drew.ownsRow (p + 1) 34 12 (.slice a' R'.length cap') R'.length (msgV R')) := Lib.hid (own_below HO3.out (Below.refl _ _).drew)
            have HB4 : Hid (Below w.heap.size w W2.drew) := Lib.hid HB3.out.drew
            have HMM4 : Hid (MsgOk W2.drew mm) := Lib.hid (HMM3.out.below (Below.refl _ _).drew)
            have HX4 : Hid (MsgOk W2.drew x) := Lib.hid (HX3.out.below (Below.refl _ _).drew)
            have hr4 : rowAt W2.drew p = some (rnC room a R.length cap s c l d, 29) := hr3
            clear hr3 HO3 HB3 HNT3 HMM3 HX3
            refine wp_region_late_drew (lt := []) (S := fun w' : World => rowAt w' p2 = some ((rnC room a' R'.length cap' s c' l d), 29) ∧ rowAt w' p1 = some (mm.cells, 34) ∧ rowAt w' (p2 + 1) = some (x.cells, 34)) (by kernel_rfl) ⟨hq3, hm3, hx3⟩ (fun hS => ?_)
            generalize W2.drew = W3 at *
            clear hq3 hm3 hx3 hd3
            refine late_take (i := 0) (lt := []) (rd := [0, 1, 2, 3, 4, 5, 6, 8, 10]) (by simp only [List.getElem?_toArray, List.getElem?_cons_succ, List.getElem?_cons_zero]; rfl) (by decide +kernel) (by decide +kernel) (by decide +kernel) (by decide +kernel) (by decide +kernel) (by exact fun _ _ _ _ h => h) hS (by rfl) ?_
            apply Exists.intro
            refine ⟨fun w' hSw => ?_, ?_⟩
            · have q1 := hSw.1
              go_simp
              with_reducible rfl
            (try simp only [act_put, act_put_none, List.set_cons_zero, List.set_cons_succ])
            refine late_take (i := 1) (lt := []) (rd := [0, 1, 2, 3, 4, 5, 6, 8, 10]) (by simp only [List.getElem?_toArray, List.getElem?_cons_succ, List.getElem?_cons_zero]; rfl) (by decide +kernel) (by decide +kernel) (by decide +kernel) (by decide +kernel) (by decide +kernel) (by exact fun _ _ _ _ h => h) hS (by rfl) ?_
            apply Exists.intro
            refine ⟨fun w' hSw => ?_, ?_⟩
            · go_simp
              with_reducible rfl
            (try simp only [act_put, act_put_none, List.set_cons_zero, List.set_cons_succ])
            refine late_take (i := 2) (lt := []) (rd := [0, 1, 2, 3, 4, 5, 6, 8, 10]) (by simp only [List.getElem?_toArray, List.getElem?_cons_succ, List.getElem?_cons_zero]; rfl) (by decide +kernel) (by decide +kernel) (by decide +kernel) (by decide +kernel) (by decide +kernel) (by exact fun _ _ _ _ h => h) hS (by rfl) ?_
            apply Exists.intro
            refine ⟨fun w' hSw => ?_, ?_⟩
            · go_simp
              with_reducible rfl
            (try simp only [act_put, act_put_none, List.set_cons_zero, List.set_cons_succ])
            refine late_take (i := 3) (lt := []) (rd := [0, 1, 2, 3, 4, 5, 6, 8, 10]) (by simp only [List.getElem?_toArray, List.getElem?_cons_succ, List.getElem?_cons_zero]; rfl) (by decide +kernel) (by decide +kernel) (by decide +kernel) (by decide +kernel) (by decide +kernel) (by exact fun _ _ _ _ h => h) hS (by rfl) ?_
            apply Exists.intro
            refine ⟨fun w' hSw => ?_, ?_⟩
            · go_simp
              with_reducible rfl
            (try simp only [act_put, act_put_none, List.set_cons_zero, List.set_cons_succ])
            refine late_take (i := 4) (lt := []) (rd := [0, 1, 2, 3, 4, 5, 6, 8, 10]) (by simp only [List.getElem?_toArray, List.getElem?_cons_succ, List.getElem?_cons_zero]; rfl) (by decide +kernel) (by decide +kernel) (by decide +kernel) (by decide +kernel) (by decide +kernel) (by exact fun _ _ _ _ h => h) hS (by rfl) ?_
            apply Exists.intro
            refine ⟨fun w' hSw => ?_, ?_⟩
            · go_simp
              with_reducible rfl
            (try simp only [act_put, act_put_none, List.set_cons_zero, List.set_cons_succ])
            refine late_take (i := 5) (lt := []) (rd := [0, 1, 2, 3, 4, 5, 6, 8, 10]) (by simp only [List.getElem?_toArray, List.getElem?_cons_succ, List.getElem?_cons_zero]; rfl) (by decide +kernel) (by decide +kernel) (by decide +kernel) (by decide +kernel) (by decide +kernel) (by exact fun _ _ _ _ h => h) hS (by rfl) ?_
            apply Exists.intro
            refine ⟨fun w' hSw => ?_, ?_⟩
            · have q1 := hSw.2.1
              go_simp
              with_reducible rfl
            (try simp only [act_put, act_put_none, List.set_cons_zero, List.set_cons_succ])
            refine late_take (i := 6) (lt := []) (rd := [0, 1, 2, 3, 4, 5, 6, 8, 10]) (by simp only [List.getElem?_toArray, List.getElem?_cons_succ, List.getElem?_cons_zero]; rfl) (by decide +kernel) (by decide +kernel) (by decide +kernel) (by decide +kernel) (by decide +kernel) (by exact fun _ _ _ _ h => h) hS (by rfl) ?_
            apply Exists.intro
            refine ⟨fun w' hSw => ?_, ?_⟩
            · have q1 := hSw.2.2
              go_simp
              with_reducible rfl
            (try simp only [act_put, act_put_none, List.set_cons_zero, List.set_cons_succ])
            refine wpAnyR_ready (rs := [7]) (by decide +kernel) (by simp) ?_
            refine AllReadyR.cons (i := 7) (by simp only [List.getElem?_toArray, List.getElem?_cons_succ, List.getElem?_cons_zero]; rfl) (fun K hK => ?_) ?_
            · go_simp
              go_at_call 11
              refine (HSM.out _ HMM4.out HX4.out).mono ?_
              rintro e w4 ⟨rfl, hb⟩
              go_simp
              have hS9 := And.intro (rowKeep hb hS.1) (And.intro (rowKeep hb hS.2.1) (rowKeep hb hS.2.2))
              have hrp := rowKeep hb hr4
              have HNT5 := Lib.hid (HNT4.out.below hb)
              have HO5 := Lib.hid (own_below HO4.out hb)
              have HB5 := Lib.hid (bthen HB4.out hb)
              refine hK.out _ _ hS9 (fun hS2 => ?_)
              clear hS hK K hb hS2 hr4 HNT4 HO4 HB4 HMM4 HX4
              have hS := hS9
              clear hS9
              (try simp only [act_put, act_put_none, List.set_cons_zero, List.set_cons_succ])
              refine late_take (i := 8) (lt := []) (rd := [0, 1, 2, 3, 4, 5, 6, 8, 10]) (by simp only [List.getElem?_toArray, List.getElem?_cons_succ, List.getElem?_cons_zero]; rfl) (by decide +kernel) (by decide +kernel) (by decide +kernel) (by decide +kernel) (by decide +kernel) (by exact fun _ _ _ _ h => h) hS (by rfl) ?_
              apply Exists.intro
              refine ⟨fun w' hSw => ?_, ?_⟩
              · go_simp
                with_reducible rfl
              (try simp only [act_put, act_put_none, List.set_cons_zero, List.set_cons_succ])
              refine wpAnyR_ready (rs := [9]) (by decide +kernel) (by simp) ?_
              refine AllReadyR.cons (i := 9) (by simp only [List.getElem?_toArray, List.getElem?_cons_succ, List.getElem?_cons_zero]; rfl) (fun K hK => ?_) ?_
              · go_simp
                have hon : Only p w4 (w4.setRow p (rnC room a' R'.length cap' s c' l d)) := onlyRow _
                have hS9 := And.intro (hon.row (show p2 ≠ p by omega) hS.1) (And.intro (hon.row (show p1 ≠ p by omega) hS.2.1) (hon.row (show p2 + 1 ≠ p by omega) hS.2.2))
                have HN5 : Hid (NPl w (w4.setRow p (rnC room a' R'.length cap' s c' l d)) g q p room R' s c' l d a' cap' (k + 1)) := Lib.hid ⟨HNT5.out.store (by omega) (by omega) _, own_setRow HO5.out (by omega) _, rowAt_setRow_same _ hrp, below_setRow' HB5.out (show w.heap.size ≤ p by omega) _, HNUM.out⟩
                refine hK.out _ _ hS9 (fun hS2 => ?_)
                clear hS hK K hon hS2 HNT5 HO5 HB5 hrp
                have hS := hS9
                clear hS9
                (try simp only [act_put, act_put_none, List.set_cons_zero, List.set_cons_succ])
                refine late_take (i := 10) (lt := []) (rd := [0, 1, 2, 3, 4, 5, 6, 8, 10]) (by simp only [List.getElem?_toArray, List.getElem?_cons_succ, List.getElem?_cons_zero]; rfl) (by decide +kernel) (by decide +kernel) (by decide +kernel) (by decide +kernel) (by decide +kernel) (by exact fun _ _ _ _ h => h) hS (by rfl) ?_
                apply Exists.intro
                refine ⟨fun w' hSw => ?_, ?_⟩
                · go_simp
                  with_reducible rfl
                (try simp only [act_put, act_put_none, List.set_cons_zero, List.set_cons_succ])
                refine wpAnyR_done (by decide +kernel) ?_ _
                go_wp2_with fail
                go_meet
                exact ⟨R', s, c', l, d, a', cap', rfl, rfl, HN5.out⟩
              exact AllReadyR.nil
            exact AllReadyR.nil
          by_cases hv2 : v = 2
          · subst hv2
            clear hv0 hv1
            obtain ⟨R', l', e0, x, hS⟩ := pullR_any R kk l
            have HS := Lib.hid hS
            have HNUM := Lib.hid (HNP.out.num.lose HS.out)
            clear hS
            have rp := HNP.out.row
            have hz1 : W.cell? ⟨pd, 1, none⟩ = some (.int .i64 kk) := by rw [cell_of_rowAt hdo]; rfl
            go_wp2_with fail
            refine (rlose_any HNP.out.own (by omega) HS.out HNP.out.num hk1).mono ?_
            rintro e w1 ⟨a', cap', rfl, hown, hb⟩
            have HN1 := Lib.hid (HNP.out.below hb)
            have HO1 := Lib.hid hown
            have hd1 := rowKeep hb hdo
            have HM1 := Lib.hid (HMW.out.below hb)
            have hp1 := rowAt_lt HN1.out.row
            have hpd1 := rowAt_lt hd1
            clear hown hb rp hdo hz0 HNP HMW hpw hz1
            go_upto_region 19 with fail
            obtain ⟨pq, hpq⟩ : ∃ pq, w1.heap.size = pq := ⟨_, rfl⟩
            have hal2 : Below w1.heap.size w1 (w1.alloc (.cells (rnC room a' R'.length cap' s c l' d) 29)) := (Below.refl _ _).alloc (Nat.le_refl _) _
            have HN2 := Lib.hid (HN1.out.below hal2)
            have HO2 := Lib.hid (own_below HO1.out hal2)
            have hd2 := rowKeep hal2 hd1
            have HM2 := Lib.hid (HM1.out.below hal2)
            have hq2 : rowAt (w1.alloc (.cells (rnC room a' R'.length cap' s c l' d) 29)) pq = some ((rnC room a' R'.length cap' s c l' d), 29) := rowAt_alloc_at _ _ _ _ hpq.symm
            rw [hpq] at hp1 hpd1 ⊢
            clear hal2 HN1 HO1 hd1 HM1 hpq
            generalize w1.alloc (.cells (rnC room a' R'.length cap' s c l' d) 29) = W2 at *
            have HN3 : Hid (NPl w W2.drew g q p room R s c l d a cap k) := Lib.hid (HN2.out.below (Below.refl _ _).drew)
            have HO3 : Hid (W2.drew.ownsRow (p + 1) 34 12 (.slice a' R'.length cap') R'.length (msgV R')) := Lib.hid (own_below HO2.out (Below.refl _ _).drew)
            have HM3 : Hid (MsgOk W2.drew m) := Lib.hid (HM2.out.below (Below.refl _ _).drew)
            clear HN2 HO2 HM2
            refine wp_region_late_drew (lt := []) (S := fun w' : World => rowAt w' pq = some ((rnC room a' R'.length cap' s c l' d), 29) ∧ rowAt w' pd = some (doC 2 kk m, 36)) (by kernel_rfl) ⟨hq2, hd2⟩ (fun hS => ?_)
            generalize W2.drew = W3 at *
            clear hq2 hd2
            have hp3 := rowAt_lt HN3.out.row
            refine late_take (i := 0) (lt := []) (rd := [0, 1, 2, 3, 5, 6, 8]) (by simp only [List.getElem?_toArray, List.getElem?_cons_succ, List.getElem?_cons_zero]; rfl) (by decide +kernel) (by decide +kernel) (by decide +kernel) (by decide +kernel) (by decide +kernel) (by exact fun _ _ _ _ h => h) hS (by rfl) ?_
            apply Exists.intro
            refine ⟨fun w' hSw => ?_, ?_⟩
            · have q1 := hSw.1
              go_simp
              with_reducible rfl
            (try simp only [act_put, act_put_none, List.set_cons_zero, List.set_cons_succ])
            refine late_take (i := 1) (lt := []) (rd := [0, 1, 2, 3, 5, 6, 8]) (by simp only [List.getElem?_toArray, List.getElem?_cons_succ, List.getElem?_cons_zero]; rfl) (by decide +kernel) (by decide +kernel) (by decide +kernel) (by decide +kernel) (by decide +kernel) (by exact fun _ _ _ _ h => h) hS (by rfl) ?_
            apply Exists.intro
            refine ⟨fun w' hSw => ?_, ?_⟩
            · go_simp
              with_reducible rfl
            (try simp only [act_put, act_put_none, List.set_cons_zero, List.set_cons_succ])
            refine late_take (i := 2) (lt := []) (rd := [0, 1, 2, 3, 5, 6, 8]) (by simp only [List.getElem?_toArray, List.getElem?_cons_succ, List.getElem?_cons_zero]; rfl) (by decide +kernel) (by decide +kernel) (by decide +kernel) (by decide +kernel) (by decide +kernel) (by exact fun _ _ _ _ h => h) hS (by rfl) ?_
            apply Exists.intro
            refine ⟨fun w' hSw => ?_, ?_⟩
            · go_simp
              with_reducible rfl
            (try simp only [act_put, act_put_none, List.set_cons_zero, List.set_cons_succ])
            refine late_take (i := 3) (lt := []) (rd := [0, 1, 2, 3, 5, 6, 8]) (by simp only [List.getElem?_toArray, List.getElem?_cons_succ, List.getElem?_cons_zero]; rfl) (by decide +kernel) (by decide +kernel) (by decide +kernel) (by decide +kernel) (by decide +kernel) (by exact fun _ _ _ _ h => h) hS (by rfl) ?_
            apply Exists.intro
            refine ⟨fun w' hSw => ?_, ?_⟩
            · have q1 : w'.cell? ⟨pd, 1, none⟩ = some (.int .i64 kk) := by rw [cell_of_rowAt hSw.2]; rfl
              go_simp
              with_reducible rfl
            (try simp only [act_put, act_put_none, List.set_cons_zero, List.set_cons_succ])
            refine late_take (i := 5) (lt := []) (rd := [0, 1, 2, 3, 5, 6, 8]) (by simp only [List.getElem?_toArray, List.getElem?_cons_succ, List.getElem?_cons_zero]; rfl) (by decide +kernel) (by decide +kernel) (by decide +kernel) (by decide +kernel) (by decide +kernel) (by exact fun _ _ _ _ h => h) hS (by rfl) ?_
            apply Exists.intro
            refine ⟨fun w' hSw => ?_, ?_⟩
            · go_simp
              with_reducible rfl
            (try simp only [act_put, act_put_none, List.set_cons_zero, List.set_cons_succ])
            refine wpAnyR_ready (rs := [4]) (by decide +kernel) (by simp) ?_
            refine AllReadyR.cons (i := 4) (by simp only [List.getElem?_toArray, List.getElem?_cons_succ, List.getElem?_cons_zero]; rfl) (fun K hK => ?_) ?_
            · go_simp
              go_at_call 13
              refine (nlose_any HN3.out.net HS.out HN3.out.num hk1 (fun b hb => by show b ≠ p; omega)).mono ?_
              rintro e w4 ⟨rfl, hn, ht⟩
              go_simp
              have hS9 := And.intro (ht.row (show pq ≠ g by omega) (show pq ≠ q by omega) hS.1) (ht.row (show pd ≠ g by omega) (show pd ≠ q by omega) hS.2)
              have hrp := ht.row (show p ≠ g by omega) (show p ≠ q by omega) HN3.out.row
              have HNT4 := Lib.hid hn
              have HO4 := Lib.hid (own_twob HO3.out ht (show g < p + 1 by omega) (show q < p + 1 by omega))
              have HB4 := Lib.hid (ht.below HN3.out.bel hq)
              refine hK.out _ _ hS9 (fun hS2 => ?_)
              clear hS hK K hn ht hS2 HN3 HO3 HM3 hp3
              have hS := hS9
              clear hS9
              (try simp only [act_put, act_put_none, List.set_cons_zero, List.set_cons_succ])
              refine late_take (i := 6) (lt := []) (rd := [0, 1, 2, 3, 5, 6, 8]) (by simp only [List.getElem?_toArray, List.getElem?_cons_succ, List.getElem?_cons_zero]; rfl) (by decide +kernel) (by decide +kernel) (by decide +kernel) (by decide +kernel) (by decide +kernel) (by exact fun _ _ _ _ h => h) hS (by rfl) ?_
              apply Exists.intro
              refine ⟨fun w' hSw => ?_, ?_⟩
              · go_simp
                with_reducible rfl
              (try simp only [act_put, act_put_none, List.set_cons_zero, List.set_cons_succ])
              refine wpAnyR_ready (rs := [7]) (by decide +kernel) (by simp) ?_
              refine AllReadyR.cons (i := 7) (by simp only [List.getElem?_toArray, List.getElem?_cons_succ, List.getElem?_cons_zero]; rfl) (fun K hK => ?_) ?_
              · go_simp
                have hon : Only p w4 (w4.setRow p (rnC room a' R'.length cap' s c l' d)) := onlyRow _
                have hS9 := And.intro (hon.row (show pq ≠ p by omega) hS.1) (hon.row (show pd ≠ p by omega) hS.2)
                have HN5 : Hid (NPl w (w4.setRow p (rnC room a' R'.length cap' s c l' d)) g q p room R' s c l' d a' cap' (k + 1)) := Lib.hid ⟨HNT4.out.store (by omega) (by omega) _, own_setRow HO4.out (by omega) _, rowAt_setRow_same _ hrp, below_setRow' HB4.out (show w.heap.size ≤ p by omega) _, HNUM.out⟩
                refine hK.out _ _ hS9 (fun hS2 => ?_)
                clear hS hK K hon hS2 HNT4 HO4 HB4 hrp
                have hS := hS9
                clear hS9
                (try simp only [act_put, act_put_none, List.set_cons_zero, List.set_cons_succ])
                refine late_take (i := 8) (lt := []) (rd := [0, 1, 2, 3, 5, 6, 8]) (by simp only [List.getElem?_toArray, List.getElem?_cons_succ, List.getElem?_cons_zero]; rfl) (by decide +kernel) (by decide +kernel) (by decide +kernel) (by decide +kernel) (by decide +kernel) (by exact fun _ _ _ _ h => h) hS (by rfl) ?_
                apply Exists.intro
                refine ⟨fun w' hSw => ?_, ?_⟩
                · go_simp
                  with_reducible rfl
                (try simp only [act_put, act_put_none, List.set_cons_zero, List.set_cons_succ])
                refine wpAnyR_done (by decide +kernel) ?_ _
                go_wp2_with fail
                go_meet
                exact ⟨R', s, c, l', d, a', cap', rfl, rfl, HN5.out⟩
              exact AllReadyR.nil
            exact AllReadyR.nil
          by_cases hv3 : v = 3
          · subst hv3
            clear hv0 hv1 hv2
            obtain ⟨R', d', e0, hS⟩ := twiceR_any room R kk d
            have HS := Lib.hid hS
            have HNUM := Lib.hid (HNP.out.num.twice HS.out)
            clear hS
            have rp := HNP.out.row
            have hz1 : W.cell? ⟨pd, 1, none⟩ = some (.int .i64 kk) := by rw [cell_of_rowAt hdo]; rfl
            go_wp2_with fail
            refine (rtwice_any HNP.out.own (by omega) HS.out HNP.out.num hk1).mono ?_
            rintro e w1 ⟨a', cap', rfl, hown, hb⟩
            have HN1 := Lib.hid (HNP.out.below hb)
            have HO1 := Lib.hid hown
            have hd1 := rowKeep hb hdo
            have HM1 := Lib.hid (HMW.out.below hb)
            have hp1 := rowAt_lt HN1.out.row
            have hpd1 := rowAt_lt hd1
            clear hown hb rp hdo hz0 HNP HMW hpw hz1
            go_upto_region 22 with fail
            obtain ⟨pq, hpq⟩ : ∃ pq, w1.heap.size = pq := ⟨_, rfl⟩
            have hal2 : Below w1.heap.size w1 (w1.alloc (.cells (rnC room a' R'.length cap' s c l d') 29)) := (Below.refl _ _).alloc (Nat.le_refl _) _
            have HN2 := Lib.hid (HN1.out.below hal2)
            have HO2 := Lib.hid (own_below HO1.out hal2)
            have hd2 := rowKeep hal2 hd1
            have HM2 := Lib.hid (HM1.out.below hal2)
            have hq2 : rowAt (w1.alloc (.cells (rnC room a' R'.length cap' s c l d') 29)) pq = some ((rnC room a' R'.length cap' s c l d'), 29) := rowAt_alloc_at _ _ _ _ hpq.symm
            rw [hpq] at hp1 hpd1 ⊢
            clear hal2 HN1 HO1 hd1 HM1 hpq
            generalize w1.alloc (.cells (rnC room a' R'.length cap' s c l d') 29) = W2 at *
            have HN3 : Hid (NPl w W2.drew g q p room R s c l d a cap k) := Lib.hid (HN2.out.below (Below.refl _ _).drew)
            have HO3 : Hid (W2.drew.ownsRow (p + 1) 34 12 (.slice a' R'.length cap') R'.length (msgV R')) := Lib.hid (own_below HO2.out (Below.refl _ _).drew)
            have HM3 : Hid (MsgOk W2.drew m) := Lib.hid (HM2.out.below (Below.refl _ _).drew)
            clear HN2 HO2 HM2
            refine wp_region_late_drew (lt := []) (S := fun w' : World => rowAt w' pq = some ((rnC room a' R'.length cap' s c l d'), 29) ∧ rowAt w' pd = some (doC 3 kk m, 36)) (by kernel_rfl) ⟨hq2, hd2⟩ (fun hS => ?_)
            generalize W2.drew = W3 at *
            clear hq2 hd2
            have hp3 := rowAt_lt HN3.out.row
            refine late_take (i := 0) (lt := []) (rd := [0, 1, 2, 3, 5, 6, 8]) (by simp only [List.getElem?_toArray, List.getElem?_cons_succ, List.getElem?_cons_zero]; rfl) (by decide +kernel) (by decide +kernel) (by decide +kernel) (by decide +kernel) (by decide +kernel) (by exact fun _ _ _ _ h => h) hS (by rfl) ?_
            apply Exists.intro
            refine ⟨fun w' hSw => ?_, ?_⟩
            · have q1 := hSw.1
              go_simp
              with_reducible rfl
            (try simp only [act_put, act_put_none, List.set_cons_zero, List.set_cons_succ])
            refine late_take (i := 1) (lt := []) (rd := [0, 1, 2, 3, 5, 6, 8]) (by simp only [List.getElem?_toArray, List.getElem?_cons_succ, List.getElem?_cons_zero]; rfl) (by decide +kernel) (by decide +kernel) (by decide +kernel) (by decide +kernel) (by decide +kernel) (by exact fun _ _ _ _ h => h) hS (by rfl) ?_
            apply Exists.intro
            refine ⟨fun w' hSw => ?_, ?_⟩
            · go_simp
              with_reducible rfl
            (try simp only [act_put, act_put_none, List.set_cons_zero, List.set_cons_succ])
            refine late_take (i := 2) (lt := []) (rd := [0, 1, 2, 3, 5, 6, 8]) (by simp only [List.getElem?_toArray, List.getElem?_cons_succ, List.getElem?_cons_zero]; rfl) (by decide +kernel) (by decide +kernel) (by decide +kernel) (by decide +kernel) (by decide +kernel) (by exact fun _ _ _ _ h => h) hS (by rfl) ?_
            apply Exists.intro
            refine ⟨fun w' hSw => ?_, ?_⟩
            · go_simp
              with_reducible rfl
            (try simp only [act_put, act_put_none, List.set_cons_zero, List.set_cons_succ])
            refine late_take (i := 3) (lt := []) (rd := [0, 1, 2, 3, 5, 6, 8]) (by simp only [List.getElem?_toArray, List.getElem?_cons_succ, List.getElem?_cons_zero]; rfl) (by decide +kernel) (by decide +kernel) (by decide +kernel) (by decide +kernel) (by decide +kernel) (by exact fun _ _ _ _ h => h) hS (by rfl) ?_
            apply Exists.intro
            refine ⟨fun w' hSw => ?_, ?_⟩
            · have q1 : w'.cell? ⟨pd, 1, none⟩ = some (.int .i64 kk) := by rw [cell_of_rowAt hSw.2]; rfl
              go_simp
              with_reducible rfl
            (try simp only [act_put, act_put_none, List.set_cons_zero, List.set_cons_succ])
            refine late_take (i := 5) (lt := []) (rd := [0, 1, 2, 3, 5, 6, 8]) (by simp only [List.getElem?_toArray, List.getElem?_cons_succ, List.getElem?_cons_zero]; rfl) (by decide +kernel) (by decide +kernel) (by decide +kernel) (by decide +kernel) (by decide +kernel) (by exact fun _ _ _ _ h => h) hS (by rfl) ?_
            apply Exists.intro
            refine ⟨fun w' hSw => ?_, ?_⟩
            · go_simp
              with_reducible rfl
            (try simp only [act_put, act_put_none, List.set_cons_zero, List.set_cons_succ])
            refine wpAnyR_ready (rs := [4]) (by decide +kernel) (by simp) ?_
            refine AllReadyR.cons (i := 4) (by simp only [List.getElem?_toArray, List.getElem?_cons_succ, List.getElem?_cons_zero]; rfl) (fun K hK => ?_) ?_
            · go_simp
              go_at_call 15
              refine (ntwice_any HN3.out.net HS.out HN3.out.num hk1 (fun b hb => by show b ≠ p; omega)).mono ?_
              rintro e w4 ⟨rfl, hn, ht⟩
              go_simp
              have hS9 := And.intro (ht.row (show pq ≠ g by omega) (show pq ≠ q by omega) hS.1) (ht.row (show pd ≠ g by omega) (show pd ≠ q by omega) hS.2)
              have hrp := ht.row (show p ≠ g by omega) (show p ≠ q by omega) HN3.out.row
              have HNT4 := Lib.hid hn
              have HO4 := Lib.hid (own_twob HO3.out ht (show g < p + 1 by omega) (show q < p + 1 by omega))
              have HB4 := Lib.hid (ht.below HN3.out.bel hq)
              refine hK.out _ _ hS9 (fun hS2 => ?_)
              clear hS hK K hn ht hS2 HN3 HO3 HM3 hp3
              have hS := hS9
              clear hS9
              (try simp only [act_put, act_put_none, List.set_cons_zero, List.set_cons_succ])
              refine late_take (i := 6) (lt := []) (rd := [0, 1, 2, 3, 5, 6, 8]) (by simp only [List.getElem?_toArray, List.getElem?_cons_succ, List.getElem?_cons_zero]; rfl) (by decide +kernel) (by decide +kernel) (by decide +kernel) (by decide +kernel) (by decide +kernel) (by exact fun _ _ _ _ h => h) hS (by rfl) ?_
              apply Exists.intro
              refine ⟨fun w' hSw => ?_, ?_⟩
              · go_simp
                with_reducible rfl
              (try simp only [act_put, act_put_none, List.set_cons_zero, List.set_cons_succ])
              refine wpAnyR_ready (rs := [7]) (by decide +kernel) (by simp) ?_
              refine AllReadyR.cons (i := 7) (by simp only [List.getElem?_toArray, List.getElem?_cons_succ, List.getElem?_cons_zero]; rfl) (fun K hK => ?_) ?_
              · go_simp
                have hon : Only p w4 (w4.setRow p (rnC room a' R'.length cap' s c l d')) := onlyRow _
                have hS9 := And.intro (hon.row (show pq ≠ p by omega) hS.1) (hon.row (show pd ≠ p by omega) hS.2)
                have HN5 : Hid (NPl w (w4.setRow p (rnC room a' R'.length cap' s c l d')) g q p room R' s c l d' a' cap' (k + 1)) := Lib.hid ⟨HNT4.out.store (by omega) (by omega) _, own_setRow HO4.out (by omega) _, rowAt_setRow_same _ hrp, below_setRow' HB4.out (show w.heap.size ≤ p by omega) _, HNUM.out⟩
                refine hK.out _ _ hS9 (fun hS2 => ?_)
                clear hS hK K hon hS2 HNT4 HO4 HB4 hrp
                have hS := hS9
                clear hS9
                (try simp only [act_put, act_put_none, List.set_cons_zero, List.set_cons_succ])
                refine late_take (i := 8) (lt := []) (rd := [0, 1, 2, 3, 5, 6, 8]) (by simp only [List.getElem?_toArray, List.getElem?_cons_succ, List.getElem?_cons_zero]; rfl) (by decide +kernel) (by decide +kernel) (by decide +kernel) (by decide +kernel) (by decide +kernel) (by exact fun _ _ _ _ h => h) hS (by rfl) ?_
                apply Exists.intro
                refine ⟨fun w' hSw => ?_, ?_⟩
                · go_simp
                  with_reducible rfl
                (try simp only [act_put, act_put_none, List.set_cons_zero, List.set_cons_succ])
                refine wpAnyR_done (by decide +kernel) ?_ _
                go_wp2_with fail
                go_meet
                exact ⟨R', s, c, l, d', a', cap', rfl, rfl, HN5.out⟩
              exact AllReadyR.nil
            exact AllReadyR.nil
          have k0 : (v == 0) = false := by simpa using hv0
          have k1 : (v == 1) = false := by simpa using hv1
          have k2 : (v == 2) = false := by simpa using hv2
          have k3 : (v == 3) = false := by simpa using hv3
          clear hv0 hv1 hv2 hv3
          have HNS : Hid (NPl w W g q p room R s c l d a cap (k + 1)) := Lib.hid ⟨HNP.out.net, HNP.out.own, HNP.out.row, HNP.out.bel, HNP.out.num.step⟩
          go_wp2_with fail
          go_meet
          exact ⟨R, s, c, l, d, a, cap, rfl, rfl, HNS.out⟩
        case rest =>
          obtain ⟨R', s', c', l', d', a', cap', rfl, rfl, hnp⟩ := hcut
          rename World => wc
          have HN := Lib.hid hnp
          clear hnp HNP HMW hdo hpw
          go_wp2_with fail
          refine (counts_any HN.out.net).mono ?_
          rintro e w5 ⟨rfl, hb⟩
          have HN5 := Lib.hid (HN.out.below hb)
          clear hb HN
          go_upto_region 24 with fail
          obtain ⟨pc, hpc⟩ : ∃ pc, w5.heap.size = pc := ⟨_, rfl⟩
          have hal : Below w5.heap.size w5 (w5.alloc (.cells #[.int .i64 s', .int .i64 c', .int .i64 l', .int .i64 d'] 49)) := (Below.refl _ _).alloc (Nat.le_refl _) _
          have HN6 := Lib.hid (HN5.out.below hal)
          have hc6 : rowAt (w5.alloc (.cells #[.int .i64 s', .int .i64 c', .int .i64 l', .int .i64 d'] 49)) pc = some (#[.int .i64 s', .int .i64 c', .int .i64 l', .int .i64 d'], 49) := rowAt_alloc_at _ _ _ _ hpc.symm
          rw [hpc]
          clear hal HN5 hpc
          generalize w5.alloc (.cells #[.int .i64 s', .int .i64 c', .int .i64 l', .int .i64 d'] 49) = W6 at *
          have hr6 := HN6.out.row
          have hpc6 := rowAt_lt hc6
          have hp6 := rowAt_lt hr6
          have e0 : W6.cell? ⟨pc, 0, none⟩ = some (.int .i64 s') := by rw [cell_of_rowAt hc6]; rfl
          have e1 : W6.cell? ⟨pc, 1, none⟩ = some (.int .i64 c') := by rw [cell_of_rowAt hc6]; rfl
          have e2 : W6.cell? ⟨pc, 2, none⟩ = some (.int .i64 l') := by rw [cell_of_rowAt hc6]; rfl
          have e3 : W6.cell? ⟨pc, 3, none⟩ = some (.int .i64 d') := by rw [cell_of_rowAt hc6]; rfl
          have f1 : W6.cell? ⟨p, 1, none⟩ = some (.slice a' R'.length cap') := by rw [cell_of_rowAt hr6]; rfl
          have f2 : W6.cell? ⟨p, 2, none⟩ = some (.int .i64 s') := by rw [cell_of_rowAt hr6]; rfl
          have f3 : W6.cell? ⟨p, 3, none⟩ = some (.int .i64 c') := by rw [cell_of_rowAt hr6]; rfl
          have f4 : W6.cell? ⟨p, 4, none⟩ = some (.int .i64 l') := by rw [cell_of_rowAt hr6]; rfl
          have f5 : W6.cell? ⟨p, 5, none⟩ = some (.int .i64 d') := by rw [cell_of_rowAt hr6]; rfl
          have i0 := HN6.out.num.s0
          have i1 := HN6.out.num.c0
          have i2 := HN6.out.num.l0
          have i3 := HN6.out.num.d0
          have i4 := HN6.out.num.len
          have isum := HN6.out.num.sum
          have e9 : ((s' + d') != (c' + l' + (R'.length : Int))) = false := by rw [isum]; simp
          clear isum hc6 hr6
          refine region_quiet (by kernel_rfl) (by kernel_rfl) ?_
          repeat (go_big_quiet_step ((go_at_call 17; exact quiet_call (by simp) (len_c (HN6.out.net.below (Later.below _)) (psOf_len _)))))
          refine wpQuiet_nil ?_
          intro w7 hb7
          have HN7 := Lib.hid (HN6.out.below hb7)
          clear hb7 HN6 e0 e1 e2 e3 f1 f2 f3 f4 f5
          go_wp2_with fail
          go_roundw
          case rel => exact ⟨k + 1, R', s', c', l', d', a', cap', by omega, by go_num, HN7.out⟩
          case measure => simp [intOf]; omega
      · obtain rfl : k = n := by omega
        have HB9 := Lib.hid HNP0.out.bel
        clear HNP0
        go_wp2_with fail
        refine (awake15 _).mono ?_
        rintro e wz ⟨rfl, hb⟩
        have HBZ := Lib.hid (bthen HB9.out hb)
        clear hb
        go_wp2
        go_ret
        exact ⟨rfl, HBZ.out⟩
end Go.Proofs.YtlocoieknabiaaaGreat
