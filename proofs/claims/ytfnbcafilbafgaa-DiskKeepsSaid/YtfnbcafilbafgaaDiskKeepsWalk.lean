/-
  The walk of DiskKeeps.
-/
import Derived.Test.YtfnbcafilbafgaaDiskPlay
namespace Go.Proofs.Ytfnbcafilbafgaa
open Go.RowKit
set_option linter.unusedSimpArgs false
attribute [local go_sem] rowCells rowAt_alloc rowAt_drew rowAt_setRow rowAt_setCell setRow_alloc load_ref store_ref cut3 splice3 load_dstp store_dstp cut4d splice4d
attribute [local go_sem ↓] xstore_ref xload_ref xalloc_ref xload_do11 xstore_do11 xalloc_do11
set_option maxRecDepth 10000 in
set_option maxHeartbeats 4000000 in
theorem diskKeeps_walk (n : Int) (_hn : -9223372036854775808 ≤ n ∧ n ≤ 9223372036854775807) (A : Option Addr) (c L : Nat) (E : Nat → Stp) (hm : L ≤ 9223372036854775807 ∧ (A = none → c = 0 ∧ L = 0) ∧ L ≤ c) (ca : Int) (_hca : -9223372036854775808 ≤ ca ∧ ca ≤ 9223372036854775807) (cb : Int) (_hcb : -9223372036854775808 ≤ cb ∧ cb ≤ 9223372036854775807) (w : World) (hT : Steps w A L E) :
    Calls Try.prog 5 #[.int .i64 n, .slice A L c, .int .i64 ca, .int .i64 cb] w fun e w' => e = .returned (.bool true) ∧ Below w.heap.size w w' := by
  obtain ⟨hm1, _, hm3⟩ := hm
  have HT := Lib.hid hT
  clear hT _hn _hca _hcb
  go_enter Try.func5, Try.ntmps5
  by_cases hbad : n < 0 ∨ 16384 < n
  · go_wp2_with fail
    refine (dnew_none n hbad w).mono ?_
    rintro e _ ⟨rfl, rfl⟩
    go_wp2_with fail
    refine (awake11 _).mono ?_
    rintro e w9 ⟨rfl, hb9⟩
    have HB9 := Lib.hid hb9
    clear hb9
    go_wp2_with fail
    go_ret
    exact ⟨rfl, HB9.out⟩
  · have h0 : 0 ≤ n := by omega
    have h1 : n ≤ 16384 := by omega
    go_wp2_with fail
    refine (dnew_any n h0 h1 w).mono ?_
    rintro e w1 ⟨p, rfl, hd, hp, hb⟩
    have HD := Lib.hid hd
    have HB := Lib.hid hb
    clear hd hb
    go_wp2_with fail
    refine (few_any A c L E hm1 hm3 w1 (HT.out.below HB.out)).mono ?_
    rintro e w2 ⟨b, rfl, hfew, hb⟩
    have HB2 := Lib.hid (bthen HB.out hb)
    have HD2 := Lib.hid (HD.out.below hb)
    clear hb HB HD
    cases b with
    | false =>
      go_wp2_with fail
      refine (awake11 _).mono ?_
      rintro e w9 ⟨rfl, hb9⟩
      have HB9 := Lib.hid (bthen HB2.out hb9)
      clear hb9
      go_wp2_with fail
      go_ret
      exact ⟨rfl, HB9.out⟩
    | true =>
      have HF := Lib.hid (hfew rfl)
      clear hfew
      go_upto_region 5 with fail
      obtain ⟨W, hW⟩ : ∃ W, w2.alloc (.cells #[.int .i64 (64 * n), .int .i64 0, .slice none 0 0] 35) = W := ⟨_, rfl⟩
      obtain ⟨g, hg⟩ : ∃ g, w2.heap.size = g := ⟨_, rfl⟩
      have hrow : rowAt W g = some (#[.int .i64 (64 * n), .int .i64 0, .slice none 0 0], 35) := by rw [← hW]; exact rowAt_alloc_at _ _ _ _ hg.symm
      have HRK : Hid (RK W g (n * 64) [] 0) := Lib.hid (by rw [Int.mul_comm]; exact RK.mk hrow rfl rfl (IsBy.nil _ _) (Nat.zero_le _) (fun _ => rfl))
      have HDW : Hid (DK W p (n * 64) [] 0) := Lib.hid (by rw [← hW]; exact HD2.out.below ((Below.refl _ _).alloc (Nat.le_refl _) _))
      have HBW : Hid (Below w.heap.size w W) := Lib.hid (by rw [← hW]; exact HB2.out.alloc HB2.out.size _)
      have hpg : p < g := by rw [← hg]; exact HD2.out.lt
      rw [hW, hg]
      clear hrow hW hg HB2 HD2
      go_wp2_with fail
      go_loopw [31] (fun i w' => ∃ (k : Nat) (l : List UInt8) (f : Nat), k ≤ L ∧ i = .int .i64 k ∧ DK w' p (n * 64) l f ∧ RK w' g (n * 64) l f ∧ (l.length : Int) ≤ n * 64 ∧ f ≤ l.length ∧ Below w.heap.size w w') (fun i _ => L - (intOf i).toNat)
      case atStart => exact ⟨0, [], 0, Nat.zero_le _, rfl, HDW.out, HRK.out, by simp; omega, Nat.le_refl _, HBW.out⟩
      case round =>
        rename World => wr
        obtain ⟨k, l, f, hk, rfl, hd, hrk, hll, hfl, hb⟩ := hrel
        have HB2 := Lib.hid hb
        have HD2 := Lib.hid hd
        clear hb hd HBW HDW HRK
        by_cases hlt : k < L
        · obtain ⟨b, o, rfl, hcell⟩ := (HT.out.below HB2.out).cell k hlt
          have hld : loadAgg Try.prog wr 37 (.pointer (some ⟨b, o + k * 4, none⟩)) = .ok (.value (.agg #[.int .i64 (E k).v, .int .i64 (E k).n, .int .i64 (E k).m, .slice (E k).a (E k).t.length (E k).c])) wr := load_step hcell
          have hby := (HT.out.below HB2.out).by_ k hlt
          have hcap := HT.out.cap k hlt
          have hnil := HT.out.nil k hlt
          have h4 := HF.out.2 k hlt
          clear hcell
          obtain ⟨z, hz⟩ : ∃ z, E k = z := ⟨_, rfl⟩
          rw [hz] at hld hby hcap hnil h4
          clear hz
          obtain ⟨zv, zn, zm, za, zc, zt⟩ := z
          obtain ⟨AR, cR, hrow, hR, hRc, hRn⟩ := hrk
          have HBY := Lib.hid hby
          have HNIL := Lib.hid hnil
          have HR := Lib.hid hR
          have HRN := Lib.hid hRn
          clear hby hnil hR hRn
          go_upto_region 8 with fail
          obtain ⟨W3, hW3⟩ : ∃ W3, wr.alloc (.cells #[.int .i64 zv, .int .i64 zn, .int .i64 zm, .slice za zt.length zc] 37) = W3 := ⟨_, rfl⟩
          obtain ⟨h8, hh8⟩ : ∃ h8, wr.heap.size = h8 := ⟨_, rfl⟩
          have hb3 : Below wr.heap.size wr W3 := by rw [← hW3]; exact (Below.refl _ _).alloc (Nat.le_refl _) _
          have hrow8 : rowAt W3 h8 = some (#[.int .i64 zv, .int .i64 zn, .int .i64 zm, .slice za zt.length zc], 37) := by rw [← hW3]; exact rowAt_alloc_at _ _ _ _ hh8.symm
          have hrow3 := rowKeep hb3 hrow
          have HD3 := Lib.hid (HD2.out.below hb3)
          have HB3 := Lib.hid (bthen HB2.out hb3)
          have HR3 := Lib.hid (HR.out.below hb3)
          have HBY3 := Lib.hid (HBY.out.below hb3)
          have HPG := Lib.hid hpg
          rw [hW3, hh8]
          clear hW3 hh8 hb3 hrow HD2 HB2 HR HBY hld
          go_wp2_with fail
          refine (does_any HD3.out HR3.out hRc HRN.out HBY3.out hcap HNIL.out (by omega) (by omega) hll hll hfl hfl h4 rfl rfl rfl rfl).mono ?_
          rintro e w4 ⟨A', c', ok, rfl, hR, hRc', hRn, hd, hbt, hok⟩
          obtain rfl : ok = true := hok rfl rfl
          have hLs := stepL_len (l := l) (t := zt) (f := f) (V := zv) (N := zn) (M := zm) hll
          have hFl := stepF_le (s := n * 64) (l := l) (t := zt) (V := zv) (N := zn) (M := zm) hfl
          generalize stepL (n * 64) l f zv zn zm zt = l1 at *
          generalize stepF (n * 64) l f zv zn zm zt = f1 at *
          have hg4 : rowAt w4 g = some (#[.int .i64 (n * 64), .int .i64 f, .slice AR l.length cR], 35) := (hbt.row (rowAt_lt hrow3) (by have := HPG.out; omega)).trans hrow3
          have HB4 := Lib.hid (HB3.out.trans (hbt.below hp HB3.out.size))
          have HD4 := Lib.hid hd
          have HR4 := Lib.hid hR
          have HRN4 := Lib.hid hRn
          clear hok hd hbt hrow3 hrow8 HD3 HB3 HR3 HBY3 hR hRn hcap h4
          go_upto_region 9 with fail
          obtain ⟨hrk, hd6, hb6⟩ := RK.set (s := n * 64) (f := f1) hg4 rfl HD4.out (by have := HPG.out; omega) HR4.out hRc' HRN4.out
          have HB6 := Lib.hid (HB4.out.trans (hb6.below (by have := HPG.out; omega) HB4.out.size))
          have HRK6 := Lib.hid hrk
          have HD6 := Lib.hid hd6
          generalize w4.setRow g #[.int .i64 (n * 64), .int .i64 f1, .slice A' l1.length c'] = W6 at *
          clear hg4 HD4 HB4 HR4 hb6 hRc' HRN4 hrk hd6
          go_wp2_with fail
          go_roundw
          case rel => exact ⟨k + 1, l1, f1, by omega, by go_num, HD6.out, HRK6.out, hLs, hFl, HB6.out⟩
          case measure => simp [intOf]; omega
        · obtain rfl : k = L := by omega
          clear hrk
          go_wp2_with fail
          refine (dbytes_any HD2.out (by omega)).mono ?_
          rintro e w3 ⟨gw, rfl, hr, hgw, hb⟩
          have HWAS := Lib.hid (isBy_full hr)
          have HD3 := Lib.hid (HD2.out.below hb)
          have HB3 := Lib.hid (bthen HB2.out hb)
          have hpw : p < gw := Nat.lt_of_lt_of_le HD2.out.lt hgw
          clear hr hb HD2 HB2
          go_wp2_with fail
          refine (dsafe_any HD3.out).mono ?_
          rintro e _ ⟨rfl, rfl⟩
          go_wp2_with fail
          refine (crash_cut ca cb HD3.out hfl (by omega)).mono ?_
          rintro e w4 ⟨l2, rfl, hd, hl2, hl3, hl4, _, hbt⟩
          have HD4 := Lib.hid hd
          have HB4 := Lib.hid (HB3.out.trans (hbt.below hp HB3.out.size))
          have HWAS4 : Hid (IsBy w4 (some ⟨gw, 0, none⟩) l2) := Lib.hid (by rw [hl2]; exact (HWAS.out.bt HD3.out hbt).take _)
          clear hd hbt HD3 HB3 HWAS hl2
          go_wp2_with fail
          refine (dbytes_any HD4.out (by omega)).mono ?_
          rintro e w5 ⟨gn, rfl, hr, _, hb⟩
          have HNOW := Lib.hid (isBy_full hr)
          have HD5 := Lib.hid (HD4.out.below hb)
          have HB5 := Lib.hid (bthen HB4.out hb)
          have HWAS5 := Lib.hid (HWAS4.out.below hb)
          clear hr hb HD4 HB4 HWAS4
          have k1 : decide ((f : Int) ≤ (l2.length : Int)) = true := decide_eq_true (by omega)
          have k2 : decide ((l2.length : Int) ≤ (l.length : Int)) = true := decide_eq_true (by omega)
          go_upto_region 13 with fail
          refine wp_region_held_drew (S := fun w' : World => IsBy w' (some ⟨gw, 0, none⟩) l2 ∧ IsBy w' (some ⟨gn, 0, none⟩) l2 ∧ DK w' p (n * 64) l2 l2.length ∧ Hid (Below w.heap.size w w')) (by kernel_rfl) ⟨HWAS5.out.below (Below.refl _ _).drew, HNOW.out.below (Below.refl _ _).drew, HD5.out.below (Below.refl _ _).drew, Lib.hid HB5.out.drew⟩ (fun hS => ?_)
          clear HWAS5 HNOW HD5 HB5
          generalize w5.drew = W7 at *
          refine held_take (i := 0) (by simp only [List.getElem?_toArray, List.getElem?_cons_succ, List.getElem?_cons_zero]; rfl) (by decide +kernel) (by decide +kernel) (by decide +kernel) (by exact fun _ _ _ _ h => h) hS (by rfl) ?_
          apply Exists.intro
          refine ⟨fun w' hSw => ?_, ?_⟩
          · go_simp
            with_reducible rfl
          (try simp only [act_put, act_put_none, List.set_cons_zero, List.set_cons_succ])
          refine held_take (i := 1) (by simp only [List.getElem?_toArray, List.getElem?_cons_succ, List.getElem?_cons_zero]; rfl) (by decide +kernel) (by decide +kernel) (by decide +kernel) (by exact fun _ _ _ _ h => h) hS (by rfl) ?_
          apply Exists.intro
          refine ⟨fun w' hSw => ?_, ?_⟩
          · go_simp
            with_reducible rfl
          (try simp only [act_put, act_put_none, List.set_cons_zero, List.set_cons_succ])
          refine held_take (i := 2) (by simp only [List.getElem?_toArray, List.getElem?_cons_succ, List.getElem?_cons_zero]; rfl) (by decide +kernel) (by decide +kernel) (by decide +kernel) (by exact fun _ _ _ _ h => h) hS (by rfl) ?_
          apply Exists.intro
          refine ⟨fun w' hSw => ?_, ?_⟩
          · go_simp
            with_reducible rfl
          (try simp only [act_put, act_put_none, List.set_cons_zero, List.set_cons_succ])
          refine held_take (i := 3) (by simp only [List.getElem?_toArray, List.getElem?_cons_succ, List.getElem?_cons_zero]; rfl) (by decide +kernel) (by decide +kernel) (by decide +kernel) (by exact fun _ _ _ _ h => h) hS (by rfl) ?_
          apply Exists.intro
          refine ⟨fun w' hSw => ?_, ?_⟩
          · go_simp
            with_reducible rfl
          (try simp only [act_put, act_put_none, List.set_cons_zero, List.set_cons_succ])
          refine held_take (i := 4) (by simp only [List.getElem?_toArray, List.getElem?_cons_succ, List.getElem?_cons_zero]; rfl) (by decide +kernel) (by decide +kernel) (by decide +kernel) (by exact fun _ _ _ _ h => h) hS (by rfl) ?_
          apply Exists.intro
          refine ⟨fun w' hSw => ?_, ?_⟩
          · go_simp
            with_reducible rfl
          (try simp only [act_put, act_put_none, List.set_cons_zero, List.set_cons_succ])
          refine held_take (i := 5) (by simp only [List.getElem?_toArray, List.getElem?_cons_succ, List.getElem?_cons_zero]; rfl) (by decide +kernel) (by decide +kernel) (by decide +kernel) (by exact fun _ _ _ _ h => h) hS (by rfl) ?_
          apply Exists.intro
          refine ⟨fun w' hSw => ?_, ?_⟩
          · go_simp
            with_reducible rfl
          (try simp only [act_put, act_put_none, List.set_cons_zero, List.set_cons_succ])
          refine held_take (i := 6) (by simp only [List.getElem?_toArray, List.getElem?_cons_succ, List.getElem?_cons_zero]; rfl) (by decide +kernel) (by decide +kernel) (by decide +kernel) (by exact fun _ _ _ _ h => h) hS (by rfl) ?_
          apply Exists.intro
          refine ⟨fun w' hSw => ?_, ?_⟩
          · go_simp
            with_reducible rfl
          (try simp only [act_put, act_put_none, List.set_cons_zero, List.set_cons_succ])
          refine held_take (i := 7) (by simp only [List.getElem?_toArray, List.getElem?_cons_succ, List.getElem?_cons_zero]; rfl) (by decide +kernel) (by decide +kernel) (by decide +kernel) (by exact fun _ _ _ _ h => h) hS (by rfl) ?_
          apply Exists.intro
          refine ⟨fun w' hSw => ?_, ?_⟩
          · go_simp
            with_reducible rfl
          (try simp only [act_put, act_put_none, List.set_cons_zero, List.set_cons_succ])
          refine held_take (i := 8) (by simp only [List.getElem?_toArray, List.getElem?_cons_succ, List.getElem?_cons_zero]; rfl) (by decide +kernel) (by decide +kernel) (by decide +kernel) (by exact fun _ _ _ _ h => h) hS (by rfl) ?_
          apply Exists.intro
          refine ⟨fun w' hSw => ?_, ?_⟩
          · go_simp
            with_reducible rfl
          (try simp only [act_put, act_put_none, List.set_cons_zero, List.set_cons_succ])
          refine held_take (i := 9) (by simp only [List.getElem?_toArray, List.getElem?_cons_succ, List.getElem?_cons_zero]; rfl) (by decide +kernel) (by decide +kernel) (by decide +kernel) (by exact fun _ _ _ _ h => h) hS (by rfl) ?_
          apply Exists.intro
          refine ⟨fun w' hSw => ?_, ?_⟩
          · go_simp
            with_reducible rfl
          (try simp only [act_put, act_put_none, List.set_cons_zero, List.set_cons_succ])
          refine held_take (i := 10) (by simp only [List.getElem?_toArray, List.getElem?_cons_succ, List.getElem?_cons_zero]; rfl) (by decide +kernel) (by decide +kernel) (by decide +kernel) (by exact fun _ _ _ _ h => h) hS (by rfl) ?_
          apply Exists.intro
          refine ⟨fun w' hSw => ?_, ?_⟩
          · go_simp
            with_reducible rfl
          (try simp only [act_put, act_put_none, List.set_cons_zero, List.set_cons_succ])
          refine held_take (i := 11) (by simp only [List.getElem?_toArray, List.getElem?_cons_succ, List.getElem?_cons_zero]; rfl) (by decide +kernel) (by decide +kernel) (by decide +kernel) (by exact fun _ _ _ _ h => h) hS (by rfl) ?_
          apply Exists.intro
          refine ⟨fun w' hSw => ?_, ?_⟩
          · go_simp
            with_reducible rfl
          (try simp only [act_put, act_put_none, List.set_cons_zero, List.set_cons_succ])
          refine held_take (i := 12) (by simp only [List.getElem?_toArray, List.getElem?_cons_succ, List.getElem?_cons_zero]; rfl) (by decide +kernel) (by decide +kernel) (by decide +kernel) (by exact fun _ _ _ _ h => h) hS (by rfl) ?_
          apply Exists.intro
          refine ⟨fun w' hSw => ?_, ?_⟩
          · go_simp
            with_reducible rfl
          (try simp only [act_put, act_put_none, List.set_cons_zero, List.set_cons_succ])
          refine held_take (i := 13) (by simp only [List.getElem?_toArray, List.getElem?_cons_succ, List.getElem?_cons_zero]; rfl) (by decide +kernel) (by decide +kernel) (by decide +kernel) (by exact fun _ _ _ _ h => h) hS (by rfl) ?_
          apply Exists.intro
          refine ⟨fun w' hSw => ?_, ?_⟩
          · obtain ⟨_, q1, _⟩ := hSw
            have hcv := convB (c := l2.length) q1
            go_simp
            with_reducible rfl
          (try simp only [act_put, act_put_none, List.set_cons_zero, List.set_cons_succ])
          refine held_take (i := 14) (by simp only [List.getElem?_toArray, List.getElem?_cons_succ, List.getElem?_cons_zero]; rfl) (by decide +kernel) (by decide +kernel) (by decide +kernel) (by exact fun _ _ _ _ h => h) hS (by rfl) ?_
          apply Exists.intro
          refine ⟨fun w' hSw => ?_, ?_⟩
          · go_simp
            with_reducible rfl
          (try simp only [act_put, act_put_none, List.set_cons_zero, List.set_cons_succ])
          refine held_take (i := 15) (by simp only [List.getElem?_toArray, List.getElem?_cons_succ, List.getElem?_cons_zero]; rfl) (by decide +kernel) (by decide +kernel) (by decide +kernel) (by exact fun _ _ _ _ h => h) hS (by rfl) ?_
          apply Exists.intro
          refine ⟨fun w' hSw => ?_, ?_⟩
          · go_simp
            with_reducible rfl
          (try simp only [act_put, act_put_none, List.set_cons_zero, List.set_cons_succ])
          refine held_take (i := 16) (by simp only [List.getElem?_toArray, List.getElem?_cons_succ, List.getElem?_cons_zero]; rfl) (by decide +kernel) (by decide +kernel) (by decide +kernel) (by exact fun _ _ _ _ h => h) hS (by rfl) ?_
          apply Exists.intro
          refine ⟨fun w' hSw => ?_, ?_⟩
          · go_simp
            with_reducible rfl
          (try simp only [act_put, act_put_none, List.set_cons_zero, List.set_cons_succ])
          refine held_take (i := 17) (by simp only [List.getElem?_toArray, List.getElem?_cons_succ, List.getElem?_cons_zero]; rfl) (by decide +kernel) (by decide +kernel) (by decide +kernel) (by exact fun _ _ _ _ h => h) hS (by rfl) ?_
          apply Exists.intro
          refine ⟨fun w' hSw => ?_, ?_⟩
          · go_simp
            with_reducible rfl
          (try simp only [act_put, act_put_none, List.set_cons_zero, List.set_cons_succ])
          refine held_take (i := 18) (by simp only [List.getElem?_toArray, List.getElem?_cons_succ, List.getElem?_cons_zero]; rfl) (by decide +kernel) (by decide +kernel) (by decide +kernel) (by exact fun _ _ _ _ h => h) hS (by rfl) ?_
          apply Exists.intro
          refine ⟨fun w' hSw => ?_, ?_⟩
          · obtain ⟨q1, _⟩ := hSw
            have hcv := convB (c := l.length) q1
            go_simp
            with_reducible rfl
          (try simp only [act_put, act_put_none, List.set_cons_zero, List.set_cons_succ])
          refine held_take (i := 19) (by simp only [List.getElem?_toArray, List.getElem?_cons_succ, List.getElem?_cons_zero]; rfl) (by decide +kernel) (by decide +kernel) (by decide +kernel) (by exact fun _ _ _ _ h => h) hS (by rfl) ?_
          apply Exists.intro
          refine ⟨fun w' hSw => ?_, ?_⟩
          · go_simp
            with_reducible rfl
          (try simp only [act_put, act_put_none, List.set_cons_zero, List.set_cons_succ])
          refine held_take (i := 20) (by simp only [List.getElem?_toArray, List.getElem?_cons_succ, List.getElem?_cons_zero]; rfl) (by decide +kernel) (by decide +kernel) (by decide +kernel) (by exact fun _ _ _ _ h => h) hS (by rfl) ?_
          apply Exists.intro
          refine ⟨fun w' hSw => ?_, ?_⟩
          · go_simp
            with_reducible rfl
          (try simp only [act_put, act_put_none, List.set_cons_zero, List.set_cons_succ])
          refine held_take (i := 21) (by simp only [List.getElem?_toArray, List.getElem?_cons_succ, List.getElem?_cons_zero]; rfl) (by decide +kernel) (by decide +kernel) (by decide +kernel) (by exact fun _ _ _ _ h => h) hS (by rfl) ?_
          apply Exists.intro
          refine ⟨fun w' hSw => ?_, ?_⟩
          · go_simp
            with_reducible rfl
          (try simp only [act_put, act_put_none, List.set_cons_zero, List.set_cons_succ])
          refine held_take (i := 22) (by simp only [List.getElem?_toArray, List.getElem?_cons_succ, List.getElem?_cons_zero]; rfl) (by decide +kernel) (by decide +kernel) (by decide +kernel) (by exact fun _ _ _ _ h => h) hS (by rfl) ?_
          apply Exists.intro
          refine ⟨fun w' hSw => ?_, ?_⟩
          · go_simp
            with_reducible rfl
          (try simp only [act_put, act_put_none, List.set_cons_zero, List.set_cons_succ])
          refine held_take (i := 24) (by simp only [List.getElem?_toArray, List.getElem?_cons_succ, List.getElem?_cons_zero]; rfl) (by decide +kernel) (by decide +kernel) (by decide +kernel) (by exact fun _ _ _ _ h => h) hS (by rfl) ?_
          apply Exists.intro
          refine ⟨fun w' hSw => ?_, ?_⟩
          · go_simp
            with_reducible rfl
          (try simp only [act_put, act_put_none, List.set_cons_zero, List.set_cons_succ])
          refine held_take (i := 25) (by simp only [List.getElem?_toArray, List.getElem?_cons_succ, List.getElem?_cons_zero]; rfl) (by decide +kernel) (by decide +kernel) (by decide +kernel) (by exact fun _ _ _ _ h => h) hS (by rfl) ?_
          apply Exists.intro
          refine ⟨fun w' hSw => ?_, ?_⟩
          · go_simp
            with_reducible rfl
          (try simp only [act_put, act_put_none, List.set_cons_zero, List.set_cons_succ])
          refine wpAnyH_ready (rs := [23]) (by decide +kernel) (by simp) ?_
          refine AllReadyH.cons (i := 23) (by simp only [List.getElem?_toArray, List.getElem?_cons_succ, List.getElem?_cons_zero]; rfl) (fun K hK => ?_) ?_
          · go_simp
            go_at_call 13
            refine (dsafe_any hS.2.2.1).mono ?_
            rintro e _ ⟨rfl, rfl⟩
            go_simp
            refine hK.out _ _ hS (fun hS2 => ?_)
            clear hK K hS2
            (try simp only [act_put, act_put_none, List.set_cons_zero, List.set_cons_succ])
            refine held_take (i := 26) (by simp only [List.getElem?_toArray, List.getElem?_cons_succ, List.getElem?_cons_zero]; rfl) (by decide +kernel) (by decide +kernel) (by decide +kernel) (by exact fun _ _ _ _ h => h) hS (by rfl) ?_
            apply Exists.intro
            refine ⟨fun w' hSw => ?_, ?_⟩
            · go_simp
              with_reducible rfl
            (try simp only [act_put, act_put_none, List.set_cons_zero, List.set_cons_succ])
            refine held_take (i := 27) (by simp only [List.getElem?_toArray, List.getElem?_cons_succ, List.getElem?_cons_zero]; rfl) (by decide +kernel) (by decide +kernel) (by decide +kernel) (by exact fun _ _ _ _ h => h) hS (by rfl) ?_
            apply Exists.intro
            refine ⟨fun w' hSw => ?_, ?_⟩
            · go_simp
              with_reducible rfl
            (try simp only [act_put, act_put_none, List.set_cons_zero, List.set_cons_succ])
            refine held_take (i := 28) (by simp only [List.getElem?_toArray, List.getElem?_cons_succ, List.getElem?_cons_zero]; rfl) (by decide +kernel) (by decide +kernel) (by decide +kernel) (by exact fun _ _ _ _ h => h) hS (by rfl) ?_
            apply Exists.intro
            refine ⟨fun w' hSw => ?_, ?_⟩
            · go_simp
              with_reducible rfl
            (try simp only [act_put, act_put_none, List.set_cons_zero, List.set_cons_succ])
            refine wpAnyH_ready (rs := [29]) (by decide +kernel) (by simp) ?_
            refine AllReadyH.cons (i := 29) (by simp only [List.getElem?_toArray, List.getElem?_cons_succ, List.getElem?_cons_zero]; rfl) (fun K hK => ?_) ?_
            · go_simp
              go_at_call 10
              refine (awake11 _).mono ?_
              rintro e v3 ⟨rfl, hb⟩
              have HX := Lib.hid hb
              clear hb
              go_simp
              refine hK.out _ _ ⟨hS.1.below HX.out, hS.2.1.below HX.out, hS.2.2.1.below HX.out, Lib.hid (bthen hS.2.2.2.out HX.out)⟩ (fun hS2 => ?_)
              clear hS hK K
              have hS := hS2
              clear hS2
              clear HX
              (try simp only [act_put, act_put_none, List.set_cons_zero, List.set_cons_succ])
              refine held_take (i := 30) (by simp only [List.getElem?_toArray, List.getElem?_cons_succ, List.getElem?_cons_zero]; rfl) (by decide +kernel) (by decide +kernel) (by decide +kernel) (by exact fun _ _ _ _ h => h) hS (by rfl) ?_
              apply Exists.intro
              refine ⟨fun w' hSw => ?_, ?_⟩
              · go_simp
                with_reducible rfl
              (try simp only [act_put, act_put_none, List.set_cons_zero, List.set_cons_succ])
              refine held_take (i := 31) (by simp only [List.getElem?_toArray, List.getElem?_cons_succ, List.getElem?_cons_zero]; rfl) (by decide +kernel) (by decide +kernel) (by decide +kernel) (by exact fun _ _ _ _ h => h) hS (by rfl) ?_
              apply Exists.intro
              refine ⟨fun w' hSw => ?_, ?_⟩
              · go_simp
                with_reducible rfl
              (try simp only [act_put, act_put_none, List.set_cons_zero, List.set_cons_succ])
              refine wpAnyH_done (by decide +kernel) ?_ _
              have HSF := Lib.hid hS.2.2.2.out
              clear hS
              go_wp2_with fail
              go_ret
              exact ⟨rfl, HSF.out⟩
            exact AllReadyH.nil
          exact AllReadyH.nil
end Go.Proofs.Ytfnbcafilbafgaa
