/-
  The walk of DiskSwaps.
-/
import Derived.Test.YtfnbcafilbafgaaDiskPlay
namespace Go.Proofs.Ytfnbcafilbafgaa
open Go.RowKit
set_option linter.unusedSimpArgs false
attribute [local go_sem] rowCells rowAt_alloc rowAt_drew rowAt_setRow rowAt_setCell setRow_alloc load_ref store_ref cut3 splice3 load_dstp store_dstp cut4d splice4d
attribute [local go_sem ↓] xstore_ref xload_ref xalloc_ref xload_do11 xstore_do11 xalloc_do11
set_option maxRecDepth 20000 in
set_option maxHeartbeats 4000000 in
theorem diskSwaps_walk (n : Int) (_hn : -9223372036854775808 ≤ n ∧ n ≤ 9223372036854775807) (A : Option Addr) (c L : Nat) (E : Nat → Stp) (hm : L ≤ 9223372036854775807 ∧ (A = none → c = 0 ∧ L = 0) ∧ L ≤ c)
    (B : Option Addr) (ct : Nat) (t : List UInt8) (hmt : t.length ≤ 9223372036854775807 ∧ (B = none → ct = 0 ∧ t = []) ∧ t.length ≤ ct) (xa : Int) (_hxa : -9223372036854775808 ≤ xa ∧ xa ≤ 9223372036854775807) (xb : Int) (_hxb : -9223372036854775808 ≤ xb ∧ xb ≤ 9223372036854775807) (w : World) (hT : Steps w A L E) (hB : IsBy w B t) :
    Calls Try.prog 8 #[.int .i64 n, .slice A L c, .slice B t.length ct, .int .i64 xa, .int .i64 xb] w fun e w' => e = .returned (.bool true) ∧ Below w.heap.size w w' := by
  obtain ⟨hm1, hm2, hm3⟩ := hm
  obtain ⟨ht1, ht2, ht3⟩ := hmt
  have HT := Lib.hid hT
  have HBT := Lib.hid hB
  clear hT hB hm2 ht2 _hn _hxa _hxb
  go_enter Try.func8, Try.ntmps8
  by_cases hbad : n < 0 ∨ 16384 < n
  · go_wp2_with fail
    refine (dnew_none n hbad w).mono ?_
    rintro e _ ⟨rfl, rfl⟩
    go_wp2_with fail
    refine (awake11 _).mono ?_
    rintro e w9 ⟨rfl, hb9⟩
    have HB9 := Lib.hid (hb9)
    clear hb9
    go_wp2_with fail
    go_ret
    exact ⟨rfl, HB9.out⟩
  · have h0 : 0 ≤ n := by omega
    have h1 : n ≤ 16384 := by omega
    go_wp2_with fail
    refine (dnew_any n h0 h1 w).mono ?_
    rintro e v1 ⟨p, rfl, hd, hp, hb⟩
    have HB1 := Lib.hid hb
    have HD1 : Hid (DK v1 p (64 * n) [] 0) := Lib.hid (by rw [Int.mul_comm]; exact hd)
    clear hb hd
    go_wp2_with fail
    refine (few_any A c L E hm1 hm3 v1 (HT.out.below HB1.out)).mono ?_
    rintro e w2 ⟨b, rfl, hfew, hb⟩
    have HB2 := Lib.hid (bthen HB1.out hb)
    have HD2 := Lib.hid (HD1.out.below hb)
    clear hb HB1 HD1
    cases b with
    | false =>
      go_wp2_with fail
      refine (awake11 _).mono ?_
      rintro e w9 ⟨rfl, hb9⟩
      have HB9 := Lib.hid (bthen HB2.out hb9)
      clear hb9
      go_wp2_with fail
      go_ret
      exact ⟨rfl, HB9.out⟩
    | true =>
      have HF := Lib.hid (hfew rfl)
      clear hfew
      by_cases hab : 400 < t.length
      · have hab' : decide ((400 : Int) < t.length) = true := decide_eq_true (by omega)
        go_wp2_with fail
        refine (awake11 _).mono ?_
        rintro e w9 ⟨rfl, hb9⟩
        have HB9 := Lib.hid (bthen HB2.out hb9)
        clear hb9
        go_wp2_with fail
        go_ret
        exact ⟨rfl, HB9.out⟩
      · have hab' : decide ((400 : Int) < t.length) = false := decide_eq_false (by omega)
        go_wp2_with fail
        go_loopw [34] (fun i w' => ∃ (k : Nat) (l : List UInt8) (f : Nat), k ≤ L ∧ i = .int .i64 k ∧ DK w' p (64 * n) l f ∧ (l.length : Int) ≤ 64 * n ∧ f ≤ l.length ∧ Below w.heap.size w w') (fun i _ => L - (intOf i).toNat)
        case atStart => exact ⟨0, [], 0, Nat.zero_le _, rfl, HD2.out, by simp; omega, Nat.le_refl _, HB2.out⟩
        case round =>
          rename World => wr
          obtain ⟨k, l, f, hk, rfl, hd, hll, hfl, hb⟩ := hrel
          clear HD2 HB2
          have HB2 := Lib.hid hb
          have HD2 := Lib.hid hd
          clear hb hd
          by_cases hlt : k < L
          · obtain ⟨b, o, rfl, hcell⟩ := (HT.out.below HB2.out).cell k hlt
            have hld : loadAgg Try.prog wr 37 (.pointer (some ⟨b, o + k * 4, none⟩)) = .ok (.value (.agg #[.int .i64 (E k).v, .int .i64 (E k).n, .int .i64 (E k).m, .slice (E k).a (E k).t.length (E k).c])) wr := load_step hcell
            have hby := (HT.out.below HB2.out).by_ k hlt
            have hcap := HT.out.cap k hlt
            have hnil := HT.out.nil k hlt
            have h4 := HF.out.2 k hlt
            clear hcell
            obtain ⟨z, hz⟩ : ∃ z, E k = z := ⟨_, rfl⟩
            rw [hz] at hld hby hcap hnil h4
            clear hz
            obtain ⟨zv, zn, zm, za, zc, zt⟩ := z
            have HBY2 := Lib.hid hby
            have HNIL := Lib.hid hnil
            clear hby hnil
            go_upto_region 7 with fail
            obtain ⟨W3, hW3⟩ : ∃ W3, wr.alloc (.cells #[.int .i64 zv, .int .i64 zn, .int .i64 zm, .slice za zt.length zc] 37) = W3 := ⟨_, rfl⟩
            obtain ⟨h8, hh8⟩ : ∃ h8, wr.heap.size = h8 := ⟨_, rfl⟩
            have hb3 : Below wr.heap.size wr W3 := by rw [← hW3]; exact (Below.refl _ _).alloc (Nat.le_refl _) _
            have hrow8 : rowAt W3 h8 = some (#[.int .i64 zv, .int .i64 zn, .int .i64 zm, .slice za zt.length zc], 37) := by rw [← hW3]; exact rowAt_alloc_at _ _ _ _ hh8.symm
            have HD3 := Lib.hid (HD2.out.below hb3)
            have HB3 := Lib.hid (bthen HB2.out hb3)
            have HBY3 := Lib.hid (HBY2.out.below hb3)
            rw [hW3, hh8]
            clear hW3 hh8 hb3 HD2 HB2 HBY2 hld
            go_wp2_with fail
            refine (does_any (lR := []) (fR := 0) HD3.out (IsBy.nil _ _) (Nat.zero_le _) (fun _ => rfl) HBY3.out hcap HNIL.out (by omega) (by omega) hll (by simp; omega) hfl (Nat.zero_le _) h4 rfl rfl rfl rfl).mono ?_
            rintro e w4 ⟨A3, c3, ok3, rfl, h31, h32, h33, hd, hbt, h34⟩
            have hLs := stepL_len (l := l) (t := zt) (f := f) (V := zv) (N := zn) (M := zm) hll
            have hFl := stepF_le (s := 64 * n) (l := l) (t := zt) (V := zv) (N := zn) (M := zm) hfl
            clear h31 h32 h33 h34
            generalize stepL (64 * n) l f zv zn zm zt = l1 at *
            generalize stepF (64 * n) l f zv zn zm zt = f1 at *
            have HB4 := Lib.hid (HB3.out.trans (hbt.below hp HB3.out.size))
            have HD4 := Lib.hid hd
            clear hd hbt hrow8 HB3 HD3 HBY3
            go_wp2_with fail
            go_roundw
            case rel => exact ⟨k + 1, l1, f1, by omega, by go_num, HD4.out, hLs, hFl, HB4.out⟩
            case measure => simp [intOf]; omega
          · obtain rfl : k = L := by omega
            go_wp2_with fail
            refine (dbytes_any HD2.out (by omega)).mono ?_
            rintro e w3 ⟨gw, rfl, hr, hgw, hb⟩
            have HWAS := Lib.hid (isBy_full hr)
            have HD3 := Lib.hid (HD2.out.below hb)
            have HB3 := Lib.hid (bthen HB2.out hb)
            have HBT3 := Lib.hid (HBT.out.below HB3.out)
            clear hr hb HD2 HB2 HBT
            go_wp2_with fail
            refine (dsafe_any HD3.out).mono ?_
            rintro e _ ⟨rfl, rfl⟩
            by_cases hfit : 64 * n < t.length
            · have hfit' : decide (64 * n < (t.length : Int)) = true := decide_eq_true hfit
              go_wp2_with fail
              refine (dswap_full HD3.out hfit).mono ?_
              rintro e _ ⟨rfl, rfl⟩
              go_upto_region 12 with fail
              refine wp_region_held_drew (S := fun w' : World => IsBy w' (some ⟨gw, 0, none⟩) l ∧ DK w' p (64 * n) l f ∧ Hid (Below w.heap.size w w')) (by kernel_rfl) ⟨HWAS.out.below (Below.refl _ _).drew, HD3.out.below (Below.refl _ _).drew, Lib.hid HB3.out.drew⟩ (fun hS => ?_)
              clear HWAS HD3 HB3 HBT3
              generalize w3.drew = W7 at *
              refine held_take (i := 0) (by simp only [List.getElem?_toArray, List.getElem?_cons_succ, List.getElem?_cons_zero]; rfl) (by decide +kernel) (by decide +kernel) (by decide +kernel) (by exact fun _ _ _ _ h => h) hS (by rfl) ?_
              apply Exists.intro
              refine ⟨fun w' hSw => ?_, ?_⟩
              · go_simp
                with_reducible rfl
              (try simp only [act_put, act_put_none, List.set_cons_zero, List.set_cons_succ])
              refine held_take (i := 1) (by simp only [List.getElem?_toArray, List.getElem?_cons_succ, List.getElem?_cons_zero]; rfl) (by decide +kernel) (by decide +kernel) (by decide +kernel) (by exact fun _ _ _ _ h => h) hS (by rfl) ?_
              apply Exists.intro
              refine ⟨fun w' hSw => ?_, ?_⟩
              · go_simp
                with_reducible rfl
              (try simp only [act_put, act_put_none, List.set_cons_zero, List.set_cons_succ])
              refine held_take (i := 2) (by simp only [List.getElem?_toArray, List.getElem?_cons_succ, List.getElem?_cons_zero]; rfl) (by decide +kernel) (by decide +kernel) (by decide +kernel) (by exact fun _ _ _ _ h => h) hS (by rfl) ?_
              apply Exists.intro
              refine ⟨fun w' hSw => ?_, ?_⟩
              · go_simp
                with_reducible rfl
              (try simp only [act_put, act_put_none, List.set_cons_zero, List.set_cons_succ])
              refine held_take (i := 3) (by simp only [List.getElem?_toArray, List.getElem?_cons_succ, List.getElem?_cons_zero]; rfl) (by decide +kernel) (by decide +kernel) (by decide +kernel) (by exact fun _ _ _ _ h => h) hS (by rfl) ?_
              apply Exists.intro
              refine ⟨fun w' hSw => ?_, ?_⟩
              · go_simp
                with_reducible rfl
              (try simp only [act_put, act_put_none, List.set_cons_zero, List.set_cons_succ])
              refine held_take (i := 6) (by simp only [List.getElem?_toArray, List.getElem?_cons_succ, List.getElem?_cons_zero]; rfl) (by decide +kernel) (by decide +kernel) (by decide +kernel) (by exact fun _ _ _ _ h => h) hS (by rfl) ?_
              apply Exists.intro
              refine ⟨fun w' hSw => ?_, ?_⟩
              · go_simp
                with_reducible rfl
              (try simp only [act_put, act_put_none, List.set_cons_zero, List.set_cons_succ])
              refine held_take (i := 7) (by simp only [List.getElem?_toArray, List.getElem?_cons_succ, List.getElem?_cons_zero]; rfl) (by decide +kernel) (by decide +kernel) (by decide +kernel) (by exact fun _ _ _ _ h => h) hS (by rfl) ?_
              apply Exists.intro
              refine ⟨fun w' hSw => ?_, ?_⟩
              · obtain ⟨q1, _⟩ := hSw
                have hcv := convB (c := l.length) q1
                go_simp
                with_reducible rfl
              (try simp only [act_put, act_put_none, List.set_cons_zero, List.set_cons_succ])
              refine wpAnyH_ready (rs := [4]) (by decide +kernel) (by simp) ?_
              refine AllReadyH.cons (i := 4) (by simp only [List.getElem?_toArray, List.getElem?_cons_succ, List.getElem?_cons_zero]; rfl) (fun K hK => ?_) ?_
              · go_simp
                go_at_call 12
                refine (dbytes_any hS.2.1 (by omega)).mono ?_
                rintro e v1 ⟨gb, rfl, hr, _, hb⟩
                have HX := Lib.hid hb
                have HBYB := Lib.hid (isBy_full hr)
                clear hb hr
                go_simp
                refine hK.out _ _ ⟨hS.1.below HX.out, hS.2.1.below HX.out, Lib.hid (bthen hS.2.2.out HX.out)⟩ (fun hS2 => ?_)
                clear hS hK K
                have hS := hS2
                clear hS2
                clear HX
                (try simp only [act_put, act_put_none, List.set_cons_zero, List.set_cons_succ])
                refine wpAnyH_ready (rs := [5]) (by decide +kernel) (by simp) ?_
                refine AllReadyH.cons (i := 5) (by simp only [List.getElem?_toArray, List.getElem?_cons_succ, List.getElem?_cons_zero]; rfl) (fun K hK => ?_) ?_
                · have hcv := convB (c := l.length) HBYB.out
                  go_simp
                  refine hK.out _ _ hS (fun hS2 => ?_)
                  clear hK K hS2 hcv
                  (try simp only [act_put, act_put_none, List.set_cons_zero, List.set_cons_succ])
                  refine held_take (i := 8) (by simp only [List.getElem?_toArray, List.getElem?_cons_succ, List.getElem?_cons_zero]; rfl) (by decide +kernel) (by decide +kernel) (by decide +kernel) (by exact fun _ _ _ _ h => h) hS (by rfl) ?_
                  apply Exists.intro
                  refine ⟨fun w' hSw => ?_, ?_⟩
                  · go_simp
                    with_reducible rfl
                  (try simp only [act_put, act_put_none, List.set_cons_zero, List.set_cons_succ])
                  refine held_take (i := 9) (by simp only [List.getElem?_toArray, List.getElem?_cons_succ, List.getElem?_cons_zero]; rfl) (by decide +kernel) (by decide +kernel) (by decide +kernel) (by exact fun _ _ _ _ h => h) hS (by rfl) ?_
                  apply Exists.intro
                  refine ⟨fun w' hSw => ?_, ?_⟩
                  · go_simp
                    with_reducible rfl
                  (try simp only [act_put, act_put_none, List.set_cons_zero, List.set_cons_succ])
                  refine held_take (i := 10) (by simp only [List.getElem?_toArray, List.getElem?_cons_succ, List.getElem?_cons_zero]; rfl) (by decide +kernel) (by decide +kernel) (by decide +kernel) (by exact fun _ _ _ _ h => h) hS (by rfl) ?_
                  apply Exists.intro
                  refine ⟨fun w' hSw => ?_, ?_⟩
                  · go_simp
                    with_reducible rfl
                  (try simp only [act_put, act_put_none, List.set_cons_zero, List.set_cons_succ])
                  refine held_take (i := 11) (by simp only [List.getElem?_toArray, List.getElem?_cons_succ, List.getElem?_cons_zero]; rfl) (by decide +kernel) (by decide +kernel) (by decide +kernel) (by exact fun _ _ _ _ h => h) hS (by rfl) ?_
                  apply Exists.intro
                  refine ⟨fun w' hSw => ?_, ?_⟩
                  · go_simp
                    with_reducible rfl
                  (try simp only [act_put, act_put_none, List.set_cons_zero, List.set_cons_succ])
                  refine held_take (i := 13) (by simp only [List.getElem?_toArray, List.getElem?_cons_succ, List.getElem?_cons_zero]; rfl) (by decide +kernel) (by decide +kernel) (by decide +kernel) (by exact fun _ _ _ _ h => h) hS (by rfl) ?_
                  apply Exists.intro
                  refine ⟨fun w' hSw => ?_, ?_⟩
                  · go_simp
                    with_reducible rfl
                  (try simp only [act_put, act_put_none, List.set_cons_zero, List.set_cons_succ])
                  refine wpAnyH_ready (rs := [12]) (by decide +kernel) (by simp) ?_
                  refine AllReadyH.cons (i := 12) (by simp only [List.getElem?_toArray, List.getElem?_cons_succ, List.getElem?_cons_zero]; rfl) (fun K hK => ?_) ?_
                  · go_simp
                    go_at_call 13
                    refine (dsafe_any hS.2.1).mono ?_
                    rintro e _ ⟨rfl, rfl⟩
                    go_simp
                    refine hK.out _ _ hS (fun hS2 => ?_)
                    clear hK K hS2
                    (try simp only [act_put, act_put_none, List.set_cons_zero, List.set_cons_succ])
                    refine held_take (i := 14) (by simp only [List.getElem?_toArray, List.getElem?_cons_succ, List.getElem?_cons_zero]; rfl) (by decide +kernel) (by decide +kernel) (by decide +kernel) (by exact fun _ _ _ _ h => h) hS (by rfl) ?_
                    apply Exists.intro
                    refine ⟨fun w' hSw => ?_, ?_⟩
                    · go_simp
                      with_reducible rfl
                    (try simp only [act_put, act_put_none, List.set_cons_zero, List.set_cons_succ])
                    refine held_take (i := 15) (by simp only [List.getElem?_toArray, List.getElem?_cons_succ, List.getElem?_cons_zero]; rfl) (by decide +kernel) (by decide +kernel) (by decide +kernel) (by exact fun _ _ _ _ h => h) hS (by rfl) ?_
                    apply Exists.intro
                    refine ⟨fun w' hSw => ?_, ?_⟩
                    · go_simp
                      with_reducible rfl
                    (try simp only [act_put, act_put_none, List.set_cons_zero, List.set_cons_succ])
                    refine held_take (i := 16) (by simp only [List.getElem?_toArray, List.getElem?_cons_succ, List.getElem?_cons_zero]; rfl) (by decide +kernel) (by decide +kernel) (by decide +kernel) (by exact fun _ _ _ _ h => h) hS (by rfl) ?_
                    apply Exists.intro
                    refine ⟨fun w' hSw => ?_, ?_⟩
                    · go_simp
                      with_reducible rfl
                    (try simp only [act_put, act_put_none, List.set_cons_zero, List.set_cons_succ])
                    refine wpAnyH_ready (rs := [17]) (by decide +kernel) (by simp) ?_
                    refine AllReadyH.cons (i := 17) (by simp only [List.getElem?_toArray, List.getElem?_cons_succ, List.getElem?_cons_zero]; rfl) (fun K hK => ?_) ?_
                    · go_simp
                      go_at_call 10
                      refine (awake11 _).mono ?_
                      rintro e v3 ⟨rfl, hb⟩
                      have HX := Lib.hid hb
                      clear hb
                      go_simp
                      refine hK.out _ _ ⟨hS.1.below HX.out, hS.2.1.below HX.out, Lib.hid (bthen hS.2.2.out HX.out)⟩ (fun hS2 => ?_)
                      clear hS hK K
                      have hS := hS2
                      clear hS2
                      clear HX
                      (try simp only [act_put, act_put_none, List.set_cons_zero, List.set_cons_succ])
                      refine held_take (i := 18) (by simp only [List.getElem?_toArray, List.getElem?_cons_succ, List.getElem?_cons_zero]; rfl) (by decide +kernel) (by decide +kernel) (by decide +kernel) (by exact fun _ _ _ _ h => h) hS (by rfl) ?_
                      apply Exists.intro
                      refine ⟨fun w' hSw => ?_, ?_⟩
                      · go_simp
                        with_reducible rfl
                      (try simp only [act_put, act_put_none, List.set_cons_zero, List.set_cons_succ])
                      refine held_take (i := 19) (by simp only [List.getElem?_toArray, List.getElem?_cons_succ, List.getElem?_cons_zero]; rfl) (by decide +kernel) (by decide +kernel) (by decide +kernel) (by exact fun _ _ _ _ h => h) hS (by rfl) ?_
                      apply Exists.intro
                      refine ⟨fun w' hSw => ?_, ?_⟩
                      · go_simp
                        with_reducible rfl
                      (try simp only [act_put, act_put_none, List.set_cons_zero, List.set_cons_succ])
                      refine wpAnyH_done (by decide +kernel) ?_ _
                      have HSF := Lib.hid hS.2.2.out
                      clear hS
                      go_wp2_with fail
                      go_ret
                      exact ⟨rfl, HSF.out⟩
                    exact AllReadyH.nil
                  exact AllReadyH.nil
                exact AllReadyH.nil
              exact AllReadyH.nil
            · have hfit' : decide (64 * n < (t.length : Int)) = false := decide_eq_false hfit
              go_wp2_with fail
              refine (dswap_ok HD3.out HBT3.out ht3 (by omega) (by omega)).mono ?_
              rintro e w4 ⟨rfl, hd, hbt⟩
              have HD4 := Lib.hid hd
              have HB4 := Lib.hid (HB3.out.trans (hbt.below hp HB3.out.size))
              have HBT4 := Lib.hid (HBT3.out.bt HD3.out hbt)
              clear hd hbt HD3 HB3 HBT3 HWAS
              go_wp2_with fail
              refine (crash_cut xa xb HD4.out (Nat.le_refl _) (by omega)).mono ?_
              rintro e w5 ⟨l2, rfl, hd, hz1, hz2, hz3, hz4, hbt⟩
              have hzl : l2 = t := by rw [hz1, show l2.length = t.length by omega, List.take_length]
              clear hz1 hz2 hz3 hz4
              subst hzl
              have HD5 := Lib.hid hd
              have HB5 := Lib.hid (HB4.out.trans (hbt.below hp HB4.out.size))
              have HBT5 := Lib.hid (HBT4.out.bt HD4.out hbt)
              clear hd hbt HD4 HB4 HBT4
              go_upto_region 14 with fail
              refine wp_region_held_drew (S := fun w' : World => IsBy w' B l2 ∧ DK w' p (64 * n) l2 l2.length ∧ Hid (Below w.heap.size w w')) (by kernel_rfl) ⟨HBT5.out.below (Below.refl _ _).drew, HD5.out.below (Below.refl _ _).drew, Lib.hid HB5.out.drew⟩ (fun hS => ?_)
              clear HBT5 HD5 HB5
              generalize w5.drew = W7 at *
              refine held_take (i := 0) (by simp only [List.getElem?_toArray, List.getElem?_cons_succ, List.getElem?_cons_zero]; rfl) (by decide +kernel) (by decide +kernel) (by decide +kernel) (by exact fun _ _ _ _ h => h) hS (by rfl) ?_
              apply Exists.intro
              refine ⟨fun w' hSw => ?_, ?_⟩
              · go_simp
                with_reducible rfl
              (try simp only [act_put, act_put_none, List.set_cons_zero, List.set_cons_succ])
              refine held_take (i := 1) (by simp only [List.getElem?_toArray, List.getElem?_cons_succ, List.getElem?_cons_zero]; rfl) (by decide +kernel) (by decide +kernel) (by decide +kernel) (by exact fun _ _ _ _ h => h) hS (by rfl) ?_
              apply Exists.intro
              refine ⟨fun w' hSw => ?_, ?_⟩
              · go_simp
                with_reducible rfl
              (try simp only [act_put, act_put_none, List.set_cons_zero, List.set_cons_succ])
              refine held_take (i := 2) (by simp only [List.getElem?_toArray, List.getElem?_cons_succ, List.getElem?_cons_zero]; rfl) (by decide +kernel) (by decide +kernel) (by decide +kernel) (by exact fun _ _ _ _ h => h) hS (by rfl) ?_
              apply Exists.intro
              refine ⟨fun w' hSw => ?_, ?_⟩
              · go_simp
                with_reducible rfl
              (try simp only [act_put, act_put_none, List.set_cons_zero, List.set_cons_succ])
              refine held_take (i := 3) (by simp only [List.getElem?_toArray, List.getElem?_cons_succ, List.getElem?_cons_zero]; rfl) (by decide +kernel) (by decide +kernel) (by decide +kernel) (by exact fun _ _ _ _ h => h) hS (by rfl) ?_
              apply Exists.intro
              refine ⟨fun w' hSw => ?_, ?_⟩
              · go_simp
                with_reducible rfl
              (try simp only [act_put, act_put_none, List.set_cons_zero, List.set_cons_succ])
              refine held_take (i := 6) (by simp only [List.getElem?_toArray, List.getElem?_cons_succ, List.getElem?_cons_zero]; rfl) (by decide +kernel) (by decide +kernel) (by decide +kernel) (by exact fun _ _ _ _ h => h) hS (by rfl) ?_
              apply Exists.intro
              refine ⟨fun w' hSw => ?_, ?_⟩
              · go_simp
                with_reducible rfl
              (try simp only [act_put, act_put_none, List.set_cons_zero, List.set_cons_succ])
              refine held_take (i := 7) (by simp only [List.getElem?_toArray, List.getElem?_cons_succ, List.getElem?_cons_zero]; rfl) (by decide +kernel) (by decide +kernel) (by decide +kernel) (by exact fun _ _ _ _ h => h) hS (by rfl) ?_
              apply Exists.intro
              refine ⟨fun w' hSw => ?_, ?_⟩
              · obtain ⟨q1, _⟩ := hSw
                have hcv := convB (c := ct) q1
                go_simp
                with_reducible rfl
              (try simp only [act_put, act_put_none, List.set_cons_zero, List.set_cons_succ])
              refine wpAnyH_ready (rs := [4]) (by decide +kernel) (by simp) ?_
              refine AllReadyH.cons (i := 4) (by simp only [List.getElem?_toArray, List.getElem?_cons_succ, List.getElem?_cons_zero]; rfl) (fun K hK => ?_) ?_
              · go_simp
                go_at_call 12
                refine (dbytes_any hS.2.1 (by omega)).mono ?_
                rintro e v1 ⟨gb, rfl, hr, _, hb⟩
                have HX := Lib.hid hb
                have HBYB := Lib.hid (isBy_full hr)
                clear hb hr
                go_simp
                refine hK.out _ _ ⟨hS.1.below HX.out, hS.2.1.below HX.out, Lib.hid (bthen hS.2.2.out HX.out)⟩ (fun hS2 => ?_)
                clear hS hK K
                have hS := hS2
                clear hS2
                clear HX
                (try simp only [act_put, act_put_none, List.set_cons_zero, List.set_cons_succ])
                refine wpAnyH_ready (rs := [5]) (by decide +kernel) (by simp) ?_
                refine AllReadyH.cons (i := 5) (by simp only [List.getElem?_toArray, List.getElem?_cons_succ, List.getElem?_cons_zero]; rfl) (fun K hK => ?_) ?_
                · have hcv := convB (c := l2.length) HBYB.out
                  go_simp
                  refine hK.out _ _ hS (fun hS2 => ?_)
                  clear hK K hS2 hcv
                  (try simp only [act_put, act_put_none, List.set_cons_zero, List.set_cons_succ])
                  refine held_take (i := 8) (by simp only [List.getElem?_toArray, List.getElem?_cons_succ, List.getElem?_cons_zero]; rfl) (by decide +kernel) (by decide +kernel) (by decide +kernel) (by exact fun _ _ _ _ h => h) hS (by rfl) ?_
                  apply Exists.intro
                  refine ⟨fun w' hSw => ?_, ?_⟩
                  · go_simp
                    with_reducible rfl
                  (try simp only [act_put, act_put_none, List.set_cons_zero, List.set_cons_succ])
                  refine held_take (i := 9) (by simp only [List.getElem?_toArray, List.getElem?_cons_succ, List.getElem?_cons_zero]; rfl) (by decide +kernel) (by decide +kernel) (by decide +kernel) (by exact fun _ _ _ _ h => h) hS (by rfl) ?_
                  apply Exists.intro
                  refine ⟨fun w' hSw => ?_, ?_⟩
                  · go_simp
                    with_reducible rfl
                  (try simp only [act_put, act_put_none, List.set_cons_zero, List.set_cons_succ])
                  refine held_take (i := 10) (by simp only [List.getElem?_toArray, List.getElem?_cons_succ, List.getElem?_cons_zero]; rfl) (by decide +kernel) (by decide +kernel) (by decide +kernel) (by exact fun _ _ _ _ h => h) hS (by rfl) ?_
                  apply Exists.intro
                  refine ⟨fun w' hSw => ?_, ?_⟩
                  · go_simp
                    with_reducible rfl
                  (try simp only [act_put, act_put_none, List.set_cons_zero, List.set_cons_succ])
                  refine held_take (i := 11) (by simp only [List.getElem?_toArray, List.getElem?_cons_succ, List.getElem?_cons_zero]; rfl) (by decide +kernel) (by decide +kernel) (by decide +kernel) (by exact fun _ _ _ _ h => h) hS (by rfl) ?_
                  apply Exists.intro
                  refine ⟨fun w' hSw => ?_, ?_⟩
                  · go_simp
                    with_reducible rfl
                  (try simp only [act_put, act_put_none, List.set_cons_zero, List.set_cons_succ])
                  refine held_take (i := 13) (by simp only [List.getElem?_toArray, List.getElem?_cons_succ, List.getElem?_cons_zero]; rfl) (by decide +kernel) (by decide +kernel) (by decide +kernel) (by exact fun _ _ _ _ h => h) hS (by rfl) ?_
                  apply Exists.intro
                  refine ⟨fun w' hSw => ?_, ?_⟩
                  · go_simp
                    with_reducible rfl
                  (try simp only [act_put, act_put_none, List.set_cons_zero, List.set_cons_succ])
                  refine held_take (i := 14) (by simp only [List.getElem?_toArray, List.getElem?_cons_succ, List.getElem?_cons_zero]; rfl) (by decide +kernel) (by decide +kernel) (by decide +kernel) (by exact fun _ _ _ _ h => h) hS (by rfl) ?_
                  apply Exists.intro
                  refine ⟨fun w' hSw => ?_, ?_⟩
                  · go_simp
                    with_reducible rfl
                  (try simp only [act_put, act_put_none, List.set_cons_zero, List.set_cons_succ])
                  refine wpAnyH_ready (rs := [12]) (by decide +kernel) (by simp) ?_
                  refine AllReadyH.cons (i := 12) (by simp only [List.getElem?_toArray, List.getElem?_cons_succ, List.getElem?_cons_zero]; rfl) (fun K hK => ?_) ?_
                  · go_simp
                    go_at_call 13
                    refine (dsafe_any hS.2.1).mono ?_
                    rintro e _ ⟨rfl, rfl⟩
                    go_simp
                    refine hK.out _ _ hS (fun hS2 => ?_)
                    clear hK K hS2
                    (try simp only [act_put, act_put_none, List.set_cons_zero, List.set_cons_succ])
                    refine held_take (i := 15) (by simp only [List.getElem?_toArray, List.getElem?_cons_succ, List.getElem?_cons_zero]; rfl) (by decide +kernel) (by decide +kernel) (by decide +kernel) (by exact fun _ _ _ _ h => h) hS (by rfl) ?_
                    apply Exists.intro
                    refine ⟨fun w' hSw => ?_, ?_⟩
                    · go_simp
                      with_reducible rfl
                    (try simp only [act_put, act_put_none, List.set_cons_zero, List.set_cons_succ])
                    refine held_take (i := 16) (by simp only [List.getElem?_toArray, List.getElem?_cons_succ, List.getElem?_cons_zero]; rfl) (by decide +kernel) (by decide +kernel) (by decide +kernel) (by exact fun _ _ _ _ h => h) hS (by rfl) ?_
                    apply Exists.intro
                    refine ⟨fun w' hSw => ?_, ?_⟩
                    · go_simp
                      with_reducible rfl
                    (try simp only [act_put, act_put_none, List.set_cons_zero, List.set_cons_succ])
                    refine held_take (i := 17) (by simp only [List.getElem?_toArray, List.getElem?_cons_succ, List.getElem?_cons_zero]; rfl) (by decide +kernel) (by decide +kernel) (by decide +kernel) (by exact fun _ _ _ _ h => h) hS (by rfl) ?_
                    apply Exists.intro
                    refine ⟨fun w' hSw => ?_, ?_⟩
                    · go_simp
                      with_reducible rfl
                    (try simp only [act_put, act_put_none, List.set_cons_zero, List.set_cons_succ])
                    refine wpAnyH_ready (rs := [18]) (by decide +kernel) (by simp) ?_
                    refine AllReadyH.cons (i := 18) (by simp only [List.getElem?_toArray, List.getElem?_cons_succ, List.getElem?_cons_zero]; rfl) (fun K hK => ?_) ?_
                    · go_simp
                      go_at_call 10
                      refine (awake11 _).mono ?_
                      rintro e v3 ⟨rfl, hb⟩
                      have HX := Lib.hid hb
                      clear hb
                      go_simp
                      refine hK.out _ _ ⟨hS.1.below HX.out, hS.2.1.below HX.out, Lib.hid (bthen hS.2.2.out HX.out)⟩ (fun hS2 => ?_)
                      clear hS hK K
                      have hS := hS2
                      clear hS2
                      clear HX
                      (try simp only [act_put, act_put_none, List.set_cons_zero, List.set_cons_succ])
                      refine held_take (i := 19) (by simp only [List.getElem?_toArray, List.getElem?_cons_succ, List.getElem?_cons_zero]; rfl) (by decide +kernel) (by decide +kernel) (by decide +kernel) (by exact fun _ _ _ _ h => h) hS (by rfl) ?_
                      apply Exists.intro
                      refine ⟨fun w' hSw => ?_, ?_⟩
                      · go_simp
                        with_reducible rfl
                      (try simp only [act_put, act_put_none, List.set_cons_zero, List.set_cons_succ])
                      refine held_take (i := 20) (by simp only [List.getElem?_toArray, List.getElem?_cons_succ, List.getElem?_cons_zero]; rfl) (by decide +kernel) (by decide +kernel) (by decide +kernel) (by exact fun _ _ _ _ h => h) hS (by rfl) ?_
                      apply Exists.intro
                      refine ⟨fun w' hSw => ?_, ?_⟩
                      · go_simp
                        with_reducible rfl
                      (try simp only [act_put, act_put_none, List.set_cons_zero, List.set_cons_succ])
                      refine wpAnyH_done (by decide +kernel) ?_ _
                      have HSF := Lib.hid hS.2.2.out
                      clear hS
                      go_wp2_with fail
                      go_ret
                      exact ⟨rfl, HSF.out⟩
                    exact AllReadyH.nil
                  exact AllReadyH.nil
                exact AllReadyH.nil
              exact AllReadyH.nil
end Go.Proofs.Ytfnbcafilbafgaa
