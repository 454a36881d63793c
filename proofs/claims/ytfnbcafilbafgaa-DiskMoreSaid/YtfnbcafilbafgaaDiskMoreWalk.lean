/-
  The walk of DiskMore.
-/
import Derived.Test.YtfnbcafilbafgaaDiskPlay
namespace Go.Proofs.Ytfnbcafilbafgaa
open Go.RowKit
set_option linter.unusedSimpArgs false
attribute [local go_sem] rowCells rowAt_alloc rowAt_drew rowAt_setRow rowAt_setCell setRow_alloc load_ref store_ref cut3 splice3 load_dstp store_dstp cut4d splice4d
attribute [local go_sem ↓] xstore_ref xload_ref xalloc_ref xload_do11 xstore_do11 xalloc_do11
set_option maxRecDepth 20000 in
set_option maxHeartbeats 4000000 in
theorem diskMore_walk (n : Int) (_hn : -9223372036854775808 ≤ n ∧ n ≤ 9223372036854775807) (A : Option Addr) (c L : Nat) (E : Nat → Stp) (hm : L ≤ 9223372036854775807 ∧ (A = none → c = 0 ∧ L = 0) ∧ L ≤ c) (xa : Int) (_hxa : -9223372036854775808 ≤ xa ∧ xa ≤ 9223372036854775807) (xb : Int) (_hxb : -9223372036854775808 ≤ xb ∧ xb ≤ 9223372036854775807) (xc : Int) (_hxc : -9223372036854775808 ≤ xc ∧ xc ≤ 9223372036854775807) (xe : Int) (_hxe : -9223372036854775808 ≤ xe ∧ xe ≤ 9223372036854775807) (w : World) (hT : Steps w A L E) :
    Calls Try.prog 7 #[.int .i64 n, .slice A L c, .int .i64 xa, .int .i64 xb, .int .i64 xc, .int .i64 xe] w fun e w' => e = .returned (.bool true) ∧ Below w.heap.size w w' := by
  obtain ⟨hm1, _, hm3⟩ := hm
  have HT := Lib.hid hT
  clear hT _hn _hxa _hxb _hxc _hxe
  go_enter Try.func7, Try.ntmps7
  by_cases hbad : n < 0 ∨ 16384 < n
  · go_wp2_with fail
    refine (dnew_none n hbad w).mono ?_
    rintro e _ ⟨rfl, rfl⟩
    go_wp2_with fail
    refine (dnew_none n hbad w).mono ?_
    rintro e _ ⟨rfl, rfl⟩
    go_wp2_with fail
    refine (dnew_none n hbad w).mono ?_
    rintro e _ ⟨rfl, rfl⟩
    go_wp2_with fail
    refine (awake11 _).mono ?_
    rintro e w9 ⟨rfl, hb9⟩
    have HB9 := Lib.hid (hb9)
    clear hb9
    go_wp2_with fail
    go_ret
    exact ⟨rfl, HB9.out⟩
  · have h0 : 0 ≤ n := by omega
    have h1 : n ≤ 16384 := by omega
    go_wp2_with fail
    refine (dnew_any n h0 h1 w).mono ?_
    rintro e v1 ⟨px, rfl, hdx, hpx, hb⟩
    have HBX := Lib.hid hb
    have HDX := Lib.hid hdx
    clear hb hdx
    go_wp2_with fail
    refine (dnew_any n h0 h1 v1).mono ?_
    rintro e v2 ⟨py, rfl, hdy, hpy, hb⟩
    have HBY := Lib.hid (bthen HBX.out hb)
    have HDX2 := Lib.hid (HDX.out.below hb)
    have HDY := Lib.hid hdy
    have hxy : px < py := Nat.lt_of_lt_of_le HDX.out.lt hpy
    clear hb hdy HBX HDX
    go_wp2_with fail
    refine (dnew_any n h0 h1 v2).mono ?_
    rintro e v3 ⟨pz, rfl, hdz, hpz, hb⟩
    have HB1 := Lib.hid (bthen HBY.out hb)
    have HDX1 := Lib.hid (HDX2.out.below hb)
    have HDY1 := Lib.hid (HDY.out.below hb)
    have HDZ1 := Lib.hid hdz
    have hyz : py < pz := Nat.lt_of_lt_of_le HDY.out.lt hpz
    clear hb hdz HBY HDX2 HDY hpy hpz
    go_wp2_with fail
    refine (few_any A c L E hm1 hm3 v3 (HT.out.below HB1.out)).mono ?_
    rintro e w2 ⟨b, rfl, hfew, hb⟩
    have HB2 := Lib.hid (bthen HB1.out hb)
    have HDX2 := Lib.hid (HDX1.out.below hb)
    have HDY2 := Lib.hid (HDY1.out.below hb)
    have HDZ2 := Lib.hid (HDZ1.out.below hb)
    clear hb HB1 HDX1 HDY1 HDZ1
    cases b with
    | false =>
      go_wp2_with fail
      refine (awake11 _).mono ?_
      rintro e w9 ⟨rfl, hb9⟩
      have HB9 := Lib.hid (bthen HB2.out hb9)
      clear hb9
      go_wp2_with fail
      go_ret
      exact ⟨rfl, HB9.out⟩
    | true =>
      have HF := Lib.hid (hfew rfl)
      clear hfew
      by_cases hab : xb < xa
      · have hab' : decide (xb < xa) = true := decide_eq_true hab
        go_wp2_with fail
        refine (awake11 _).mono ?_
        rintro e w9 ⟨rfl, hb9⟩
        have HB9 := Lib.hid (bthen HB2.out hb9)
        clear hb9
        go_wp2_with fail
        go_ret
        exact ⟨rfl, HB9.out⟩
      · have hab' : decide (xb < xa) = false := decide_eq_false hab
        by_cases hce : xe < xc
        · have hce' : decide (xe < xc) = true := decide_eq_true hce
          go_wp2_with fail
          refine (awake11 _).mono ?_
          rintro e w9 ⟨rfl, hb9⟩
          have HB9 := Lib.hid (bthen HB2.out hb9)
          clear hb9
          go_wp2_with fail
          go_ret
          exact ⟨rfl, HB9.out⟩
        · have hce' : decide (xe < xc) = false := decide_eq_false hce
          go_upto_region 5 with fail
          obtain ⟨W, hW⟩ : ∃ W, w2.alloc (.cells #[.int .i64 (64 * n), .int .i64 0, .slice none 0 0] 35) = W := ⟨_, rfl⟩
          obtain ⟨g, hg⟩ : ∃ g, w2.heap.size = g := ⟨_, rfl⟩
          have hb2 : Below w2.heap.size w2 W := by rw [← hW]; exact (Below.refl _ _).alloc (Nat.le_refl _) _
          have HRK : Hid (rowAt W g = some (#[.int .i64 (n * 64), .int .i64 0, .slice none 0 0], 35)) := Lib.hid (by rw [← hW, Int.mul_comm]; exact rowAt_alloc_at _ _ _ _ hg.symm)
          have HX := Lib.hid (HDX2.out.below hb2)
          have HY := Lib.hid (HDY2.out.below hb2)
          have HZ := Lib.hid (HDZ2.out.below hb2)
          have HBW := Lib.hid (bthen HB2.out hb2)
          have HNE : Hid (px < py ∧ py < pz ∧ pz < g ∧ w.heap.size ≤ px) := Lib.hid ⟨hxy, hyz, by rw [← hg]; exact HDZ2.out.lt, hpx⟩
          rw [hW, hg]
          clear hb2 hW hg HB2 HDX2 HDY2 HDZ2 hxy hyz hpx
          go_wp2_with fail
          go_loopw [49] (fun i w' => ∃ (k : Nat) (l : List UInt8) (f : Nat), k ≤ L ∧ i = .int .i64 k ∧ DK w' px (n * 64) l f ∧ DK w' py (n * 64) l f ∧ DK w' pz (n * 64) l f ∧ rowAt w' g = some (#[.int .i64 (n * 64), .int .i64 0, .slice none 0 0], 35) ∧ (l.length : Int) ≤ n * 64 ∧ f ≤ l.length ∧ Below w.heap.size w w') (fun i _ => L - (intOf i).toNat)
          case atStart => exact ⟨0, [], 0, Nat.zero_le _, rfl, HX.out, HY.out, HZ.out, HRK.out, by simp; omega, Nat.le_refl _, HBW.out⟩
          case round =>
            rename World => wr
            obtain ⟨k, l, f, hk, rfl, hdx, hdy, hdz, hrow, hll, hfl, hb⟩ := hrel
            have HB2 := Lib.hid hb
            have HX2 := Lib.hid hdx
            have HY2 := Lib.hid hdy
            have HZ2 := Lib.hid hdz
            clear hb hdx hdy hdz HBW HX HY HZ HRK
            by_cases hlt : k < L
            · obtain ⟨b, o, rfl, hcell⟩ := (HT.out.below HB2.out).cell k hlt
              have hld : loadAgg Try.prog wr 37 (.pointer (some ⟨b, o + k * 4, none⟩)) = .ok (.value (.agg #[.int .i64 (E k).v, .int .i64 (E k).n, .int .i64 (E k).m, .slice (E k).a (E k).t.length (E k).c])) wr := load_step hcell
              have hby := (HT.out.below HB2.out).by_ k hlt
              have hcap := HT.out.cap k hlt
              have hnil := HT.out.nil k hlt
              have h4 := HF.out.2 k hlt
              clear hcell
              obtain ⟨z, hz⟩ : ∃ z, E k = z := ⟨_, rfl⟩
              rw [hz] at hld hby hcap hnil h4
              clear hz
              obtain ⟨zv, zn, zm, za, zc, zt⟩ := z
              have HBY2 := Lib.hid hby
              have HNIL := Lib.hid hnil
              clear hby hnil
              go_upto_region 8 with fail
              obtain ⟨W3, hW3⟩ : ∃ W3, wr.alloc (.cells #[.int .i64 zv, .int .i64 zn, .int .i64 zm, .slice za zt.length zc] 37) = W3 := ⟨_, rfl⟩
              obtain ⟨h8, hh8⟩ : ∃ h8, wr.heap.size = h8 := ⟨_, rfl⟩
              have hb3 : Below wr.heap.size wr W3 := by rw [← hW3]; exact (Below.refl _ _).alloc (Nat.le_refl _) _
              have hrow8 : rowAt W3 h8 = some (#[.int .i64 zv, .int .i64 zn, .int .i64 zm, .slice za zt.length zc], 37) := by rw [← hW3]; exact rowAt_alloc_at _ _ _ _ hh8.symm
              have hrow3 := rowKeep hb3 hrow
              have HX3 := Lib.hid (HX2.out.below hb3)
              have HY3 := Lib.hid (HY2.out.below hb3)
              have HZ3 := Lib.hid (HZ2.out.below hb3)
              have HB3 := Lib.hid (bthen HB2.out hb3)
              have HBY3 := Lib.hid (HBY2.out.below hb3)
              have HG8 : Hid (g < h8) := Lib.hid (by rw [← hh8]; exact rowAt_lt hrow)
              rw [hW3, hh8]
              clear hW3 hh8 hb3 hrow HX2 HY2 HZ2 HB2 HBY2 hld
              have hLs := stepL_len (l := l) (t := zt) (f := f) (V := zv) (N := zn) (M := zm) hll
              have hFl := stepF_le (s := n * 64) (l := l) (t := zt) (V := zv) (N := zn) (M := zm) hfl
              obtain ⟨l1, hl1⟩ : ∃ l1, stepL (n * 64) l f zv zn zm zt = l1 := ⟨_, rfl⟩
              obtain ⟨f1, hf1⟩ : ∃ f1, stepF (n * 64) l f zv zn zm zt = f1 := ⟨_, rfl⟩
              rw [hl1] at hLs hFl
              rw [hf1] at hFl
              have HL1 := Lib.hid hl1
              have HF1 := Lib.hid hf1
              clear hl1 hf1
              go_wp2_with fail
              refine (does_any (lR := []) (fR := 0) HX3.out (IsBy.nil _ _) (Nat.zero_le _) (fun _ => rfl) HBY3.out hcap HNIL.out (by omega) (by omega) hll (by simp; omega) hfl (Nat.zero_le _) h4 HL1.out HF1.out rfl rfl).mono ?_
              rintro e w4 ⟨A3, c3, ok3, rfl, _, _, _, hd, hbt, _⟩
              have hrow4 : rowAt w4 g = some (#[.int .i64 (n * 64), .int .i64 0, .slice none 0 0], 35) := (hbt.row (rowAt_lt hrow3) (by have := HNE.out; omega)).trans hrow3
              have hrow8' : rowAt w4 h8 = some (#[.int .i64 zv, .int .i64 zn, .int .i64 zm, .slice za zt.length zc], 37) := (hbt.row (rowAt_lt hrow8) (by have := HNE.out; have := HG8.out; omega)).trans hrow8
              have HB4 := Lib.hid (HB3.out.trans (hbt.below (by have := HNE.out; omega) HB3.out.size))
              have HX4 := Lib.hid hd
              have HY4 := Lib.hid (HY3.out.bt HX3.out hbt (by have := HNE.out; omega))
              have HZ4 := Lib.hid (HZ3.out.bt HX3.out hbt (by have := HNE.out; omega))
              have HBY4 := Lib.hid (HBY3.out.bt HX3.out hbt)
              clear hd hbt hrow3 hrow8 HB3 HX3 HY3 HZ3 HBY3
              have hrow8 := hrow8'
              clear hrow8'
              go_wp2_with fail
              refine (does_any (lR := []) (fR := 0) HY4.out (IsBy.nil _ _) (Nat.zero_le _) (fun _ => rfl) HBY4.out hcap HNIL.out (by omega) (by omega) hll (by simp; omega) hfl (Nat.zero_le _) h4 HL1.out HF1.out rfl rfl).mono ?_
              rintro e w5 ⟨A4, c4, ok4, rfl, _, _, _, hd, hbt, _⟩
              have hrow5 : rowAt w5 g = some (#[.int .i64 (n * 64), .int .i64 0, .slice none 0 0], 35) := (hbt.row (rowAt_lt hrow4) (by have := HNE.out; omega)).trans hrow4
              have hrow8' : rowAt w5 h8 = some (#[.int .i64 zv, .int .i64 zn, .int .i64 zm, .slice za zt.length zc], 37) := (hbt.row (rowAt_lt hrow8) (by have := HNE.out; have := HG8.out; omega)).trans hrow8
              have HB5 := Lib.hid (HB4.out.trans (hbt.below (by have := HNE.out; omega) HB4.out.size))
              have HY5 := Lib.hid hd
              have HX5 := Lib.hid (HX4.out.bt HY4.out hbt (by have := HNE.out; omega))
              have HZ5 := Lib.hid (HZ4.out.bt HY4.out hbt (by have := HNE.out; omega))
              have HBY5 := Lib.hid (HBY4.out.bt HY4.out hbt)
              clear hd hbt hrow4 hrow8 HB4 HY4 HX4 HZ4 HBY4
              have hrow8 := hrow8'
              clear hrow8'
              go_wp2_with fail
              refine (does_any (lR := []) (fR := 0) HZ5.out (IsBy.nil _ _) (Nat.zero_le _) (fun _ => rfl) HBY5.out hcap HNIL.out (by omega) (by omega) hll (by simp; omega) hfl (Nat.zero_le _) h4 HL1.out HF1.out rfl rfl).mono ?_
              rintro e w6 ⟨A5, c5, ok5, rfl, _, _, _, hd, hbt, _⟩
              have hrow6 : rowAt w6 g = some (#[.int .i64 (n * 64), .int .i64 0, .slice none 0 0], 35) := (hbt.row (rowAt_lt hrow5) (by have := HNE.out; omega)).trans hrow5
              have hrow8' : rowAt w6 h8 = some (#[.int .i64 zv, .int .i64 zn, .int .i64 zm, .slice za zt.length zc], 37) := (hbt.row (rowAt_lt hrow8) (by have := HNE.out; have := HG8.out; omega)).trans hrow8
              have HB6 := Lib.hid (HB5.out.trans (hbt.below (by have := HNE.out; omega) HB5.out.size))
              have HZ6 := Lib.hid hd
              have HX6 := Lib.hid (HX5.out.bt HZ5.out hbt (by have := HNE.out; omega))
              have HY6 := Lib.hid (HY5.out.bt HZ5.out hbt (by have := HNE.out; omega))
              have HBY6 := Lib.hid (HBY5.out.bt HZ5.out hbt)
              clear hd hbt hrow5 hrow8 HB5 HZ5 HX5 HY5 HBY5
              have hrow8 := hrow8'
              clear hrow8'
              have HROW6 := Lib.hid hrow6
              clear hrow6 hrow8
              go_wp2_with fail
              go_roundw
              case rel => exact ⟨k + 1, l1, f1, by omega, by go_num, HX6.out, HY6.out, HZ6.out, HROW6.out, hLs, hFl, HB6.out⟩
              case measure => simp [intOf]; omega
            · obtain rfl : k = L := by omega
              clear hrow
              go_wp2_with fail
              refine (dbytes_any HZ2.out (by omega)).mono ?_
              rintro e w3 ⟨gw, rfl, hr, hgw, hb⟩
              have HWAS := Lib.hid (isBy_full hr)
              have HX3 := Lib.hid (HX2.out.below hb)
              have HY3 := Lib.hid (HY2.out.below hb)
              have HZ3 := Lib.hid (HZ2.out.below hb)
              have HB3 := Lib.hid (bthen HB2.out hb)
              clear hr hb HX2 HY2 HZ2 HB2
              go_wp2_with fail
              refine (crash_cut xa xc HX3.out hfl (by omega)).mono ?_
              rintro e w4 ⟨lx, rfl, hd, hx1, _, hx4, hx5, hbt⟩
              have HX4 := Lib.hid hd
              have HY4 := Lib.hid (HY3.out.bt HX3.out hbt (by have := HNE.out; omega))
              have HZ4 := Lib.hid (HZ3.out.bt HX3.out hbt (by have := HNE.out; omega))
              have HWAS4 := Lib.hid (HWAS.out.bt HX3.out hbt)
              have HB4 := Lib.hid (HB3.out.trans (hbt.below (by have := HNE.out; omega) HB3.out.size))
              clear hx1 hd hbt HX3 HY3 HZ3 HWAS HB3
              go_wp2_with fail
              refine (crash_cut xb xe HY4.out hfl (by omega)).mono ?_
              rintro e w5 ⟨ly, rfl, hd, hy1, _, hy4, hy5, hbt⟩
              have HY5 := Lib.hid hd
              have HX5 := Lib.hid (HX4.out.bt HY4.out hbt (by have := HNE.out; omega))
              have HZ5 := Lib.hid (HZ4.out.bt HY4.out hbt (by have := HNE.out; omega))
              have HWAS5 := Lib.hid (HWAS4.out.bt HY4.out hbt)
              have HB5 := Lib.hid (HB4.out.trans (hbt.below (by have := HNE.out; omega) HB4.out.size))
              clear hy1 hd hbt HX4 HY4 HZ4 HWAS4 HB4
              go_wp2_with fail
              refine (crash_cut 16384 0 HZ5.out hfl (by omega)).mono ?_
              rintro e w6 ⟨lz, rfl, hd, hz2, _, _, hz5, hbt⟩
              have hzl : lz = l := by
                rw [crash_all (by omega) hfl] at hz5
                rw [hz2, show lz.length = l.length by omega, List.take_length]
              subst hzl
              have HZ6 := Lib.hid hd
              have HX6 := Lib.hid (HX5.out.bt HZ5.out hbt (by have := HNE.out; omega))
              have HY6 := Lib.hid (HY5.out.bt HZ5.out hbt (by have := HNE.out; omega))
              have HWAS6 := Lib.hid (HWAS5.out.bt HZ5.out hbt)
              have HB6 := Lib.hid (HB5.out.trans (hbt.below (by have := HNE.out; omega) HB5.out.size))
              have k1 : lx.length ≤ ly.length := by
                have := crash_mono (n := lz.length) (f := f) (a := xa) (b := xb) (c := xc) (e := xe) (by omega) (by omega)
                omega
              clear hd hbt HX5 HY5 HZ5 HWAS5 HB5 hz2 hz5 hx5 hy5
              go_upto_region 16 with fail
              refine wp_region_held_drew (S := fun w' : World => IsBy w' (some ⟨gw, 0, none⟩) lz ∧ DK w' px (n * 64) lx lx.length ∧ DK w' py (n * 64) ly ly.length ∧ DK w' pz (n * 64) lz lz.length ∧ Hid (Below w.heap.size w w')) (by kernel_rfl) ⟨HWAS6.out.below (Below.refl _ _).drew, HX6.out.below (Below.refl _ _).drew, HY6.out.below (Below.refl _ _).drew, HZ6.out.below (Below.refl _ _).drew, Lib.hid HB6.out.drew⟩ (fun hS => ?_)
              clear HWAS6 HX6 HY6 HZ6 HB6
              generalize w6.drew = W7 at *
              refine held_take (i := 0) (by simp only [List.getElem?_toArray, List.getElem?_cons_succ, List.getElem?_cons_zero]; rfl) (by decide +kernel) (by decide +kernel) (by decide +kernel) (by exact fun _ _ _ _ h => h) hS (by rfl) ?_
              apply Exists.intro
              refine ⟨fun w' hSw => ?_, ?_⟩
              · go_simp
                with_reducible rfl
              (try simp only [act_put, act_put_none, List.set_cons_zero, List.set_cons_succ])
              refine held_take (i := 3) (by simp only [List.getElem?_toArray, List.getElem?_cons_succ, List.getElem?_cons_zero]; rfl) (by decide +kernel) (by decide +kernel) (by decide +kernel) (by exact fun _ _ _ _ h => h) hS (by rfl) ?_
              apply Exists.intro
              refine ⟨fun w' hSw => ?_, ?_⟩
              · go_simp
                with_reducible rfl
              (try simp only [act_put, act_put_none, List.set_cons_zero, List.set_cons_succ])
              refine wpAnyH_ready (rs := [1]) (by decide +kernel) (by simp) ?_
              refine AllReadyH.cons (i := 1) (by simp only [List.getElem?_toArray, List.getElem?_cons_succ, List.getElem?_cons_zero]; rfl) (fun K hK => ?_) ?_
              · go_simp
                go_at_call 12
                refine (dbytes_any hS.2.1 (by omega)).mono ?_
                rintro e u1 ⟨gu1, rfl, hr, _, hb⟩
                have HX := Lib.hid hb
                have HU1 := Lib.hid (isBy_full hr)
                clear hb hr
                go_simp
                refine hK.out _ _ ⟨hS.1.below HX.out, hS.2.1.below HX.out, hS.2.2.1.below HX.out, hS.2.2.2.1.below HX.out, Lib.hid (bthen hS.2.2.2.2.out HX.out)⟩ (fun hS2 => ?_)
                clear hS hK K
                have hS := hS2
                clear hS2
                clear HX
                (try simp only [act_put, act_put_none, List.set_cons_zero, List.set_cons_succ])
                refine held_take (i := 2) (by simp only [List.getElem?_toArray, List.getElem?_cons_succ, List.getElem?_cons_zero]; rfl) (by decide +kernel) (by decide +kernel) (by decide +kernel) (by exact fun _ _ _ _ h => h) hS (by rfl) ?_
                apply Exists.intro
                refine ⟨fun w' hSw => ?_, ?_⟩
                · go_simp
                  with_reducible rfl
                (try simp only [act_put, act_put_none, List.set_cons_zero, List.set_cons_succ])
                refine wpAnyH_ready (rs := [4]) (by decide +kernel) (by simp) ?_
                refine AllReadyH.cons (i := 4) (by simp only [List.getElem?_toArray, List.getElem?_cons_succ, List.getElem?_cons_zero]; rfl) (fun K hK => ?_) ?_
                · go_simp
                  go_at_call 12
                  refine (dbytes_any hS.2.2.1 (by omega)).mono ?_
                  rintro e u2 ⟨gu2, rfl, hr, _, hb⟩
                  have HX := Lib.hid hb
                  have HU2 := Lib.hid (isBy_full hr)
                  clear hb hr
                  go_simp
                  refine hK.out _ _ ⟨hS.1.below HX.out, hS.2.1.below HX.out, hS.2.2.1.below HX.out, hS.2.2.2.1.below HX.out, Lib.hid (bthen hS.2.2.2.2.out HX.out)⟩ (fun hS2 => ?_)
                  clear hS hK K
                  have hS := hS2
                  clear hS2
                  clear HX
                  (try simp only [act_put, act_put_none, List.set_cons_zero, List.set_cons_succ])
                  refine held_take (i := 5) (by simp only [List.getElem?_toArray, List.getElem?_cons_succ, List.getElem?_cons_zero]; rfl) (by decide +kernel) (by decide +kernel) (by decide +kernel) (by exact fun _ _ _ _ h => h) hS (by rfl) ?_
                  apply Exists.intro
                  refine ⟨fun w' hSw => ?_, ?_⟩
                  · go_simp
                    with_reducible rfl
                  (try simp only [act_put, act_put_none, List.set_cons_zero, List.set_cons_succ])
                  refine held_take (i := 6) (by simp only [List.getElem?_toArray, List.getElem?_cons_succ, List.getElem?_cons_zero]; rfl) (by decide +kernel) (by decide +kernel) (by decide +kernel) (by exact fun _ _ _ _ h => h) hS (by rfl) ?_
                  apply Exists.intro
                  refine ⟨fun w' hSw => ?_, ?_⟩
                  · go_simp
                    with_reducible rfl
                  (try simp only [act_put, act_put_none, List.set_cons_zero, List.set_cons_succ])
                  refine held_take (i := 7) (by simp only [List.getElem?_toArray, List.getElem?_cons_succ, List.getElem?_cons_zero]; rfl) (by decide +kernel) (by decide +kernel) (by decide +kernel) (by exact fun _ _ _ _ h => h) hS (by rfl) ?_
                  apply Exists.intro
                  refine ⟨fun w' hSw => ?_, ?_⟩
                  · go_simp
                    with_reducible rfl
                  (try simp only [act_put, act_put_none, List.set_cons_zero, List.set_cons_succ])
                  refine held_take (i := 8) (by simp only [List.getElem?_toArray, List.getElem?_cons_succ, List.getElem?_cons_zero]; rfl) (by decide +kernel) (by decide +kernel) (by decide +kernel) (by exact fun _ _ _ _ h => h) hS (by rfl) ?_
                  apply Exists.intro
                  refine ⟨fun w' hSw => ?_, ?_⟩
                  · go_simp
                    with_reducible rfl
                  (try simp only [act_put, act_put_none, List.set_cons_zero, List.set_cons_succ])
                  refine held_take (i := 11) (by simp only [List.getElem?_toArray, List.getElem?_cons_succ, List.getElem?_cons_zero]; rfl) (by decide +kernel) (by decide +kernel) (by decide +kernel) (by exact fun _ _ _ _ h => h) hS (by rfl) ?_
                  apply Exists.intro
                  refine ⟨fun w' hSw => ?_, ?_⟩
                  · go_simp
                    with_reducible rfl
                  (try simp only [act_put, act_put_none, List.set_cons_zero, List.set_cons_succ])
                  refine held_take (i := 12) (by simp only [List.getElem?_toArray, List.getElem?_cons_succ, List.getElem?_cons_zero]; rfl) (by decide +kernel) (by decide +kernel) (by decide +kernel) (by exact fun _ _ _ _ h => h) hS (by rfl) ?_
                  apply Exists.intro
                  refine ⟨fun w' hSw => ?_, ?_⟩
                  · obtain ⟨q1, _⟩ := hSw
                    have hcv := convB (c := lz.length) q1
                    go_simp
                    with_reducible rfl
                  (try simp only [act_put, act_put_none, List.set_cons_zero, List.set_cons_succ])
                  refine wpAnyH_ready (rs := [9]) (by decide +kernel) (by simp) ?_
                  refine AllReadyH.cons (i := 9) (by simp only [List.getElem?_toArray, List.getElem?_cons_succ, List.getElem?_cons_zero]; rfl) (fun K hK => ?_) ?_
                  · go_simp
                    go_at_call 12
                    refine (dbytes_any hS.2.2.2.1 (by omega)).mono ?_
                    rintro e u3 ⟨gu3, rfl, hr, _, hb⟩
                    have HX := Lib.hid hb
                    have HU3 := Lib.hid (isBy_full hr)
                    clear hb hr
                    go_simp
                    refine hK.out _ _ ⟨hS.1.below HX.out, hS.2.1.below HX.out, hS.2.2.1.below HX.out, hS.2.2.2.1.below HX.out, Lib.hid (bthen hS.2.2.2.2.out HX.out)⟩ (fun hS2 => ?_)
                    clear hS hK K
                    have hS := hS2
                    clear hS2
                    clear HX
                    (try simp only [act_put, act_put_none, List.set_cons_zero, List.set_cons_succ])
                    refine wpAnyH_ready (rs := [10]) (by decide +kernel) (by simp) ?_
                    refine AllReadyH.cons (i := 10) (by simp only [List.getElem?_toArray, List.getElem?_cons_succ, List.getElem?_cons_zero]; rfl) (fun K hK => ?_) ?_
                    · have hcv := convB (c := lz.length) HU3.out
                      go_simp
                      refine hK.out _ _ hS (fun hS2 => ?_)
                      clear hK K hS2 hcv
                      (try simp only [act_put, act_put_none, List.set_cons_zero, List.set_cons_succ])
                      refine held_take (i := 13) (by simp only [List.getElem?_toArray, List.getElem?_cons_succ, List.getElem?_cons_zero]; rfl) (by decide +kernel) (by decide +kernel) (by decide +kernel) (by exact fun _ _ _ _ h => h) hS (by rfl) ?_
                      apply Exists.intro
                      refine ⟨fun w' hSw => ?_, ?_⟩
                      · go_simp
                        with_reducible rfl
                      (try simp only [act_put, act_put_none, List.set_cons_zero, List.set_cons_succ])
                      refine held_take (i := 14) (by simp only [List.getElem?_toArray, List.getElem?_cons_succ, List.getElem?_cons_zero]; rfl) (by decide +kernel) (by decide +kernel) (by decide +kernel) (by exact fun _ _ _ _ h => h) hS (by rfl) ?_
                      apply Exists.intro
                      refine ⟨fun w' hSw => ?_, ?_⟩
                      · go_simp
                        with_reducible rfl
                      (try simp only [act_put, act_put_none, List.set_cons_zero, List.set_cons_succ])
                      refine held_take (i := 15) (by simp only [List.getElem?_toArray, List.getElem?_cons_succ, List.getElem?_cons_zero]; rfl) (by decide +kernel) (by decide +kernel) (by decide +kernel) (by exact fun _ _ _ _ h => h) hS (by rfl) ?_
                      apply Exists.intro
                      refine ⟨fun w' hSw => ?_, ?_⟩
                      · go_simp
                        with_reducible rfl
                      (try simp only [act_put, act_put_none, List.set_cons_zero, List.set_cons_succ])
                      refine wpAnyH_ready (rs := [16]) (by decide +kernel) (by simp) ?_
                      refine AllReadyH.cons (i := 16) (by simp only [List.getElem?_toArray, List.getElem?_cons_succ, List.getElem?_cons_zero]; rfl) (fun K hK => ?_) ?_
                      · go_simp
                        go_at_call 10
                        refine (awake11 _).mono ?_
                        rintro e v3 ⟨rfl, hb⟩
                        have HX := Lib.hid hb
                        clear hb
                        go_simp
                        refine hK.out _ _ ⟨hS.1.below HX.out, hS.2.1.below HX.out, hS.2.2.1.below HX.out, hS.2.2.2.1.below HX.out, Lib.hid (bthen hS.2.2.2.2.out HX.out)⟩ (fun hS2 => ?_)
                        clear hS hK K
                        have hS := hS2
                        clear hS2
                        clear HX
                        (try simp only [act_put, act_put_none, List.set_cons_zero, List.set_cons_succ])
                        refine held_take (i := 17) (by simp only [List.getElem?_toArray, List.getElem?_cons_succ, List.getElem?_cons_zero]; rfl) (by decide +kernel) (by decide +kernel) (by decide +kernel) (by exact fun _ _ _ _ h => h) hS (by rfl) ?_
                        apply Exists.intro
                        refine ⟨fun w' hSw => ?_, ?_⟩
                        · go_simp
                          with_reducible rfl
                        (try simp only [act_put, act_put_none, List.set_cons_zero, List.set_cons_succ])
                        refine held_take (i := 18) (by simp only [List.getElem?_toArray, List.getElem?_cons_succ, List.getElem?_cons_zero]; rfl) (by decide +kernel) (by decide +kernel) (by decide +kernel) (by exact fun _ _ _ _ h => h) hS (by rfl) ?_
                        apply Exists.intro
                        refine ⟨fun w' hSw => ?_, ?_⟩
                        · go_simp
                          with_reducible rfl
                        (try simp only [act_put, act_put_none, List.set_cons_zero, List.set_cons_succ])
                        refine wpAnyH_done (by decide +kernel) ?_ _
                        have HSF := Lib.hid hS.2.2.2.2.out
                        clear hS
                        go_wp2_with fail
                        go_ret
                        exact ⟨rfl, HSF.out⟩
                      exact AllReadyH.nil
                    exact AllReadyH.nil
                  exact AllReadyH.nil
                exact AllReadyH.nil
              exact AllReadyH.nil
end Go.Proofs.Ytfnbcafilbafgaa
