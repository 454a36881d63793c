/-
  The walk of WlogTorn.
-/
import Derived.Test.YtfnbcafilbafgaaDoorWlogRef
namespace Go.Proofs.YtfnbcafilbafgaaDoor
open Go.RowKit
set_option linter.unusedSimpArgs false
set_option linter.unusedVariables false
attribute [local go_sem] Later.cell
set_option maxRecDepth 20000 in
set_option maxHeartbeats 8000000 in
theorem wlogTorn_walk (A : Option Addr) (c L : Nat) (V : Nat → Option Addr × Nat × List UInt8) (hm : L ≤ 9223372036854775807 ∧ (A = none → c = 0 ∧ L = 0) ∧ L ≤ c) (cut : Int) (hcut : -9223372036854775808 ≤ cut ∧ cut ≤ 9223372036854775807) (w : World) (hN : Nib w) (hT : Texts w A L V) :
    Calls Tryd.prog 4 #[.slice A L c, .int .i64 cut] w fun e w' => e = .returned (.bool true) ∧ Below w.heap.size w w' := by
  obtain ⟨hm1, hm2, hm3⟩ := hm
  have HN := Lib.hid hN
  obtain ⟨ps, rfl, hT'⟩ := TxIs.of hT
  have HT := Lib.hid hT'
  clear hN hT hT' hm2
  have AW : Hid (Calls Tryd.prog 9 #[] w fun e w' => e = .returned (.bool true) ∧ Below w.heap.size w w') := Lib.hid (awake12 w HN.out)
  go_enter Tryd.func4, Tryd.ntmps4
  by_cases hbig : 20 < ps.length
  · have g1 : decide ((20 : Int) < (ps.length : Int)) = true := decide_eq_true (by omega)
    go_wp2_with fail
    refine AW.out.mono ?_
    rintro e w9 ⟨rfl, hb9⟩
    have HB9 := Lib.hid hb9
    clear hb9
    go_wp2_with fail
    go_ret
    exact ⟨rfl, HB9.out⟩
  have g1 : decide ((20 : Int) < (ps.length : Int)) = false := decide_eq_false (by omega)
  go_wp2_with fail
  go_loopw [18] (fun i w' => ∃ k : Nat, k ≤ ps.length ∧ i = .int .i64 k ∧ (∀ j, j < k → (ps.getD j []).length ≤ 300) ∧ w = w') (fun i _ => ps.length - (intOf i).toNat)
  case atStart => exact ⟨0, Nat.zero_le _, rfl, fun j hj => absurd hj (Nat.not_lt_zero _), rfl⟩
  case round =>
    obtain ⟨k, hk, rfl, h300, rfl⟩ := hrel
    have H300 := Lib.hid h300
    clear h300
    by_cases hlt : k < ps.length
    · obtain ⟨b3, o3, rfl, d3⟩ := HT.out.1.cell k hlt
      have q3 := HT.out.2 k hlt
      generalize V k = z3 at *
      obtain ⟨B3, e3, t3⟩ := z3
      dsimp only at d3 q3
      by_cases hbad : 300 < t3.length
      · have j1 : decide ((300 : Int) < (t3.length : Int)) = true := decide_eq_true (by omega)
        clear q3
        go_wp2_with fail
        refine AW.out.mono ?_
        rintro e w9 ⟨rfl, hb9⟩
        have HB9 := Lib.hid hb9
        clear hb9
        go_wp2_with fail
        go_ret
        exact ⟨rfl, HB9.out⟩
      have j1 : decide ((300 : Int) < (t3.length : Int)) = false := decide_eq_false (by omega)
      have H301 : Hid (∀ j, j < k + 1 → (ps.getD j []).length ≤ 300) := Lib.hid (fun j hj => by
        rcases Nat.lt_or_ge j k with h | h
        · exact H300.out j h
        · obtain rfl : j = k := by omega
          rw [← q3]; omega)
      clear q3 H300
      go_wp2_with fail
      go_roundw
      case rel => exact ⟨k + 1, by omega, by go_num, H301.out, by first | rfl | trivial⟩
      case measure => simp [intOf]; omega
    · obtain rfl : k = ps.length := by omega
      have HALL : Hid (∀ p, p ∈ ps → p.length ≤ 300) := Lib.hid (fun p hp => by
        obtain ⟨i, hi, rfl⟩ := List.getElem_of_mem hp
        have := H300.out i hi
        simpa [List.getD, List.getElem?_eq_getElem hi] using this)
      have hfl := flatP_le 300 ps HALL.out
      have HFL : Hid ((flatP ps).length ≤ 6160) := Lib.hid (by omega)
      clear hfl H300 hlt hk
      go_wp2_with fail
      refine (rbytes_any A c _ V ps w HT.out rfl (by omega) (fun p hp => by have := HALL.out p hp; omega) (by have := HFL.out; omega)).mono ?_
      rintro e w1 ⟨v1, rfl, hown, hb⟩
      obtain ⟨A1, c1, rfl, i1, i2, i3, _⟩ := hown.isBy
      have HB1 := Lib.hid hb
      have HI1 := Lib.hid i1
      have HN1 := Lib.hid (HN.out.below hb)
      have HT1 := Lib.hid (HT.out.below hb)
      have I3 := Lib.hid i3
      have I2 := Lib.hid i2
      clear hown hb i1 i2 i3
      by_cases hneg : cut < 0
      · have j4 : decide (cut < 0) = true := decide_eq_true hneg
        go_wp2_with fail
        refine (awake12 w1 HN1.out).mono ?_
        rintro e w9 ⟨rfl, hb9⟩
        have HB9 := Lib.hid (bthen HB1.out hb9)
        clear hb9
        go_wp2_with fail
        go_ret
        exact ⟨rfl, HB9.out⟩
      have j4 : decide (cut < 0) = false := decide_eq_false hneg
      by_cases hgt : ((flatP ps).length : Int) < cut
      · have j5 : decide (((flatP ps).length : Int) < cut) = true := decide_eq_true hgt
        go_wp2_with fail
        refine (awake12 w1 HN1.out).mono ?_
        rintro e w9 ⟨rfl, hb9⟩
        have HB9 := Lib.hid (bthen HB1.out hb9)
        clear hb9
        go_wp2_with fail
        go_ret
        exact ⟨rfl, HB9.out⟩
      have j5 : decide (((flatP ps).length : Int) < cut) = false := decide_eq_false hgt
      obtain ⟨m, rfl⟩ : ∃ m : Nat, cut = m := ⟨cut.toNat, by omega⟩
      obtain ⟨n, n1, n2, n3⟩ := cut_n ps m
      have HSC := Lib.hid (scan_cut ps (fun p hp => by have := HALL.out p hp; omega) n1 (by omega) n2 n3)
      have hml : ((flatP ps).take m).length = m := by rw [List.length_take]; omega
      have HTT : Hid (((flatP ps).take m).take (flatP (ps.take n)).length = flatP (ps.take n)) := Lib.hid (by
        rw [List.take_take, Nat.min_eq_left n2]
        have e : flatP ps = flatP (ps.take n) ++ flatP (ps.drop n) := by rw [← flatP_append, List.take_append_drop]
        exact (congrArg (List.take _) e).trans (List.take_left' rfl))
      have HML := Lib.hid hml
      have N3 := Lib.hid n3
      have HMX : Hid (m ≤ 6160) := Lib.hid (by have := HFL.out; omega)
      have hi1 := HI1.out.take m
      have HI1t := Lib.hid hi1
      have i3' : (flatP ps).length ≤ c1 := I3.out
      have hmc : m ≤ c1 := by omega
      obtain ⟨X, hX⟩ : ∃ X, flatP ps = X := ⟨_, rfl⟩
      rw [hX] at HSC HML HTT HI1t j5 hgt
      rw [hX]
      clear hX hml hi1 n3 i3' HI1
      go_wp2_with fail
      refine (dnew_any 1024 (by decide) (by decide) w1).mono ?_
      rintro e w2 ⟨p, rfl, hd, hp, hb⟩
      have HB2 := Lib.hid (bthen HB1.out hb)
      have HD2 := Lib.hid hd
      have HT2 := Lib.hid (HT1.out.below hb)
      have HI2 := Lib.hid (HI1t.out.below hb)
      have hp' : w.heap.size ≤ p := Nat.le_trans HB1.out.size hp
      clear hd hb HI1t HT1
      go_wp2_with (refine bytes_slice_to rfl _ _ rfl A1 X.length c1 m rfl rfl hmc ?_)
      refine (dappend_is (t := X.take m) (B := A1) (c' := c1) HD2.out (by decide) (by decide) (by decide) HI2.out I2.out (by have := HML.out; have := HMX.out; simp at *; omega) HML.out).mono ?_
      rintro e w3 ⟨rfl, hd, hb⟩
      have HB3 := Lib.hid (HB2.out.trans (hb.below hp' HB2.out.size))
      have HN3 := Lib.hid (HN.out.below HB3.out)
      have HT3 := Lib.hid (HT.out.below HB3.out)
      have HD3 := Lib.hid (show DK w3 p (1024 * 64) (X.take m) 0 from hd)
      clear hd hb HD2 HT2 HI2
      go_wp2_with fail
      refine (wopen_ok (base := w.heap.size) HD3.out HN3.out (by have := HML.out; have := HMX.out; omega) HSC.out.1 HSC.out.2 hp' HB3.out.size).mono ?_
      rintro e w4 ⟨q, rfl, hg, hb, _, _⟩
      rw [HTT.out] at hg
      have HB4 := Lib.hid (HB3.out.trans hb)
      have HG4 := Lib.hid hg
      have HN4 := Lib.hid (HN.out.below HB4.out)
      have HT4 := Lib.hid (HT.out.below HB4.out)
      clear hg hb HD3 HT3 HN3 HSC HTT
      go_wp2_with fail
      go_loopw [11] (fun i w' => ∃ k : Nat, k ≤ n ∧ i = .int .i64 k ∧ Below w4.heap.size w4 w') (fun i _ => n - (intOf i).toNat)
      case atStart => exact ⟨0, Nat.zero_le _, rfl, Below.refl _ _⟩
      case round =>
        rename World => wr
        obtain ⟨k, hk, rfl, hb⟩ := hrel
        have HBr := Lib.hid hb
        have HTr := Lib.hid (HT4.out.below hb)
        clear hb
        have hkc : k + 1 ≤ ps.length → k + 1 ≤ c := fun h => by omega
        have hkl : (ps.take (k + 1)).length ≤ 20 := by rw [List.length_take]; omega
        by_cases hlt : k < ps.length
        · have hlk : (ps.take (k + 1)).length = k + 1 := by rw [List.length_take]; omega
          have hkc' := hkc hlt
          have hfk : (flatP (ps.take (k + 1))).length ≤ 6160 := Nat.le_trans (flatP_len_take _ _) HFL.out
          have hRB := Lib.hid (rbytes_any A c (k + 1) V (ps.take (k + 1)) wr (HTr.out.take (k + 1)) hlk (by omega) (fun p hp => by have := HALL.out p (List.mem_of_mem_take hp); omega) (by omega))
          by_cases hkn : k < n
          · have hle : (flatP (ps.take (k + 1))).length ≤ m := by have := flatP_mono ps (show k + 1 ≤ n by omega); omega
            have j6 : decide (((flatP (ps.take (k + 1))).length : Int) ≤ m) = true := decide_eq_true (by omega)
            have HRB := Lib.hid hRB
            clear hRB
            go_wp2_with fail
            refine HRB.out.out.mono ?_
            rintro e w5 ⟨v5, rfl, hown, hb⟩
            obtain ⟨A5, c5, rfl, _, _, _, _⟩ := hown.isBy
            have HB5 := Lib.hid (HBr.out.trans (hb.mono HBr.out.size))
            generalize (flatP (ps.take (k + 1))).length = fl at *
            clear hown hb HRB
            go_wp2_with fail
            go_roundw
            case rel => exact ⟨k + 1, by omega, by go_num, HB5.out⟩
            case measure => simp [intOf]; omega
          · obtain rfl : k = n := by omega
            have hle : ¬ (flatP (ps.take (k + 1))).length ≤ m := by have := N3.out hlt; omega
            have j6 : decide (((flatP (ps.take (k + 1))).length : Int) ≤ m) = false := decide_eq_false (by omega)
            have HRB := Lib.hid hRB
            clear hRB
            go_wp2_with fail
            refine HRB.out.out.mono ?_
            rintro e w5 ⟨v5, rfl, hown, hb⟩
            obtain ⟨A5, c5, rfl, _, _, _, _⟩ := hown.isBy
            have HB5 := Lib.hid (HBr.out.trans (hb.mono HBr.out.size))
            generalize (flatP (ps.take (k + 1))).length = fl at *
            clear hown hb HRB HBr HTr
            have HGF := Lib.hid (HG4.out.below HB5.out)
            have HTF := Lib.hid (HT4.out.below HB5.out)
            have HNF := Lib.hid (HN4.out.below HB5.out)
            have HBF := Lib.hid (bthen HB4.out HB5.out)
            have HTL : Hid ((ps.take (k)).length = k) := Lib.hid (by rw [List.length_take]; omega)
            have HYL : Hid ((flatP (ps.take (k))).length ≤ 6160) := Lib.hid (Nat.le_trans (flatP_len_take _ _) HFL.out)
            have hnc : k ≤ c := by omega
            go_upto_region 21 with fail
            refine wp_region_held_drew (S := fun w' : World => LG w.heap.size w' q p (1024 * 64) (flatP (ps.take (k))) ((flatP (ps.take (k))).length : Nat) (ps.take (k)) ∧ TxIs w' A V ps ∧ Nib w' ∧ Hid (Below w.heap.size w w')) (by kernel_rfl) ⟨HGF.out.below (Below.refl _ _).drew, HTF.out.below (Below.refl _ _).drew, HNF.out.below (Below.refl _ _).drew, Lib.hid HBF.out.drew⟩ (fun hS => ?_)
            clear HGF HTF HNF HBF
            generalize w5.drew = W7 at *
            refine held_take (i := 0) (by simp only [List.getElem?_toArray, List.getElem?_cons_succ, List.getElem?_cons_zero]; rfl) (by decide +kernel) (by decide +kernel) (by decide +kernel) (by exact fun _ _ _ _ h => h) hS (by rfl) ?_
            apply Exists.intro
            refine ⟨fun w' hSw => ?_, ?_⟩
            · go_simp
              with_reducible rfl
            (try simp only [act_put, act_put_none, List.set_cons_zero, List.set_cons_succ])
            refine held_take (i := 2) (by simp only [List.getElem?_toArray, List.getElem?_cons_succ, List.getElem?_cons_zero]; rfl) (by decide +kernel) (by decide +kernel) (by decide +kernel) (by exact fun _ _ _ _ h => h) hS (by rfl) ?_
            apply Exists.intro
            refine ⟨fun w' hSw => ?_, ?_⟩
            · go_simp
              with_reducible rfl
            (try simp only [act_put, act_put_none, List.set_cons_zero, List.set_cons_succ])
            refine held_take (i := 3) (by simp only [List.getElem?_toArray, List.getElem?_cons_succ, List.getElem?_cons_zero]; rfl) (by decide +kernel) (by decide +kernel) (by decide +kernel) (by exact fun _ _ _ _ h => h) hS (by rfl) ?_
            apply Exists.intro
            refine ⟨fun w' hSw => ?_, ?_⟩
            · go_simp
              with_reducible rfl
            (try simp only [act_put, act_put_none, List.set_cons_zero, List.set_cons_succ])
            refine held_take (i := 4) (by simp only [List.getElem?_toArray, List.getElem?_cons_succ, List.getElem?_cons_zero]; rfl) (by decide +kernel) (by decide +kernel) (by decide +kernel) (by exact fun _ _ _ _ h => h) hS (by rfl) ?_
            apply Exists.intro
            refine ⟨fun w' hSw => ?_, ?_⟩
            · go_simp
              with_reducible rfl
            (try simp only [act_put, act_put_none, List.set_cons_zero, List.set_cons_succ])
            refine wpAnyH_ready (rs := [1]) (by decide +kernel) (by simp) ?_
            refine AllReadyH.cons (i := 1) (by simp only [List.getElem?_toArray, List.getElem?_cons_succ, List.getElem?_cons_zero]; rfl) (fun K hK => ?_) ?_
            · go_simp
              go_at_call 17
              refine (wall_any hS.1 (by have := HTL.out; omega) (fun t ht => by have := HALL.out t (List.mem_of_mem_take ht); omega)).mono ?_
              rintro e v1 ⟨va, rfl, hown, hb⟩
              have HX := Lib.hid hb
              obtain ⟨Aa, ca, Va, rfl, hta, _, _⟩ := hown.is
              have HTA := Lib.hid hta
              rw [HTL.out]
              clear hb hown hta
              go_simp
              refine hK.out _ _ ⟨hS.1.below HX.out, hS.2.1.below HX.out, hS.2.2.1.below HX.out, Lib.hid (bthen hS.2.2.2.out HX.out)⟩ (fun hS2 => ?_)
              clear hS hK K
              have hS := hS2
              clear hS2
              clear HX
              (try simp only [act_put, act_put_none, List.set_cons_zero, List.set_cons_succ])
              refine wpAnyH_ready (rs := [5]) (by decide +kernel) (by simp) ?_
              refine AllReadyH.cons (i := 5) (by simp only [List.getElem?_toArray, List.getElem?_cons_succ, List.getElem?_cons_zero]; rfl) (fun K hK => ?_) ?_
              · go_simp
                go_at_call 16
                refine (same_true _ _ _ _ _ Va V (ps.take (k)) _ HTA.out (hS.2.1.take (k)) HTL.out (by omega)).mono ?_
                rintro e v2 ⟨rfl, hb⟩
                have HX := Lib.hid hb
                clear hb HTA
                go_simp
                refine hK.out _ _ ⟨hS.1.below HX.out, hS.2.1.below HX.out, hS.2.2.1.below HX.out, Lib.hid (bthen hS.2.2.2.out HX.out)⟩ (fun hS2 => ?_)
                clear hS hK K
                have hS := hS2
                clear hS2
                clear HX
                (try simp only [act_put, act_put_none, List.set_cons_zero, List.set_cons_succ])
                refine held_take (i := 6) (by simp only [List.getElem?_toArray, List.getElem?_cons_succ, List.getElem?_cons_zero]; rfl) (by decide +kernel) (by decide +kernel) (by decide +kernel) (by exact fun _ _ _ _ h => h) hS (by rfl) ?_
                apply Exists.intro
                refine ⟨fun w' hSw => ?_, ?_⟩
                · go_simp
                  with_reducible rfl
                (try simp only [act_put, act_put_none, List.set_cons_zero, List.set_cons_succ])
                refine held_take (i := 7) (by simp only [List.getElem?_toArray, List.getElem?_cons_succ, List.getElem?_cons_zero]; rfl) (by decide +kernel) (by decide +kernel) (by decide +kernel) (by exact fun _ _ _ _ h => h) hS (by rfl) ?_
                apply Exists.intro
                refine ⟨fun w' hSw => ?_, ?_⟩
                · go_simp
                  with_reducible rfl
                (try simp only [act_put, act_put_none, List.set_cons_zero, List.set_cons_succ])
                refine held_take (i := 10) (by simp only [List.getElem?_toArray, List.getElem?_cons_succ, List.getElem?_cons_zero]; rfl) (by decide +kernel) (by decide +kernel) (by decide +kernel) (by exact fun _ _ _ _ h => h) hS (by rfl) ?_
                apply Exists.intro
                refine ⟨fun w' hSw => ?_, ?_⟩
                · go_simp
                  with_reducible rfl
                (try simp only [act_put, act_put_none, List.set_cons_zero, List.set_cons_succ])
                refine held_take (i := 11) (by simp only [List.getElem?_toArray, List.getElem?_cons_succ, List.getElem?_cons_zero]; rfl) (by decide +kernel) (by decide +kernel) (by decide +kernel) (by exact fun _ _ _ _ h => h) hS (by rfl) ?_
                apply Exists.intro
                refine ⟨fun w' hSw => ?_, ?_⟩
                · go_simp
                  with_reducible rfl
                (try simp only [act_put, act_put_none, List.set_cons_zero, List.set_cons_succ])
                refine held_take (i := 12) (by simp only [List.getElem?_toArray, List.getElem?_cons_succ, List.getElem?_cons_zero]; rfl) (by decide +kernel) (by decide +kernel) (by decide +kernel) (by exact fun _ _ _ _ h => h) hS (by rfl) ?_
                apply Exists.intro
                refine ⟨fun w' hSw => ?_, ?_⟩
                · go_simp
                  with_reducible rfl
                (try simp only [act_put, act_put_none, List.set_cons_zero, List.set_cons_succ])
                refine wpAnyH_ready (rs := [8]) (by decide +kernel) (by simp) ?_
                refine AllReadyH.cons (i := 8) (by simp only [List.getElem?_toArray, List.getElem?_cons_succ, List.getElem?_cons_zero]; rfl) (fun K hK => ?_) ?_
                · go_simp
                  go_at_call 15
                  refine (dbytes_any hS.1.dk (by have := HYL.out; omega)).mono ?_
                  rintro e v3 ⟨g3, rfl, _, _, hb⟩
                  have HX := Lib.hid hb
                  clear hb
                  go_simp
                  refine hK.out _ _ ⟨hS.1.below HX.out, hS.2.1.below HX.out, hS.2.2.1.below HX.out, Lib.hid (bthen hS.2.2.2.out HX.out)⟩ (fun hS2 => ?_)
                  clear hS hK K
                  have hS := hS2
                  clear hS2
                  clear HX
                  (try simp only [act_put, act_put_none, List.set_cons_zero, List.set_cons_succ])
                  refine held_take (i := 9) (by simp only [List.getElem?_toArray, List.getElem?_cons_succ, List.getElem?_cons_zero]; rfl) (by decide +kernel) (by decide +kernel) (by decide +kernel) (by exact fun _ _ _ _ h => h) hS (by rfl) ?_
                  apply Exists.intro
                  refine ⟨fun w' hSw => ?_, ?_⟩
                  · go_simp
                    with_reducible rfl
                  (try simp only [act_put, act_put_none, List.set_cons_zero, List.set_cons_succ])
                  refine wpAnyH_ready (rs := [13]) (by decide +kernel) (by simp) ?_
                  refine AllReadyH.cons (i := 13) (by simp only [List.getElem?_toArray, List.getElem?_cons_succ, List.getElem?_cons_zero]; rfl) (fun K hK => ?_) ?_
                  · go_simp
                    go_at_call 10
                    refine (rbytes_any A c _ V (ps.take (k)) _ (hS.2.1.take (k)) HTL.out (by omega) (fun p hp => by have := HALL.out p (List.mem_of_mem_take hp); omega) (by have := HYL.out; omega)).mono ?_
                    rintro e v4 ⟨vb, rfl, hown, hb⟩
                    obtain ⟨Ab, cb, rfl, _, _, _, _⟩ := hown.isBy
                    have HX := Lib.hid hb
                    clear hb hown
                    go_simp
                    refine hK.out _ _ ⟨hS.1.below HX.out, hS.2.1.below HX.out, hS.2.2.1.below HX.out, Lib.hid (bthen hS.2.2.2.out HX.out)⟩ (fun hS2 => ?_)
                    clear hS hK K
                    have hS := hS2
                    clear hS2
                    clear HX
                    (try simp only [act_put, act_put_none, List.set_cons_zero, List.set_cons_succ])
                    refine held_take (i := 14) (by simp only [List.getElem?_toArray, List.getElem?_cons_succ, List.getElem?_cons_zero]; rfl) (by decide +kernel) (by decide +kernel) (by decide +kernel) (by exact fun _ _ _ _ h => h) hS (by rfl) ?_
                    apply Exists.intro
                    refine ⟨fun w' hSw => ?_, ?_⟩
                    · go_simp
                      with_reducible rfl
                    (try simp only [act_put, act_put_none, List.set_cons_zero, List.set_cons_succ])
                    refine held_take (i := 15) (by simp only [List.getElem?_toArray, List.getElem?_cons_succ, List.getElem?_cons_zero]; rfl) (by decide +kernel) (by decide +kernel) (by decide +kernel) (by exact fun _ _ _ _ h => h) hS (by rfl) ?_
                    apply Exists.intro
                    refine ⟨fun w' hSw => ?_, ?_⟩
                    · go_simp
                      with_reducible rfl
                    (try simp only [act_put, act_put_none, List.set_cons_zero, List.set_cons_succ])
                    refine held_take (i := 16) (by simp only [List.getElem?_toArray, List.getElem?_cons_succ, List.getElem?_cons_zero]; rfl) (by decide +kernel) (by decide +kernel) (by decide +kernel) (by exact fun _ _ _ _ h => h) hS (by rfl) ?_
                    apply Exists.intro
                    refine ⟨fun w' hSw => ?_, ?_⟩
                    · go_simp
                      with_reducible rfl
                    (try simp only [act_put, act_put_none, List.set_cons_zero, List.set_cons_succ])
                    refine held_take (i := 17) (by simp only [List.getElem?_toArray, List.getElem?_cons_succ, List.getElem?_cons_zero]; rfl) (by decide +kernel) (by decide +kernel) (by decide +kernel) (by exact fun _ _ _ _ h => h) hS (by rfl) ?_
                    apply Exists.intro
                    refine ⟨fun w' hSw => ?_, ?_⟩
                    · go_simp
                      with_reducible rfl
                    (try simp only [act_put, act_put_none, List.set_cons_zero, List.set_cons_succ])
                    refine held_take (i := 18) (by simp only [List.getElem?_toArray, List.getElem?_cons_succ, List.getElem?_cons_zero]; rfl) (by decide +kernel) (by decide +kernel) (by decide +kernel) (by exact fun _ _ _ _ h => h) hS (by rfl) ?_
                    apply Exists.intro
                    refine ⟨fun w' hSw => ?_, ?_⟩
                    · go_simp
                      with_reducible rfl
                    (try simp only [act_put, act_put_none, List.set_cons_zero, List.set_cons_succ])
                    refine held_take (i := 20) (by simp only [List.getElem?_toArray, List.getElem?_cons_succ, List.getElem?_cons_zero]; rfl) (by decide +kernel) (by decide +kernel) (by decide +kernel) (by exact fun _ _ _ _ h => h) hS (by rfl) ?_
                    apply Exists.intro
                    refine ⟨fun w' hSw => ?_, ?_⟩
                    · go_simp
                      with_reducible rfl
                    (try simp only [act_put, act_put_none, List.set_cons_zero, List.set_cons_succ])
                    refine wpAnyH_ready (rs := [19]) (by decide +kernel) (by simp) ?_
                    refine AllReadyH.cons (i := 19) (by simp only [List.getElem?_toArray, List.getElem?_cons_succ, List.getElem?_cons_zero]; rfl) (fun K hK => ?_) ?_
                    · go_simp
                      go_at_call 18
                      refine (dsafe_any hS.1.dk).mono ?_
                      rintro e _ ⟨rfl, rfl⟩
                      go_simp
                      refine hK.out _ _ hS (fun hS2 => ?_)
                      clear hK K hS2
                      (try simp only [act_put, act_put_none, List.set_cons_zero, List.set_cons_succ])
                      refine wpAnyH_ready (rs := [21]) (by decide +kernel) (by simp) ?_
                      refine AllReadyH.cons (i := 21) (by simp only [List.getElem?_toArray, List.getElem?_cons_succ, List.getElem?_cons_zero]; rfl) (fun K hK => ?_) ?_
                      · go_simp
                        go_at_call 15
                        refine (dbytes_any hS.1.dk (by have := HYL.out; omega)).mono ?_
                        rintro e v5 ⟨g5, rfl, _, _, hb⟩
                        have HX := Lib.hid hb
                        clear hb
                        go_simp
                        refine hK.out _ _ ⟨hS.1.below HX.out, hS.2.1.below HX.out, hS.2.2.1.below HX.out, Lib.hid (bthen hS.2.2.2.out HX.out)⟩ (fun hS2 => ?_)
                        clear hS hK K
                        have hS := hS2
                        clear hS2
                        clear HX
                        (try simp only [act_put, act_put_none, List.set_cons_zero, List.set_cons_succ])
                        refine held_take (i := 22) (by simp only [List.getElem?_toArray, List.getElem?_cons_succ, List.getElem?_cons_zero]; rfl) (by decide +kernel) (by decide +kernel) (by decide +kernel) (by exact fun _ _ _ _ h => h) hS (by rfl) ?_
                        apply Exists.intro
                        refine ⟨fun w' hSw => ?_, ?_⟩
                        · go_simp
                          with_reducible rfl
                        (try simp only [act_put, act_put_none, List.set_cons_zero, List.set_cons_succ])
                        refine held_take (i := 23) (by simp only [List.getElem?_toArray, List.getElem?_cons_succ, List.getElem?_cons_zero]; rfl) (by decide +kernel) (by decide +kernel) (by decide +kernel) (by exact fun _ _ _ _ h => h) hS (by rfl) ?_
                        apply Exists.intro
                        refine ⟨fun w' hSw => ?_, ?_⟩
                        · go_simp
                          with_reducible rfl
                        (try simp only [act_put, act_put_none, List.set_cons_zero, List.set_cons_succ])
                        refine held_take (i := 24) (by simp only [List.getElem?_toArray, List.getElem?_cons_succ, List.getElem?_cons_zero]; rfl) (by decide +kernel) (by decide +kernel) (by decide +kernel) (by exact fun _ _ _ _ h => h) hS (by rfl) ?_
                        apply Exists.intro
                        refine ⟨fun w' hSw => ?_, ?_⟩
                        · go_simp
                          with_reducible rfl
                        (try simp only [act_put, act_put_none, List.set_cons_zero, List.set_cons_succ])
                        refine held_take (i := 25) (by simp only [List.getElem?_toArray, List.getElem?_cons_succ, List.getElem?_cons_zero]; rfl) (by decide +kernel) (by decide +kernel) (by decide +kernel) (by exact fun _ _ _ _ h => h) hS (by rfl) ?_
                        apply Exists.intro
                        refine ⟨fun w' hSw => ?_, ?_⟩
                        · go_simp
                          with_reducible rfl
                        (try simp only [act_put, act_put_none, List.set_cons_zero, List.set_cons_succ])
                        refine wpAnyH_ready (rs := [26]) (by decide +kernel) (by simp) ?_
                        refine AllReadyH.cons (i := 26) (by simp only [List.getElem?_toArray, List.getElem?_cons_succ, List.getElem?_cons_zero]; rfl) (fun K hK => ?_) ?_
                        · go_simp
                          go_at_call 9
                          refine (awake12 _ hS.2.2.1).mono ?_
                          rintro e v6 ⟨rfl, hb⟩
                          have HX := Lib.hid hb
                          clear hb
                          go_simp
                          refine hK.out _ _ ⟨hS.1.below HX.out, hS.2.1.below HX.out, hS.2.2.1.below HX.out, Lib.hid (bthen hS.2.2.2.out HX.out)⟩ (fun hS2 => ?_)
                          clear hS hK K
                          have hS := hS2
                          clear hS2
                          clear HX
                          (try simp only [act_put, act_put_none, List.set_cons_zero, List.set_cons_succ])
                          refine held_take (i := 27) (by simp only [List.getElem?_toArray, List.getElem?_cons_succ, List.getElem?_cons_zero]; rfl) (by decide +kernel) (by decide +kernel) (by decide +kernel) (by exact fun _ _ _ _ h => h) hS (by rfl) ?_
                          apply Exists.intro
                          refine ⟨fun w' hSw => ?_, ?_⟩
                          · go_simp
                            with_reducible rfl
                          (try simp only [act_put, act_put_none, List.set_cons_zero, List.set_cons_succ])
                          refine held_take (i := 28) (by simp only [List.getElem?_toArray, List.getElem?_cons_succ, List.getElem?_cons_zero]; rfl) (by decide +kernel) (by decide +kernel) (by decide +kernel) (by exact fun _ _ _ _ h => h) hS (by rfl) ?_
                          apply Exists.intro
                          refine ⟨fun w' hSw => ?_, ?_⟩
                          · go_simp
                            with_reducible rfl
                          (try simp only [act_put, act_put_none, List.set_cons_zero, List.set_cons_succ])
                          refine wpAnyH_done (by decide +kernel) ?_ _
                          have HSF := Lib.hid hS.2.2.2.out
                          clear hS
                          go_wp2_with fail
                          go_ret
                          exact ⟨rfl, HSF.out⟩
                        exact AllReadyH.nil
                      exact AllReadyH.nil
                    exact AllReadyH.nil
                  exact AllReadyH.nil
                exact AllReadyH.nil
              exact AllReadyH.nil
            exact AllReadyH.nil
        · obtain rfl : k = ps.length := by omega
          obtain rfl : n = ps.length := by omega
          have HGF := Lib.hid (HG4.out.below HBr.out)
          have HTF := Lib.hid (HT4.out.below HBr.out)
          have HNF := Lib.hid (HN4.out.below HBr.out)
          have HBF := Lib.hid (bthen HB4.out HBr.out)
          have HTL : Hid ((ps.take (ps.length)).length = ps.length) := Lib.hid (by rw [List.length_take]; omega)
          have HYL : Hid ((flatP (ps.take (ps.length))).length ≤ 6160) := Lib.hid (Nat.le_trans (flatP_len_take _ _) HFL.out)
          have hnc : ps.length ≤ c := by omega
          go_upto_region 21 with fail
          refine wp_region_held_drew (S := fun w' : World => LG w.heap.size w' q p (1024 * 64) (flatP (ps.take (ps.length))) ((flatP (ps.take (ps.length))).length : Nat) (ps.take (ps.length)) ∧ TxIs w' A V ps ∧ Nib w' ∧ Hid (Below w.heap.size w w')) (by kernel_rfl) ⟨HGF.out.below (Below.refl _ _).drew, HTF.out.below (Below.refl _ _).drew, HNF.out.below (Below.refl _ _).drew, Lib.hid HBF.out.drew⟩ (fun hS => ?_)
          clear HGF HTF HNF HBF
          generalize wr.drew = W7 at *
          refine held_take (i := 0) (by simp only [List.getElem?_toArray, List.getElem?_cons_succ, List.getElem?_cons_zero]; rfl) (by decide +kernel) (by decide +kernel) (by decide +kernel) (by exact fun _ _ _ _ h => h) hS (by rfl) ?_
          apply Exists.intro
          refine ⟨fun w' hSw => ?_, ?_⟩
          · go_simp
            with_reducible rfl
          (try simp only [act_put, act_put_none, List.set_cons_zero, List.set_cons_succ])
          refine held_take (i := 2) (by simp only [List.getElem?_toArray, List.getElem?_cons_succ, List.getElem?_cons_zero]; rfl) (by decide +kernel) (by decide +kernel) (by decide +kernel) (by exact fun _ _ _ _ h => h) hS (by rfl) ?_
          apply Exists.intro
          refine ⟨fun w' hSw => ?_, ?_⟩
          · go_simp
            with_reducible rfl
          (try simp only [act_put, act_put_none, List.set_cons_zero, List.set_cons_succ])
          refine held_take (i := 3) (by simp only [List.getElem?_toArray, List.getElem?_cons_succ, List.getElem?_cons_zero]; rfl) (by decide +kernel) (by decide +kernel) (by decide +kernel) (by exact fun _ _ _ _ h => h) hS (by rfl) ?_
          apply Exists.intro
          refine ⟨fun w' hSw => ?_, ?_⟩
          · go_simp
            with_reducible rfl
          (try simp only [act_put, act_put_none, List.set_cons_zero, List.set_cons_succ])
          refine held_take (i := 4) (by simp only [List.getElem?_toArray, List.getElem?_cons_succ, List.getElem?_cons_zero]; rfl) (by decide +kernel) (by decide +kernel) (by decide +kernel) (by exact fun _ _ _ _ h => h) hS (by rfl) ?_
          apply Exists.intro
          refine ⟨fun w' hSw => ?_, ?_⟩
          · go_simp
            with_reducible rfl
          (try simp only [act_put, act_put_none, List.set_cons_zero, List.set_cons_succ])
          refine wpAnyH_ready (rs := [1]) (by decide +kernel) (by simp) ?_
          refine AllReadyH.cons (i := 1) (by simp only [List.getElem?_toArray, List.getElem?_cons_succ, List.getElem?_cons_zero]; rfl) (fun K hK => ?_) ?_
          · go_simp
            go_at_call 17
            refine (wall_any hS.1 (by have := HTL.out; omega) (fun t ht => by have := HALL.out t (List.mem_of_mem_take ht); omega)).mono ?_
            rintro e v1 ⟨va, rfl, hown, hb⟩
            have HX := Lib.hid hb
            obtain ⟨Aa, ca, Va, rfl, hta, _, _⟩ := hown.is
            have HTA := Lib.hid hta
            rw [HTL.out]
            clear hb hown hta
            go_simp
            refine hK.out _ _ ⟨hS.1.below HX.out, hS.2.1.below HX.out, hS.2.2.1.below HX.out, Lib.hid (bthen hS.2.2.2.out HX.out)⟩ (fun hS2 => ?_)
            clear hS hK K
            have hS := hS2
            clear hS2
            clear HX
            (try simp only [act_put, act_put_none, List.set_cons_zero, List.set_cons_succ])
            refine wpAnyH_ready (rs := [5]) (by decide +kernel) (by simp) ?_
            refine AllReadyH.cons (i := 5) (by simp only [List.getElem?_toArray, List.getElem?_cons_succ, List.getElem?_cons_zero]; rfl) (fun K hK => ?_) ?_
            · go_simp
              go_at_call 16
              refine (same_true _ _ _ _ _ Va V (ps.take (ps.length)) _ HTA.out (hS.2.1.take (ps.length)) HTL.out (by omega)).mono ?_
              rintro e v2 ⟨rfl, hb⟩
              have HX := Lib.hid hb
              clear hb HTA
              go_simp
              refine hK.out _ _ ⟨hS.1.below HX.out, hS.2.1.below HX.out, hS.2.2.1.below HX.out, Lib.hid (bthen hS.2.2.2.out HX.out)⟩ (fun hS2 => ?_)
              clear hS hK K
              have hS := hS2
              clear hS2
              clear HX
              (try simp only [act_put, act_put_none, List.set_cons_zero, List.set_cons_succ])
              refine held_take (i := 6) (by simp only [List.getElem?_toArray, List.getElem?_cons_succ, List.getElem?_cons_zero]; rfl) (by decide +kernel) (by decide +kernel) (by decide +kernel) (by exact fun _ _ _ _ h => h) hS (by rfl) ?_
              apply Exists.intro
              refine ⟨fun w' hSw => ?_, ?_⟩
              · go_simp
                with_reducible rfl
              (try simp only [act_put, act_put_none, List.set_cons_zero, List.set_cons_succ])
              refine held_take (i := 7) (by simp only [List.getElem?_toArray, List.getElem?_cons_succ, List.getElem?_cons_zero]; rfl) (by decide +kernel) (by decide +kernel) (by decide +kernel) (by exact fun _ _ _ _ h => h) hS (by rfl) ?_
              apply Exists.intro
              refine ⟨fun w' hSw => ?_, ?_⟩
              · go_simp
                with_reducible rfl
              (try simp only [act_put, act_put_none, List.set_cons_zero, List.set_cons_succ])
              refine held_take (i := 10) (by simp only [List.getElem?_toArray, List.getElem?_cons_succ, List.getElem?_cons_zero]; rfl) (by decide +kernel) (by decide +kernel) (by decide +kernel) (by exact fun _ _ _ _ h => h) hS (by rfl) ?_
              apply Exists.intro
              refine ⟨fun w' hSw => ?_, ?_⟩
              · go_simp
                with_reducible rfl
              (try simp only [act_put, act_put_none, List.set_cons_zero, List.set_cons_succ])
              refine held_take (i := 11) (by simp only [List.getElem?_toArray, List.getElem?_cons_succ, List.getElem?_cons_zero]; rfl) (by decide +kernel) (by decide +kernel) (by decide +kernel) (by exact fun _ _ _ _ h => h) hS (by rfl) ?_
              apply Exists.intro
              refine ⟨fun w' hSw => ?_, ?_⟩
              · go_simp
                with_reducible rfl
              (try simp only [act_put, act_put_none, List.set_cons_zero, List.set_cons_succ])
              refine held_take (i := 12) (by simp only [List.getElem?_toArray, List.getElem?_cons_succ, List.getElem?_cons_zero]; rfl) (by decide +kernel) (by decide +kernel) (by decide +kernel) (by exact fun _ _ _ _ h => h) hS (by rfl) ?_
              apply Exists.intro
              refine ⟨fun w' hSw => ?_, ?_⟩
              · go_simp
                with_reducible rfl
              (try simp only [act_put, act_put_none, List.set_cons_zero, List.set_cons_succ])
              refine wpAnyH_ready (rs := [8]) (by decide +kernel) (by simp) ?_
              refine AllReadyH.cons (i := 8) (by simp only [List.getElem?_toArray, List.getElem?_cons_succ, List.getElem?_cons_zero]; rfl) (fun K hK => ?_) ?_
              · go_simp
                go_at_call 15
                refine (dbytes_any hS.1.dk (by have := HYL.out; omega)).mono ?_
                rintro e v3 ⟨g3, rfl, _, _, hb⟩
                have HX := Lib.hid hb
                clear hb
                go_simp
                refine hK.out _ _ ⟨hS.1.below HX.out, hS.2.1.below HX.out, hS.2.2.1.below HX.out, Lib.hid (bthen hS.2.2.2.out HX.out)⟩ (fun hS2 => ?_)
                clear hS hK K
                have hS := hS2
                clear hS2
                clear HX
                (try simp only [act_put, act_put_none, List.set_cons_zero, List.set_cons_succ])
                refine held_take (i := 9) (by simp only [List.getElem?_toArray, List.getElem?_cons_succ, List.getElem?_cons_zero]; rfl) (by decide +kernel) (by decide +kernel) (by decide +kernel) (by exact fun _ _ _ _ h => h) hS (by rfl) ?_
                apply Exists.intro
                refine ⟨fun w' hSw => ?_, ?_⟩
                · go_simp
                  with_reducible rfl
                (try simp only [act_put, act_put_none, List.set_cons_zero, List.set_cons_succ])
                refine wpAnyH_ready (rs := [13]) (by decide +kernel) (by simp) ?_
                refine AllReadyH.cons (i := 13) (by simp only [List.getElem?_toArray, List.getElem?_cons_succ, List.getElem?_cons_zero]; rfl) (fun K hK => ?_) ?_
                · go_simp
                  go_at_call 10
                  refine (rbytes_any A c _ V (ps.take (ps.length)) _ (hS.2.1.take (ps.length)) HTL.out (by omega) (fun p hp => by have := HALL.out p (List.mem_of_mem_take hp); omega) (by have := HYL.out; omega)).mono ?_
                  rintro e v4 ⟨vb, rfl, hown, hb⟩
                  obtain ⟨Ab, cb, rfl, _, _, _, _⟩ := hown.isBy
                  have HX := Lib.hid hb
                  clear hb hown
                  go_simp
                  refine hK.out _ _ ⟨hS.1.below HX.out, hS.2.1.below HX.out, hS.2.2.1.below HX.out, Lib.hid (bthen hS.2.2.2.out HX.out)⟩ (fun hS2 => ?_)
                  clear hS hK K
                  have hS := hS2
                  clear hS2
                  clear HX
                  (try simp only [act_put, act_put_none, List.set_cons_zero, List.set_cons_succ])
                  refine held_take (i := 14) (by simp only [List.getElem?_toArray, List.getElem?_cons_succ, List.getElem?_cons_zero]; rfl) (by decide +kernel) (by decide +kernel) (by decide +kernel) (by exact fun _ _ _ _ h => h) hS (by rfl) ?_
                  apply Exists.intro
                  refine ⟨fun w' hSw => ?_, ?_⟩
                  · go_simp
                    with_reducible rfl
                  (try simp only [act_put, act_put_none, List.set_cons_zero, List.set_cons_succ])
                  refine held_take (i := 15) (by simp only [List.getElem?_toArray, List.getElem?_cons_succ, List.getElem?_cons_zero]; rfl) (by decide +kernel) (by decide +kernel) (by decide +kernel) (by exact fun _ _ _ _ h => h) hS (by rfl) ?_
                  apply Exists.intro
                  refine ⟨fun w' hSw => ?_, ?_⟩
                  · go_simp
                    with_reducible rfl
                  (try simp only [act_put, act_put_none, List.set_cons_zero, List.set_cons_succ])
                  refine held_take (i := 16) (by simp only [List.getElem?_toArray, List.getElem?_cons_succ, List.getElem?_cons_zero]; rfl) (by decide +kernel) (by decide +kernel) (by decide +kernel) (by exact fun _ _ _ _ h => h) hS (by rfl) ?_
                  apply Exists.intro
                  refine ⟨fun w' hSw => ?_, ?_⟩
                  · go_simp
                    with_reducible rfl
                  (try simp only [act_put, act_put_none, List.set_cons_zero, List.set_cons_succ])
                  refine held_take (i := 17) (by simp only [List.getElem?_toArray, List.getElem?_cons_succ, List.getElem?_cons_zero]; rfl) (by decide +kernel) (by decide +kernel) (by decide +kernel) (by exact fun _ _ _ _ h => h) hS (by rfl) ?_
                  apply Exists.intro
                  refine ⟨fun w' hSw => ?_, ?_⟩
                  · go_simp
                    with_reducible rfl
                  (try simp only [act_put, act_put_none, List.set_cons_zero, List.set_cons_succ])
                  refine held_take (i := 18) (by simp only [List.getElem?_toArray, List.getElem?_cons_succ, List.getElem?_cons_zero]; rfl) (by decide +kernel) (by decide +kernel) (by decide +kernel) (by exact fun _ _ _ _ h => h) hS (by rfl) ?_
                  apply Exists.intro
                  refine ⟨fun w' hSw => ?_, ?_⟩
                  · go_simp
                    with_reducible rfl
                  (try simp only [act_put, act_put_none, List.set_cons_zero, List.set_cons_succ])
                  refine held_take (i := 20) (by simp only [List.getElem?_toArray, List.getElem?_cons_succ, List.getElem?_cons_zero]; rfl) (by decide +kernel) (by decide +kernel) (by decide +kernel) (by exact fun _ _ _ _ h => h) hS (by rfl) ?_
                  apply Exists.intro
                  refine ⟨fun w' hSw => ?_, ?_⟩
                  · go_simp
                    with_reducible rfl
                  (try simp only [act_put, act_put_none, List.set_cons_zero, List.set_cons_succ])
                  refine wpAnyH_ready (rs := [19]) (by decide +kernel) (by simp) ?_
                  refine AllReadyH.cons (i := 19) (by simp only [List.getElem?_toArray, List.getElem?_cons_succ, List.getElem?_cons_zero]; rfl) (fun K hK => ?_) ?_
                  · go_simp
                    go_at_call 18
                    refine (dsafe_any hS.1.dk).mono ?_
                    rintro e _ ⟨rfl, rfl⟩
                    go_simp
                    refine hK.out _ _ hS (fun hS2 => ?_)
                    clear hK K hS2
                    (try simp only [act_put, act_put_none, List.set_cons_zero, List.set_cons_succ])
                    refine wpAnyH_ready (rs := [21]) (by decide +kernel) (by simp) ?_
                    refine AllReadyH.cons (i := 21) (by simp only [List.getElem?_toArray, List.getElem?_cons_succ, List.getElem?_cons_zero]; rfl) (fun K hK => ?_) ?_
                    · go_simp
                      go_at_call 15
                      refine (dbytes_any hS.1.dk (by have := HYL.out; omega)).mono ?_
                      rintro e v5 ⟨g5, rfl, _, _, hb⟩
                      have HX := Lib.hid hb
                      clear hb
                      go_simp
                      refine hK.out _ _ ⟨hS.1.below HX.out, hS.2.1.below HX.out, hS.2.2.1.below HX.out, Lib.hid (bthen hS.2.2.2.out HX.out)⟩ (fun hS2 => ?_)
                      clear hS hK K
                      have hS := hS2
                      clear hS2
                      clear HX
                      (try simp only [act_put, act_put_none, List.set_cons_zero, List.set_cons_succ])
                      refine held_take (i := 22) (by simp only [List.getElem?_toArray, List.getElem?_cons_succ, List.getElem?_cons_zero]; rfl) (by decide +kernel) (by decide +kernel) (by decide +kernel) (by exact fun _ _ _ _ h => h) hS (by rfl) ?_
                      apply Exists.intro
                      refine ⟨fun w' hSw => ?_, ?_⟩
                      · go_simp
                        with_reducible rfl
                      (try simp only [act_put, act_put_none, List.set_cons_zero, List.set_cons_succ])
                      refine held_take (i := 23) (by simp only [List.getElem?_toArray, List.getElem?_cons_succ, List.getElem?_cons_zero]; rfl) (by decide +kernel) (by decide +kernel) (by decide +kernel) (by exact fun _ _ _ _ h => h) hS (by rfl) ?_
                      apply Exists.intro
                      refine ⟨fun w' hSw => ?_, ?_⟩
                      · go_simp
                        with_reducible rfl
                      (try simp only [act_put, act_put_none, List.set_cons_zero, List.set_cons_succ])
                      refine held_take (i := 24) (by simp only [List.getElem?_toArray, List.getElem?_cons_succ, List.getElem?_cons_zero]; rfl) (by decide +kernel) (by decide +kernel) (by decide +kernel) (by exact fun _ _ _ _ h => h) hS (by rfl) ?_
                      apply Exists.intro
                      refine ⟨fun w' hSw => ?_, ?_⟩
                      · go_simp
                        with_reducible rfl
                      (try simp only [act_put, act_put_none, List.set_cons_zero, List.set_cons_succ])
                      refine held_take (i := 25) (by simp only [List.getElem?_toArray, List.getElem?_cons_succ, List.getElem?_cons_zero]; rfl) (by decide +kernel) (by decide +kernel) (by decide +kernel) (by exact fun _ _ _ _ h => h) hS (by rfl) ?_
                      apply Exists.intro
                      refine ⟨fun w' hSw => ?_, ?_⟩
                      · go_simp
                        with_reducible rfl
                      (try simp only [act_put, act_put_none, List.set_cons_zero, List.set_cons_succ])
                      refine wpAnyH_ready (rs := [26]) (by decide +kernel) (by simp) ?_
                      refine AllReadyH.cons (i := 26) (by simp only [List.getElem?_toArray, List.getElem?_cons_succ, List.getElem?_cons_zero]; rfl) (fun K hK => ?_) ?_
                      · go_simp
                        go_at_call 9
                        refine (awake12 _ hS.2.2.1).mono ?_
                        rintro e v6 ⟨rfl, hb⟩
                        have HX := Lib.hid hb
                        clear hb
                        go_simp
                        refine hK.out _ _ ⟨hS.1.below HX.out, hS.2.1.below HX.out, hS.2.2.1.below HX.out, Lib.hid (bthen hS.2.2.2.out HX.out)⟩ (fun hS2 => ?_)
                        clear hS hK K
                        have hS := hS2
                        clear hS2
                        clear HX
                        (try simp only [act_put, act_put_none, List.set_cons_zero, List.set_cons_succ])
                        refine held_take (i := 27) (by simp only [List.getElem?_toArray, List.getElem?_cons_succ, List.getElem?_cons_zero]; rfl) (by decide +kernel) (by decide +kernel) (by decide +kernel) (by exact fun _ _ _ _ h => h) hS (by rfl) ?_
                        apply Exists.intro
                        refine ⟨fun w' hSw => ?_, ?_⟩
                        · go_simp
                          with_reducible rfl
                        (try simp only [act_put, act_put_none, List.set_cons_zero, List.set_cons_succ])
                        refine held_take (i := 28) (by simp only [List.getElem?_toArray, List.getElem?_cons_succ, List.getElem?_cons_zero]; rfl) (by decide +kernel) (by decide +kernel) (by decide +kernel) (by exact fun _ _ _ _ h => h) hS (by rfl) ?_
                        apply Exists.intro
                        refine ⟨fun w' hSw => ?_, ?_⟩
                        · go_simp
                          with_reducible rfl
                        (try simp only [act_put, act_put_none, List.set_cons_zero, List.set_cons_succ])
                        refine wpAnyH_done (by decide +kernel) ?_ _
                        have HSF := Lib.hid hS.2.2.2.out
                        clear hS
                        go_wp2_with fail
                        go_ret
                        exact ⟨rfl, HSF.out⟩
                      exact AllReadyH.nil
                    exact AllReadyH.nil
                  exact AllReadyH.nil
                exact AllReadyH.nil
              exact AllReadyH.nil
            exact AllReadyH.nil
          exact AllReadyH.nil
end Go.Proofs.YtfnbcafilbafgaaDoor
