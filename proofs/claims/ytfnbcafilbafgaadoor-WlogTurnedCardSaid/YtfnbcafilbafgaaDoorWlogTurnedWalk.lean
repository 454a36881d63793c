/-
  The walk of WlogTurned.
-/
import Derived.Test.YtfnbcafilbafgaaDoorWlogMore
namespace Go.Proofs.YtfnbcafilbafgaaDoor
open Go.RowKit
set_option linter.unusedSimpArgs false
set_option linter.unusedVariables false
attribute [local go_sem] Later.cell
theorem rtake_len (A : Option Addr) (l : List UInt8) (n c : Nat) (w : World) (hl : IsBy w A l) (hn : l.length = n) (hlc : n ≤ c) (hlen : n ≤ 1099511627776) :
    Calls Tryd.prog 11 #[.slice A n c] w (TakeR l w) := by
  subst hn
  exact rtake_any A l c w hl hlc hlen
set_option maxRecDepth 20000 in
set_option maxHeartbeats 8000000 in
theorem wlogTurned_walk (A : Option Addr) (c L : Nat) (V : Nat → Option Addr × Nat × List UInt8) (hm : L ≤ 9223372036854775807 ∧ (A = none → c = 0 ∧ L = 0) ∧ L ≤ c) (at_ : Int) (hat : -9223372036854775808 ≤ at_ ∧ at_ ≤ 9223372036854775807) (by_ : Int) (hby : 0 ≤ by_ ∧ by_ ≤ 255) (w : World) (hN : Nib w) (hT : Texts w A L V) :
    Calls Tryd.prog 3 #[.slice A L c, .int .i64 at_, .int .u8 by_] w fun e w' => e = .returned (.bool true) ∧ Below w.heap.size w w' := by
  obtain ⟨hm1, hm2, hm3⟩ := hm
  have HN := Lib.hid hN
  obtain ⟨ps, rfl, hT'⟩ := TxIs.of hT
  have HT := Lib.hid hT'
  clear hN hT hT' hm2
  have AW : Hid (Calls Tryd.prog 9 #[] w fun e w' => e = .returned (.bool true) ∧ Below w.heap.size w w') := Lib.hid (awake12 w HN.out)
  go_enter Tryd.func3, Tryd.ntmps3
  by_cases hbig : 20 < ps.length
  · have g1 : decide ((20 : Int) < (ps.length : Int)) = true := decide_eq_true (by omega)
    go_wp2_with fail
    refine AW.out.mono ?_
    rintro e w9 ⟨rfl, hb9⟩
    have HB9 := Lib.hid hb9
    clear hb9
    go_wp2_with fail
    go_ret
    exact ⟨rfl, HB9.out⟩
  have g1 : decide ((20 : Int) < (ps.length : Int)) = false := decide_eq_false (by omega)
  by_cases hz : by_ = 0
  · subst hz
    go_wp2_with fail
    refine AW.out.mono ?_
    rintro e w9 ⟨rfl, hb9⟩
    have HB9 := Lib.hid hb9
    clear hb9
    go_wp2_with fail
    go_ret
    exact ⟨rfl, HB9.out⟩
  obtain ⟨kk, rfl⟩ : ∃ kk : Nat, by_ = kk := ⟨by_.toNat, by omega⟩
  have hz' : (decide ((kk : Int) = 0)) = false := decide_eq_false hz
  have hz2 : ((kk : Int) == 0) = false := beq_eq_false_iff_ne.2 hz
  go_wp2_with fail
  go_loopw [28] (fun i w' => ∃ k : Nat, k ≤ ps.length ∧ i = .int .i64 k ∧ (∀ j, j < k → (ps.getD j []).length ≤ 300) ∧ w = w') (fun i _ => ps.length - (intOf i).toNat)
  case atStart => exact ⟨0, Nat.zero_le _, rfl, fun j hj => absurd hj (Nat.not_lt_zero _), rfl⟩
  case round =>
    obtain ⟨k, hk, rfl, h300, rfl⟩ := hrel
    have H300 := Lib.hid h300
    clear h300
    by_cases hlt : k < ps.length
    · obtain ⟨b3, o3, rfl, d3⟩ := HT.out.1.cell k hlt
      have q3 := HT.out.2 k hlt
      generalize V k = z3 at *
      obtain ⟨B3, e3, t3⟩ := z3
      dsimp only at d3 q3
      by_cases hbad : 300 < t3.length
      · have j1 : decide ((300 : Int) < (t3.length : Int)) = true := decide_eq_true (by omega)
        clear q3
        go_wp2_with fail
        refine AW.out.mono ?_
        rintro e w9 ⟨rfl, hb9⟩
        have HB9 := Lib.hid hb9
        clear hb9
        go_wp2_with fail
        go_ret
        exact ⟨rfl, HB9.out⟩
      have j1 : decide ((300 : Int) < (t3.length : Int)) = false := decide_eq_false (by omega)
      have H301 : Hid (∀ j, j < k + 1 → (ps.getD j []).length ≤ 300) := Lib.hid (fun j hj => by
        rcases Nat.lt_or_ge j k with h | h
        · exact H300.out j h
        · obtain rfl : j = k := by omega
          rw [← q3]; omega)
      clear q3 H300
      go_wp2_with fail
      go_roundw
      case rel => exact ⟨k + 1, by omega, by go_num, H301.out, by first | rfl | trivial⟩
      case measure => simp [intOf]; omega
    · obtain rfl : k = ps.length := by omega
      have HALL : Hid (∀ p, p ∈ ps → p.length ≤ 300) := Lib.hid (fun p hp => by
        obtain ⟨i, hi, rfl⟩ := List.getElem_of_mem hp
        have := H300.out i hi
        simpa [List.getD, List.getElem?_eq_getElem hi] using this)
      have hfl := flatP_le 300 ps HALL.out
      have HFL : Hid ((flatP ps).length ≤ 6160) := Lib.hid (by omega)
      clear hfl H300 hlt hk
      go_wp2_with fail
      refine (rbytes_any A c _ V ps w HT.out rfl (by omega) (fun p hp => by have := HALL.out p hp; omega) (by have := HFL.out; omega)).mono ?_
      rintro e w1 ⟨v1, rfl, hown, hb⟩
      obtain ⟨A1, c1, rfl, i1, i2, i3, _⟩ := hown.isBy
      have HB1 := Lib.hid hb
      have HI1 := Lib.hid i1
      have HN1 := Lib.hid (HN.out.below hb)
      have HT1 := Lib.hid (HT.out.below hb)
      have I3 := Lib.hid i3
      have I2 := Lib.hid i2
      clear hown hb i1 i2 i3
      by_cases hneg : at_ < 0
      · have j4 : decide (at_ < 0) = true := decide_eq_true hneg
        go_wp2_with fail
        refine (awake12 w1 HN1.out).mono ?_
        rintro e w9 ⟨rfl, hb9⟩
        have HB9 := Lib.hid (bthen HB1.out hb9)
        clear hb9
        go_wp2_with fail
        go_ret
        exact ⟨rfl, HB9.out⟩
      have j4 : decide (at_ < 0) = false := decide_eq_false hneg
      by_cases hgt : ((flatP ps).length : Int) ≤ at_
      · have j5 : decide (((flatP ps).length : Int) ≤ at_) = true := decide_eq_true hgt
        go_wp2_with fail
        refine (awake12 w1 HN1.out).mono ?_
        rintro e w9 ⟨rfl, hb9⟩
        have HB9 := Lib.hid (bthen HB1.out hb9)
        clear hb9
        go_wp2_with fail
        go_ret
        exact ⟨rfl, HB9.out⟩
      have j5 : decide (((flatP ps).length : Int) ≤ at_) = false := decide_eq_false hgt
      obtain ⟨i, rfl⟩ : ∃ i : Nat, at_ = i := ⟨at_.toNat, by omega⟩
      obtain ⟨n, n1, n2, n3⟩ := cut_n ps i
      have hnl : n < ps.length := by
        rcases Nat.lt_or_ge n ps.length with h | h
        · exact h
        · exfalso
          rw [List.take_of_length_le h] at n2
          omega
      have n3 := n3 hnl
      have HX0 : Hid (∀ y, (flatP ps).set i y = flatP (ps.take n) ++ ((flatP ps).set i y).drop (flatP (ps.take n)).length) := Lib.hid (fun y => by
        have e : flatP ps = flatP (ps.take n) ++ flatP (ps.drop n) := by rw [← flatP_append, List.take_append_drop]
        have e2 : ((flatP ps).set i y).take (flatP (ps.take n)).length = flatP (ps.take n) := by
          rw [List.take_set_of_le n2]
          exact (congrArg (List.take _) e).trans (List.take_left' rfl)
        conv => lhs; rw [← List.take_append_drop (flatP (ps.take n)).length ((flatP ps).set i y), e2])
      have N3 := Lib.hid n3
      have hfn : (flatP (ps.take n)).length ≤ 6160 := Nat.le_trans (flatP_len_take _ _) HFL.out
      have hXL := HFL.out
      obtain ⟨X, hX⟩ : ∃ X, flatP ps = X := ⟨_, rfl⟩
      rw [hX] at HX0 HI1 j5 hgt hXL I3
      rw [hX]
      have hi : i < X.length := by omega
      clear hX n3 HFL
      have HO1 : Hid (OwnBy (w1.alloc (.cells #[] 5)) w1.heap.size (.slice (some ⟨w1.heap.size, 0, none⟩) 0 0) []) := Lib.hid (OwnBy.row (xs := []) (rowAt_alloc_at _ _ _ _ rfl) (by simp))
      go_upto_region 13 with (at_builtin; refine wl_append_bytes rfl _ _ rfl w1.heap.size _ [] X A1 c1 rfl HO1.out rfl (HI1.out.alloc _) I2.out ?c1 (by simp) ?_)
      case c1 => simp; omega
      intro v w2 hown hb
      obtain ⟨g, cap, cur, rfl, hbg, hr, hc, hcm, hcs, htk⟩ := OwnBy.row_of (xs := X) hown (by omega)
      have hb2 : Below w1.heap.size w1 w2 := ((Below.refl _ _).alloc (Nat.le_refl _) _).trans hb
      have hcell : w2.cell? ⟨g, i, none⟩ = some (.int .u8 ((X.getD i 0).toNat : Int)) := by
        rw [cell_of_rowAt hr]
        have e : (cur.toList.take X.length)[i]? = (X.map bc)[i]? := by rw [htk]
        simp only [List.getElem?_take, if_pos hi, List.getElem?_map, List.getElem?_eq_getElem hi, Option.map_some, Array.getElem?_toList] at e
        rw [e]
        simp [bc, List.getD, List.getElem?_eq_getElem hi]
      have hfz : w2.frozen? ⟨g, i, none⟩ = false := frozen_of_rowAt hr i
      obtain ⟨y, hy1, hy2⟩ := turn_byte (X.getD i 0) kk (by omega) (by omega)
      have HS := Lib.hid (own_set (base := w1.heap.size) hbg hr hc hcm hcs htk i y)
      have HB2 := Lib.hid (bthen HB1.out hb2)
      have HX1 := Lib.hid (HX0.out y)
      have hcX : X.length ≤ cap := hc
      generalize X.getD i 0 = x at *
      clear hown hb hr htk hb2 hy2 HX0 HI1 HO1
      go_upto_region 14 with fail
      obtain ⟨W3, hW3⟩ : ∃ W3, w2.setCell ⟨g, i, none⟩ (.int .u8 (y.toNat : Int)) = W3 := ⟨_, rfl⟩
      have HS3 : OwnBy W3 w1.heap.size (.slice (some ⟨g, 0, none⟩) (X.set i y).length cap) (X.set i y) ∧ Below w1.heap.size w2 W3 := by rw [← hW3]; exact HS.out
      rw [hW3]
      clear hW3 hcell hfz HS
      obtain ⟨hown, hb⟩ := HS3
      have HB3 := Lib.hid (HB2.out.trans (hb.mono HB1.out.size))
      have HI3 : Hid (IsBy W3 (some ⟨g, 0, none⟩) (X.set i y)) := Lib.hid (by
        obtain ⟨A3, c3, h3, h4, _⟩ := hown.isBy
        injection h3 with h5 h6 h7
        rw [h5]; exact h4)
      have HT3 := Lib.hid (HT.out.below HB3.out)
      have hZL : (X.set i y).length = X.length := List.length_set
      have HZL := Lib.hid hZL
      obtain ⟨Z, hZ⟩ : ∃ Z, X.set i y = Z := ⟨_, rfl⟩
      rw [hZ] at HX1 HI3 HZL
      clear hown hb hZL hZ hbg hc hcm hcs
      go_wp2_with fail
      go_loopw [11] (fun u w' => ∃ k : Nat, k ≤ n ∧ u = .int .i64 k ∧ Below W3.heap.size W3 w') (fun u _ => n - (intOf u).toNat)
      case atStart => exact ⟨0, Nat.zero_le _, rfl, Below.refl _ _⟩
      case round =>
        rename World => wr
        obtain ⟨k, hk, rfl, hb⟩ := hrel
        have HBr := Lib.hid hb
        have HTr := Lib.hid (HT3.out.below hb)
        have HIr := Lib.hid (HI3.out.below hb)
        clear hb
        have hlt : k < ps.length := by omega
        have hkc : k + 1 ≤ c := by omega
        have hlk : (ps.take (k + 1)).length = k + 1 := by rw [List.length_take]; omega
        have hfk : (flatP (ps.take (k + 1))).length ≤ 6160 := by
          have h1 := flatP_le 300 (ps.take (k + 1)) (fun p hp => HALL.out p (List.mem_of_mem_take hp))
          omega
        have hRB := Lib.hid (rbytes_any A c (k + 1) V (ps.take (k + 1)) wr (HTr.out.take (k + 1)) hlk (by omega) (fun p hp => by have := HALL.out p (List.mem_of_mem_take hp); omega) (by omega))
        by_cases hkn : k < n
        · have hle : (flatP (ps.take (k + 1))).length ≤ i := by have := flatP_mono ps (show k + 1 ≤ n by omega); omega
          have j6 : decide (((flatP (ps.take (k + 1))).length : Int) ≤ i) = true := decide_eq_true (by omega)
          go_wp2_with fail
          refine hRB.out.mono ?_
          rintro e w5 ⟨v5, rfl, hown, hb⟩
          obtain ⟨A5, c5, rfl, _, _, _, _⟩ := hown.isBy
          have HB5 := Lib.hid (HBr.out.trans (hb.mono HBr.out.size))
          generalize (flatP (ps.take (k + 1))).length = fl at *
          clear hown hb hRB
          go_wp2_with fail
          go_roundw
          case rel => exact ⟨k + 1, by omega, by go_num, HB5.out⟩
          case measure => simp [intOf]; omega
        · obtain rfl : k = n := by omega
          have hle : ¬ (flatP (ps.take (k + 1))).length ≤ i := by have := N3.out; omega
          have j6 : decide (((flatP (ps.take (k + 1))).length : Int) ≤ i) = false := decide_eq_false (by omega)
          go_wp2_with fail
          refine hRB.out.mono ?_
          rintro e w5 ⟨v5, rfl, hown, hb⟩
          obtain ⟨A5, c5, rfl, _, _, _, _⟩ := hown.isBy
          have HB5 := Lib.hid (bthen HB3.out (HBr.out.trans (hb.mono HBr.out.size)))
          have HI5 := Lib.hid (HIr.out.below hb)
          have HT5 := Lib.hid (HT.out.below HB5.out)
          generalize (flatP (ps.take (k + 1))).length = fl at *
          clear hown hb hRB HBr HTr HIr HI3 HT3
          have hlk : (ps.take k).length = k := by rw [List.length_take]; omega
          go_wp2_with fail
          refine (rbytes_any A c k V (ps.take k) w5 (HT5.out.take k) hlk (by omega) (fun p hp => by have := HALL.out p (List.mem_of_mem_take hp); omega) (by omega)).mono ?_
          rintro e w6 ⟨v6, rfl, hown, hb⟩
          obtain ⟨A6, c6, rfl, _, _, _, _⟩ := hown.isBy
          have HB6 := Lib.hid (bthen HB5.out hb)
          have HI6 := Lib.hid (HI5.out.below hb)
          have HT6 := Lib.hid (HT.out.below HB6.out)
          have hmz : (flatP (ps.take k)).length ≤ Z.length := by have := HZL.out; omega
          have HD6 := Lib.hid (HI6.out.drop (flatP (ps.take k)).length (A' := some ⟨g, (flatP (ps.take k)).length, none⟩) (fun _ => by simp [Addr.add_lit]))
          obtain ⟨R, hR⟩ : ∃ R, Z.drop (flatP (ps.take k)).length = R := ⟨_, rfl⟩
          have hRL : R.length = X.length - (flatP (ps.take k)).length := by rw [← hR, List.length_drop, HZL.out]
          rw [hR] at HX1 HD6
          have HRL := Lib.hid hRL
          obtain ⟨Y, hY⟩ : ∃ Y, flatP (ps.take k) = Y := ⟨_, rfl⟩
          have HYE := Lib.hid hY
          rw [hY] at HX1 HD6 HRL hmz n2 hfn
          rw [hY]
          rw [HZL.out] at hmz
          clear hown hb hR hRL hY HI5 HT5
          go_wp2_with (refine bytes_slice_from rfl _ _ rfl (some ⟨g, 0, none⟩) X.length cap Y.length rfl rfl hmz ?_)
          intro A' hA1 hA2
          have hA' : A' = some ⟨g, Y.length, none⟩ := (hA1 (by omega)).trans rfl
          subst hA'
          clear hA1 hA2
          go_wp2_with fail
          refine (rtake_len (some ⟨g, Y.length, none⟩) R _ _ w6 HD6.out HRL.out (by omega) (by omega)).mono ?_
          rintro e w7 ⟨v7, rfl, hown, hb⟩
          obtain ⟨A7, c7, rfl, _, _, _, _⟩ := hown.isBy
          have HB7 := Lib.hid (bthen HB6.out hb)
          have HN7 := Lib.hid (HN.out.below HB7.out)
          have HI7 := Lib.hid (HI6.out.below hb)
          clear hown hb HD6 HI6 HT6
          generalize (takeP R).length = pz at *
          by_cases htk : takeE R = 0
          · obtain ⟨_, t2, _⟩ := take_good htk
            rw [t2, htk]
            have hnl := numL_lt R
            clear t2
            generalize numL R = nz at *
            go_wp2_with fail
            refine (awake12 w7 HN7.out).mono ?_
            rintro e w9 ⟨rfl, hb9⟩
            have HB9 := Lib.hid (bthen HB7.out hb9)
            clear hb9
            go_wp2_with fail
            go_ret
            exact ⟨rfl, HB9.out⟩
          obtain ⟨_, t2⟩ := take_bad rfl htk
          rw [t2]
          have htb : (takeE R == 0) = false := beq_eq_false_iff_ne.2 htk
          have HSC : Hid (ScanIs Z Y.length (ps.take k)) := Lib.hid (by
            have h := scan_flat (ps.take k) R (fun p hp => by have := HALL.out p (List.mem_of_mem_take hp); omega) htk
            rw [HYE.out, ← HX1.out] at h
            exact h)
          have HDR : Hid (Z.drop Y.length = R) := Lib.hid (by rw [HX1.out]; exact List.drop_left' rfl)
          have HTT : Hid (Z.take Y.length = Y) := Lib.hid (by rw [HX1.out]; exact List.take_left' rfl)
          obtain ⟨te, hte⟩ : ∃ te, takeE R = te := ⟨_, rfl⟩
          rw [hte] at htb htk
          rw [hte]
          have HTE := Lib.hid hte
          clear t2 hte
          go_wp2_with fail
          refine (dnew_any 1024 (by decide) (by decide) w7).mono ?_
          rintro e w8 ⟨p, rfl, hd, hp, hb⟩
          have HB8 := Lib.hid (bthen HB7.out hb)
          have HD8 := Lib.hid hd
          have HI8 := Lib.hid (HI7.out.below hb)
          have hp' : w.heap.size ≤ p := Nat.le_trans HB7.out.size hp
          clear hd hb HI7
          go_wp2_with fail
          refine (dappend_is (t := Z) (B := some ⟨g, 0, none⟩) (c' := cap) HD8.out (by decide) (by decide) (by decide) HI8.out (fun h => by cases h) (by have := HZL.out; simp; omega) HZL.out).mono ?_
          rintro e w10 ⟨rfl, hd, hb⟩
          have HBX := Lib.hid (HB8.out.trans (hb.below hp' HB8.out.size))
          have HNX := Lib.hid (HN.out.below HBX.out)
          have HDX := Lib.hid (show DK w10 p (1024 * 64) Z 0 from hd)
          have HIX := Lib.hid (isBy_off HI8.out HD8.out.noBy hb)
          have HTX := Lib.hid (HT.out.below HBX.out)
          clear hd hb HD8 HI8
          by_cases h3 : te = 3
          · subst h3
            go_wp2_with fail
            refine (wopen_ok (base := w.heap.size) HDX.out HNX.out (by have := HZL.out; omega) HSC.out (by rw [HDR.out]; exact HTE.out) hp' HBX.out.size).mono ?_
            rintro e w11 ⟨q, rfl, hg, hb, _, _⟩
            rw [HTT.out] at hg
            have HBF := Lib.hid (HBX.out.trans hb)
            have HGF := Lib.hid hg
            have HNF := Lib.hid (HN.out.below HBF.out)
            have HTF := Lib.hid (HT.out.below HBF.out)
            clear hg hb
            --F26
            have hnc : k ≤ c := by omega
            go_upto_region 26 with fail
            refine wp_region_held_drew (S := fun w' : World => LG w.heap.size w' q p (1024 * 64) Y (Y.length : Nat) (ps.take k) ∧ TxIs w' A V ps ∧ Nib w' ∧ Hid (Below w.heap.size w w')) (by kernel_rfl) ⟨HGF.out.below (Below.refl _ _).drew, HTF.out.below (Below.refl _ _).drew, HNF.out.below (Below.refl _ _).drew, Lib.hid HBF.out.drew⟩ (fun hS => ?_)
            clear HGF HTF HNF HBF
            generalize w11.drew = W7 at *
            refine held_take (i := 0) (by simp only [List.getElem?_toArray, List.getElem?_cons_succ, List.getElem?_cons_zero]; rfl) (by decide +kernel) (by decide +kernel) (by decide +kernel) (by exact fun _ _ _ _ h => h) hS (by rfl) ?_
            apply Exists.intro
            refine ⟨fun w' hSw => ?_, ?_⟩
            · go_simp
              with_reducible rfl
            (try simp only [act_put, act_put_none, List.set_cons_zero, List.set_cons_succ])
            refine held_take (i := 2) (by simp only [List.getElem?_toArray, List.getElem?_cons_succ, List.getElem?_cons_zero]; rfl) (by decide +kernel) (by decide +kernel) (by decide +kernel) (by exact fun _ _ _ _ h => h) hS (by rfl) ?_
            apply Exists.intro
            refine ⟨fun w' hSw => ?_, ?_⟩
            · go_simp
              with_reducible rfl
            (try simp only [act_put, act_put_none, List.set_cons_zero, List.set_cons_succ])
            refine held_take (i := 3) (by simp only [List.getElem?_toArray, List.getElem?_cons_succ, List.getElem?_cons_zero]; rfl) (by decide +kernel) (by decide +kernel) (by decide +kernel) (by exact fun _ _ _ _ h => h) hS (by rfl) ?_
            apply Exists.intro
            refine ⟨fun w' hSw => ?_, ?_⟩
            · go_simp
              with_reducible rfl
            (try simp only [act_put, act_put_none, List.set_cons_zero, List.set_cons_succ])
            refine held_take (i := 4) (by simp only [List.getElem?_toArray, List.getElem?_cons_succ, List.getElem?_cons_zero]; rfl) (by decide +kernel) (by decide +kernel) (by decide +kernel) (by exact fun _ _ _ _ h => h) hS (by rfl) ?_
            apply Exists.intro
            refine ⟨fun w' hSw => ?_, ?_⟩
            · go_simp
              with_reducible rfl
            (try simp only [act_put, act_put_none, List.set_cons_zero, List.set_cons_succ])
            refine wpAnyH_ready (rs := [1]) (by decide +kernel) (by simp) ?_
            refine AllReadyH.cons (i := 1) (by simp only [List.getElem?_toArray, List.getElem?_cons_succ, List.getElem?_cons_zero]; rfl) (fun K hK => ?_) ?_
            · go_simp
              go_at_call 17
              refine (wall_any hS.1 (by omega) (fun t ht => by have := HALL.out t (List.mem_of_mem_take ht); omega)).mono ?_
              rintro e v1 ⟨va, rfl, hown, hb⟩
              have HX := Lib.hid hb
              obtain ⟨Aa, ca, Va, rfl, hta, _, _⟩ := hown.is
              have HTA := Lib.hid hta
              rw [hlk]
              clear hb hown hta
              go_simp
              refine hK.out _ _ ⟨hS.1.below HX.out, hS.2.1.below HX.out, hS.2.2.1.below HX.out, Lib.hid (bthen hS.2.2.2.out HX.out)⟩ (fun hS2 => ?_)
              clear hS hK K
              have hS := hS2
              clear hS2
              clear HX
              (try simp only [act_put, act_put_none, List.set_cons_zero, List.set_cons_succ])
              refine wpAnyH_ready (rs := [5]) (by decide +kernel) (by simp) ?_
              refine AllReadyH.cons (i := 5) (by simp only [List.getElem?_toArray, List.getElem?_cons_succ, List.getElem?_cons_zero]; rfl) (fun K hK => ?_) ?_
              · go_simp
                go_at_call 16
                refine (same_true _ _ _ _ _ Va V (ps.take k) _ HTA.out (hS.2.1.take k) hlk (by omega)).mono ?_
                rintro e v2 ⟨rfl, hb⟩
                have HX := Lib.hid hb
                clear hb HTA
                go_simp
                refine hK.out _ _ ⟨hS.1.below HX.out, hS.2.1.below HX.out, hS.2.2.1.below HX.out, Lib.hid (bthen hS.2.2.2.out HX.out)⟩ (fun hS2 => ?_)
                clear hS hK K
                have hS := hS2
                clear hS2
                clear HX
                (try simp only [act_put, act_put_none, List.set_cons_zero, List.set_cons_succ])
                refine held_take (i := 6) (by simp only [List.getElem?_toArray, List.getElem?_cons_succ, List.getElem?_cons_zero]; rfl) (by decide +kernel) (by decide +kernel) (by decide +kernel) (by exact fun _ _ _ _ h => h) hS (by rfl) ?_
                apply Exists.intro
                refine ⟨fun w' hSw => ?_, ?_⟩
                · go_simp
                  with_reducible rfl
                (try simp only [act_put, act_put_none, List.set_cons_zero, List.set_cons_succ])
                refine wpAnyH_ready (rs := [7]) (by decide +kernel) (by simp) ?_
                refine AllReadyH.cons (i := 7) (by simp only [List.getElem?_toArray, List.getElem?_cons_succ, List.getElem?_cons_zero]; rfl) (fun K hK => ?_) ?_
                · go_simp
                  go_at_call 9
                  refine (awake12 _ hS.2.2.1).mono ?_
                  rintro e v6 ⟨rfl, hb⟩
                  have HX := Lib.hid hb
                  clear hb
                  go_simp
                  refine hK.out _ _ ⟨hS.1.below HX.out, hS.2.1.below HX.out, hS.2.2.1.below HX.out, Lib.hid (bthen hS.2.2.2.out HX.out)⟩ (fun hS2 => ?_)
                  clear hS hK K
                  have hS := hS2
                  clear hS2
                  clear HX
                  (try simp only [act_put, act_put_none, List.set_cons_zero, List.set_cons_succ])
                  refine held_take (i := 8) (by simp only [List.getElem?_toArray, List.getElem?_cons_succ, List.getElem?_cons_zero]; rfl) (by decide +kernel) (by decide +kernel) (by decide +kernel) (by exact fun _ _ _ _ h => h) hS (by rfl) ?_
                  apply Exists.intro
                  refine ⟨fun w' hSw => ?_, ?_⟩
                  · go_simp
                    with_reducible rfl
                  (try simp only [act_put, act_put_none, List.set_cons_zero, List.set_cons_succ])
                  refine held_take (i := 9) (by simp only [List.getElem?_toArray, List.getElem?_cons_succ, List.getElem?_cons_zero]; rfl) (by decide +kernel) (by decide +kernel) (by decide +kernel) (by exact fun _ _ _ _ h => h) hS (by rfl) ?_
                  apply Exists.intro
                  refine ⟨fun w' hSw => ?_, ?_⟩
                  · go_simp
                    with_reducible rfl
                  (try simp only [act_put, act_put_none, List.set_cons_zero, List.set_cons_succ])
                  refine wpAnyH_done (by decide +kernel) ?_ _
                  have HSF := Lib.hid hS.2.2.2.out
                  clear hS
                  go_wp2_with fail
                  go_ret
                  exact ⟨rfl, HSF.out⟩
                exact AllReadyH.nil
              exact AllReadyH.nil
            exact AllReadyH.nil
          · go_wp2_with fail
            refine (wopen_bad HDX.out HNX.out (by have := HZL.out; omega) HSC.out (by rw [HDR.out, HTE.out]; exact h3)).mono ?_
            rintro e w11 ⟨rfl, hb⟩
            have HBF := Lib.hid (bthen HBX.out hb)
            have HDF := Lib.hid (HDX.out.below hb)
            have HNF := Lib.hid (HNX.out.below hb)
            have HIF := Lib.hid (HIX.out.below hb)
            clear hb
            --F25
            go_upto_region 25 with fail
            refine wp_region_held_drew (S := fun w' : World => DK w' p (1024 * 64) Z 0 ∧ IsBy w' (some ⟨g, 0, none⟩) Z ∧ Nib w' ∧ Hid (Below w.heap.size w w')) (by kernel_rfl) ⟨HDF.out.below (Below.refl _ _).drew, HIF.out.below (Below.refl _ _).drew, HNF.out.below (Below.refl _ _).drew, Lib.hid HBF.out.drew⟩ (fun hS => ?_)
            clear HDF HIF HNF HBF
            generalize w11.drew = W7 at *
            refine held_take (i := 0) (by simp only [List.getElem?_toArray, List.getElem?_cons_succ, List.getElem?_cons_zero]; rfl) (by decide +kernel) (by decide +kernel) (by decide +kernel) (by exact fun _ _ _ _ h => h) hS (by rfl) ?_
            apply Exists.intro
            refine ⟨fun w' hSw => ?_, ?_⟩
            · go_simp
              with_reducible rfl
            (try simp only [act_put, act_put_none, List.set_cons_zero, List.set_cons_succ])
            refine held_take (i := 1) (by simp only [List.getElem?_toArray, List.getElem?_cons_succ, List.getElem?_cons_zero]; rfl) (by decide +kernel) (by decide +kernel) (by decide +kernel) (by exact fun _ _ _ _ h => h) hS (by rfl) ?_
            apply Exists.intro
            refine ⟨fun w' hSw => ?_, ?_⟩
            · go_simp
              with_reducible rfl
            (try simp only [act_put, act_put_none, List.set_cons_zero, List.set_cons_succ])
            refine held_take (i := 2) (by simp only [List.getElem?_toArray, List.getElem?_cons_succ, List.getElem?_cons_zero]; rfl) (by decide +kernel) (by decide +kernel) (by decide +kernel) (by exact fun _ _ _ _ h => h) hS (by rfl) ?_
            apply Exists.intro
            refine ⟨fun w' hSw => ?_, ?_⟩
            · go_simp
              with_reducible rfl
            (try simp only [act_put, act_put_none, List.set_cons_zero, List.set_cons_succ])
            refine held_take (i := 3) (by simp only [List.getElem?_toArray, List.getElem?_cons_succ, List.getElem?_cons_zero]; rfl) (by decide +kernel) (by decide +kernel) (by decide +kernel) (by exact fun _ _ _ _ h => h) hS (by rfl) ?_
            apply Exists.intro
            refine ⟨fun w' hSw => ?_, ?_⟩
            · go_simp
              with_reducible rfl
            (try simp only [act_put, act_put_none, List.set_cons_zero, List.set_cons_succ])
            refine held_take (i := 4) (by simp only [List.getElem?_toArray, List.getElem?_cons_succ, List.getElem?_cons_zero]; rfl) (by decide +kernel) (by decide +kernel) (by decide +kernel) (by exact fun _ _ _ _ h => h) hS (by rfl) ?_
            apply Exists.intro
            refine ⟨fun w' hSw => ?_, ?_⟩
            · go_simp
              with_reducible rfl
            (try simp only [act_put, act_put_none, List.set_cons_zero, List.set_cons_succ])
            refine held_take (i := 5) (by simp only [List.getElem?_toArray, List.getElem?_cons_succ, List.getElem?_cons_zero]; rfl) (by decide +kernel) (by decide +kernel) (by decide +kernel) (by exact fun _ _ _ _ h => h) hS (by rfl) ?_
            apply Exists.intro
            refine ⟨fun w' hSw => ?_, ?_⟩
            · go_simp
              with_reducible rfl
            (try simp only [act_put, act_put_none, List.set_cons_zero, List.set_cons_succ])
            refine held_take (i := 6) (by simp only [List.getElem?_toArray, List.getElem?_cons_succ, List.getElem?_cons_zero]; rfl) (by decide +kernel) (by decide +kernel) (by decide +kernel) (by exact fun _ _ _ _ h => h) hS (by rfl) ?_
            apply Exists.intro
            refine ⟨fun w' hSw => ?_, ?_⟩
            · go_simp
              with_reducible rfl
            (try simp only [act_put, act_put_none, List.set_cons_zero, List.set_cons_succ])
            refine held_take (i := 7) (by simp only [List.getElem?_toArray, List.getElem?_cons_succ, List.getElem?_cons_zero]; rfl) (by decide +kernel) (by decide +kernel) (by decide +kernel) (by exact fun _ _ _ _ h => h) hS (by rfl) ?_
            apply Exists.intro
            refine ⟨fun w' hSw => ?_, ?_⟩
            · go_simp
              with_reducible rfl
            (try simp only [act_put, act_put_none, List.set_cons_zero, List.set_cons_succ])
            refine held_take (i := 10) (by simp only [List.getElem?_toArray, List.getElem?_cons_succ, List.getElem?_cons_zero]; rfl) (by decide +kernel) (by decide +kernel) (by decide +kernel) (by exact fun _ _ _ _ h => h) hS (by rfl) ?_
            apply Exists.intro
            refine ⟨fun w' hSw => ?_, ?_⟩
            · go_simp
              with_reducible rfl
            (try simp only [act_put, act_put_none, List.set_cons_zero, List.set_cons_succ])
            refine held_take (i := 11) (by simp only [List.getElem?_toArray, List.getElem?_cons_succ, List.getElem?_cons_zero]; rfl) (by decide +kernel) (by decide +kernel) (by decide +kernel) (by exact fun _ _ _ _ h => h) hS (by rfl) ?_
            apply Exists.intro
            refine ⟨fun w' hSw => ?_, ?_⟩
            · obtain ⟨_, q2, _⟩ := hSw
              have hcv := convT' (c := cap) q2 HZL.out
              go_simp
              with_reducible rfl
            (try simp only [act_put, act_put_none, List.set_cons_zero, List.set_cons_succ])
            refine wpAnyH_ready (rs := [8]) (by decide +kernel) (by simp) ?_
            refine AllReadyH.cons (i := 8) (by simp only [List.getElem?_toArray, List.getElem?_cons_succ, List.getElem?_cons_zero]; rfl) (fun K hK => ?_) ?_
            · go_simp
              go_at_call 15
              refine (dbytes_any hS.1 (by have := HZL.out; omega)).mono ?_
              rintro e v3 ⟨g3, rfl, hr, _, hb⟩
              have HX := Lib.hid hb
              have HI3 := Lib.hid (isBy_full hr)
              rw [HZL.out]
              clear hb hr
              go_simp
              refine hK.out _ _ ⟨hS.1.below HX.out, hS.2.1.below HX.out, hS.2.2.1.below HX.out, Lib.hid (bthen hS.2.2.2.out HX.out)⟩ (fun hS2 => ?_)
              clear hS hK K
              have hS := hS2
              clear hS2
              clear HX
              (try simp only [act_put, act_put_none, List.set_cons_zero, List.set_cons_succ])
              refine wpAnyH_ready (rs := [9]) (by decide +kernel) (by simp) ?_
              refine AllReadyH.cons (i := 9) (by simp only [List.getElem?_toArray, List.getElem?_cons_succ, List.getElem?_cons_zero]; rfl) (fun K hK => ?_) ?_
              · have hcv := convT' (c := X.length) HI3.out HZL.out
                go_simp
                refine hK.out _ _ hS (fun hS2 => ?_)
                clear hK K hS2 hcv
                (try simp only [act_put, act_put_none, List.set_cons_zero, List.set_cons_succ])
                refine held_take (i := 12) (by simp only [List.getElem?_toArray, List.getElem?_cons_succ, List.getElem?_cons_zero]; rfl) (by decide +kernel) (by decide +kernel) (by decide +kernel) (by exact fun _ _ _ _ h => h) hS (by rfl) ?_
                apply Exists.intro
                refine ⟨fun w' hSw => ?_, ?_⟩
                · go_simp
                  with_reducible rfl
                (try simp only [act_put, act_put_none, List.set_cons_zero, List.set_cons_succ])
                refine held_take (i := 13) (by simp only [List.getElem?_toArray, List.getElem?_cons_succ, List.getElem?_cons_zero]; rfl) (by decide +kernel) (by decide +kernel) (by decide +kernel) (by exact fun _ _ _ _ h => h) hS (by rfl) ?_
                apply Exists.intro
                refine ⟨fun w' hSw => ?_, ?_⟩
                · go_simp
                  with_reducible rfl
                (try simp only [act_put, act_put_none, List.set_cons_zero, List.set_cons_succ])
                refine held_take (i := 14) (by simp only [List.getElem?_toArray, List.getElem?_cons_succ, List.getElem?_cons_zero]; rfl) (by decide +kernel) (by decide +kernel) (by decide +kernel) (by exact fun _ _ _ _ h => h) hS (by rfl) ?_
                apply Exists.intro
                refine ⟨fun w' hSw => ?_, ?_⟩
                · go_simp
                  with_reducible rfl
                (try simp only [act_put, act_put_none, List.set_cons_zero, List.set_cons_succ])
                refine wpAnyH_ready (rs := [15]) (by decide +kernel) (by simp) ?_
                refine AllReadyH.cons (i := 15) (by simp only [List.getElem?_toArray, List.getElem?_cons_succ, List.getElem?_cons_zero]; rfl) (fun K hK => ?_) ?_
                · go_simp
                  go_at_call 9
                  refine (awake12 _ hS.2.2.1).mono ?_
                  rintro e v6 ⟨rfl, hb⟩
                  have HX := Lib.hid hb
                  clear hb
                  go_simp
                  refine hK.out _ _ ⟨hS.1.below HX.out, hS.2.1.below HX.out, hS.2.2.1.below HX.out, Lib.hid (bthen hS.2.2.2.out HX.out)⟩ (fun hS2 => ?_)
                  clear hS hK K
                  have hS := hS2
                  clear hS2
                  clear HX
                  (try simp only [act_put, act_put_none, List.set_cons_zero, List.set_cons_succ])
                  refine held_take (i := 16) (by simp only [List.getElem?_toArray, List.getElem?_cons_succ, List.getElem?_cons_zero]; rfl) (by decide +kernel) (by decide +kernel) (by decide +kernel) (by exact fun _ _ _ _ h => h) hS (by rfl) ?_
                  apply Exists.intro
                  refine ⟨fun w' hSw => ?_, ?_⟩
                  · go_simp
                    with_reducible rfl
                  (try simp only [act_put, act_put_none, List.set_cons_zero, List.set_cons_succ])
                  refine held_take (i := 17) (by simp only [List.getElem?_toArray, List.getElem?_cons_succ, List.getElem?_cons_zero]; rfl) (by decide +kernel) (by decide +kernel) (by decide +kernel) (by exact fun _ _ _ _ h => h) hS (by rfl) ?_
                  apply Exists.intro
                  refine ⟨fun w' hSw => ?_, ?_⟩
                  · go_simp
                    with_reducible rfl
                  (try simp only [act_put, act_put_none, List.set_cons_zero, List.set_cons_succ])
                  refine wpAnyH_done (by decide +kernel) ?_ _
                  have HSF := Lib.hid hS.2.2.2.out
                  clear hS
                  go_wp2_with fail
                  go_ret
                  exact ⟨rfl, HSF.out⟩
                exact AllReadyH.nil
              exact AllReadyH.nil
            exact AllReadyH.nil
end Go.Proofs.YtfnbcafilbafgaaDoor
