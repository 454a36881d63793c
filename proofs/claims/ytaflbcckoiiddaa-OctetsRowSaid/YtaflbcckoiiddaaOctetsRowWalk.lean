/-
  The walk of OctetsRow.
-/
import Derived.Test.YtaflbcckoiiddaaOctBack
namespace Go.Proofs.Ytaflbcckoiiddaa
open Go.RowKit
set_option linter.unusedSimpArgs false
theorem new_is (A : Option Addr) (c : Nat) (l : List UInt8) (w : World) (hl : IsBy w A l) (hA : A = none → c = 0) (hlen : l.length ≤ 70368744177664) {n : Nat} (hn : n = l.length) :
    Calls Try.prog 9 #[.slice A n c] w fun e w' => ∃ p, e = .returned (.pointer (some ⟨p, 0, none⟩)) ∧ Rd w' p l 0 ∧ w.heap.size ≤ p ∧ Below w.heap.size w w' := by
  subst hn
  exact new_any A c l w hl hA hlen
set_option maxRecDepth 10000 in
set_option maxHeartbeats 4000000 in
theorem octetsRow_walk (A : Option Addr) (c : Nat) (l : List Int) (hm : l.length ≤ 9223372036854775807 ∧ (A = none → c = 0 ∧ l = []) ∧ l.length ≤ c) (_hb : ∀ n ∈ l, -9223372036854775808 ≤ n ∧ n ≤ 9223372036854775807) (cut : Int) (hcut : 0 ≤ cut ∧ cut ≤ 255) (w : World)
    (hcell : ∀ i, i < l.length → ∃ b o, A = some ⟨b, o, none⟩ ∧ w.cell? ⟨b, o + i, none⟩ = some (.int .i64 (l.getD i 0))) :
    Calls Try.prog 4 #[.slice A l.length c, .int .u8 cut] w fun e w' => e = .returned (.bool true) ∧ Below w.heap.size w w' := by
  clear _hb
  obtain ⟨hm1, _, hm3⟩ := hm
  obtain ⟨hc0, hc1⟩ := hcut
  obtain ⟨cu, rfl⟩ := Int.eq_ofNat_of_zero_le hc0
  have HC := Lib.hid hcell
  clear hcell
  go_enter Try.func4, Try.ntmps4
  by_cases hL : l.length ≤ 40
  · have hL' : (l.length : Int) ≤ 40 := by omega
    go_wp2_with fail
    go_loopw [5, 18] (fun v i w' => ∃ k : Nat, k ≤ l.length ∧ i = .int .i64 k ∧ OwnBy w' w.heap.size v (catB (l.take k)) ∧ (∀ j, j < k → isB (l.getD j 0) = true) ∧ Below w.heap.size w w') (fun _ i _ => l.length - (intOf i).toNat)
    case atStart => exact ⟨0, Nat.zero_le _, rfl, OwnBy.nil _ _, fun j hj => absurd hj (Nat.not_lt_zero _), Below.refl _ _⟩
    case round =>
      obtain ⟨k, hk, rfl, hown, hall, hb⟩ := hrel
      have HB := Lib.hid hb
      have HAll := Lib.hid hall
      obtain ⟨Av, cv, rfl, i1, i2, i3, i4⟩ := hown.isBy
      have I3 := Lib.hid i3
      have I1 := Lib.hid i1
      have I2 := Lib.hid i2
      have I4 := Lib.hid i4
      have HO := Lib.hid hown
      clear hb hall hown i1 i2 i3 i4
      have hlen6 := catB_len (l.take k)
      rw [List.length_take] at hlen6
      by_cases hlt : k < l.length
      · obtain ⟨bk, ok, rfl, hc⟩ := HC.out k hlt
        have dk : wr.cell? ⟨bk, ok + k, none⟩ = some (.int .i64 (l.getD k 0)) := (HB.out.cell (World.block_lt_of_cell? _ _ hc)).trans hc
        have hstep := catB_take hlt
        have HS := Lib.hid hstep
        clear hstep hc
        obtain ⟨x, hx⟩ : ∃ x, l.getD k 0 = x := ⟨_, rfl⟩
        rw [hx] at dk
        have HX := Lib.hid hx
        clear hx
        by_cases h1 : x < -1099511627776
        · go_wp2_with fail
          refine (awake8 _).mono ?_
          rintro e w9 ⟨rfl, hb9⟩
          have HB9 := Lib.hid (bthen HB.out hb9)
          clear hb9
          go_wp2_with fail
          go_ret
          exact ⟨rfl, HB9.out⟩
        · by_cases h2 : x ≤ 1099511627776
          · have hxb : isB x = true := isB_iff.2 ⟨by omega, h2⟩
            have HXB := Lib.hid hxb
            clear hxb
            go_wp2_with fail
            refine (number_any Av cv (catB (l.take k)) x wr I1.out I2.out (by omega)).mono ?_
            rintro e w2 ⟨v2, rfl, hown2, hb2⟩
            have HO2 := Lib.hid (hown2.mono HB.out.size)
            have HB2 := Lib.hid (bthen HB.out hb2)
            clear hown2 hb2
            go_wp2_with fail
            go_roundw
            case rel =>
              refine ⟨k + 1, by omega, by go_num, by rw [HS.out, HX.out]; exact HO2.out, fun j hj => ?_, HB2.out⟩
              by_cases hjk : j = k
              · rw [hjk, HX.out]; exact HXB.out
              · exact HAll.out j (by omega)
            case measure => simp [intOf]; omega
          · go_wp2_with fail
            refine (awake8 _).mono ?_
            rintro e w9 ⟨rfl, hb9⟩
            have HB9 := Lib.hid (bthen HB.out hb9)
            clear hb9
            go_wp2_with fail
            go_ret
            exact ⟨rfl, HB9.out⟩
      · have hfull : l.take k = l := List.take_of_length_le (by omega)
        rw [hfull] at HO I1 I3 hlen6
        rw [hfull]
        have hkl : ∀ j, j < l.length → isB (l.getD j 0) = true := fun j hj => HAll.out j (by omega)
        have HK := Lib.hid hkl
        clear hkl HAll hfull
        go_wp2_with fail
        refine (new_any Av cv (catB l) wr I1.out I2.out (by omega)).mono ?_
        rintro e w2 ⟨p, rfl, hr, hp, hb2⟩
        have HB2 := Lib.hid (bthen HB.out hb2)
        have IB2 := Lib.hid (I1.out.below hb2)
        have I5 : Hid (∀ b o, Av = some ⟨b, o, none⟩ → b < p) := Lib.hid fun b o h => Nat.lt_of_lt_of_le (I4.out b o h).2 hp
        have hp2 : w.heap.size ≤ p := Nat.le_trans HB.out.size hp
        have HR := Lib.hid hr
        clear hr hp hb2 HB I1
        go_wp2_with fail
        go_loopw [37] (fun i w' => ∃ j : Nat, j ≤ l.length ∧ i = .int .i64 j ∧ Rd w' p (catB (l.drop j)) 0 ∧ IsBy w' Av (catB l) ∧ Below w.heap.size w w') (fun i _ => l.length - (intOf i).toNat)
        case atStart => exact ⟨0, Nat.zero_le _, rfl, HR.out, IB2.out, HB2.out⟩
        case round =>
          rename World => w5
          obtain ⟨j, hj, rfl, hr, hi, hb⟩ := hrel
          have HB := Lib.hid hb
          have HR5 := Lib.hid hr
          have HI := Lib.hid hi
          clear hb hr hi HR IB2 HB2
          by_cases hlt2 : j < l.length
          · obtain ⟨bk, ok, rfl, hc⟩ := HC.out j hlt2
            have dk : w5.cell? ⟨bk, ok + j, none⟩ = some (.int .i64 (l.getD j 0)) := (HB.out.cell (World.block_lt_of_cell? _ _ hc)).trans hc
            have hbj := HK.out j hlt2
            have hdl : (catB (l.drop j)).length ≤ 240 := by
              have := catB_len (l.drop j)
              rw [List.length_drop] at this
              omega
            have hrd : rd (catB (l.drop j)) 0 = (l.getD j 0, 0, catB (l.drop (j + 1))) := by rw [catB_drop hlt2]; exact rd_numB hbj _
            have HRD := Lib.hid hrd
            clear hrd hc hbj
            generalize l.getD j 0 = x at *
            go_wp2_with fail
            refine (rnum_is HR5.out (by omega) HRD.out).mono ?_
            rintro e w6 ⟨rfl, hr, hb6⟩
            have HR6 := Lib.hid hr
            have HB6 := Lib.hid (HB.out.trans (hb6.mono hp2))
            have HI6 := Lib.hid (HI.out.keep hb6 I5.out)
            clear hr hb6 HB HI HR5
            go_wp2_with fail
            go_roundw
            case rel => exact ⟨j + 1, by omega, by go_num, HR6.out, HI6.out, HB6.out⟩
            case measure => simp [intOf]; omega
          · have hnil : catB (l.drop j) = [] := by rw [List.drop_eq_nil_of_le (by omega)]; rfl
            rw [hnil] at HR5
            clear hnil
            go_wp2_with fail
            refine (end_is (n := 0) HR5.out (by decide)).mono ?_
            rintro e _ ⟨rfl, rfl⟩
            by_cases hz : l.length = 0
            · go_wp2_with fail
              refine (end_is (n := 0) HR5.out (by decide)).mono ?_
              rintro e _ ⟨rfl, rfl⟩
              go_wp2_with fail
              refine (awake8 _).mono ?_
              rintro e w9 ⟨rfl, hb9⟩
              have HB9 := Lib.hid (bthen HB.out hb9)
              clear hb9
              go_wp2_with fail
              go_ret
              exact ⟨rfl, HB9.out⟩
            · have hbl : 1 ≤ (catB l).length := by
                cases l with
                | nil => simp at hz
                | cons x t => rw [catB, List.length_append]; have := uB_some (zig x); unfold numB; omega
              obtain ⟨M, hM⟩ : ∃ M, (catB l).length = M := ⟨_, rfl⟩
              have hmod : cu % M < M := Nat.mod_lt _ (by omega)
              have hkc : cu % M ≤ cv := by have := I3.out; omega
              have htk : ((catB l).take (cu % M)).length = cu % M := by rw [List.length_take]; omega
              have hM2 : M ≤ 240 := by omega
              have hcs : cutAt l 0 ((catB l).take (cu % M)) 0 := Or.inr ⟨rfl, cu % M, by rw [List.drop_zero, hM]; exact hmod, rfl⟩
              have CS := Lib.hid hcs
              have hbi := HI.out.take (cu % M)
              have HBI := Lib.hid hbi
              have HTK := Lib.hid htk
              clear hbi hcs htk HR5
              have hz1 : decide ((l.length : Int) = 0) = false := decide_eq_false (by omega)
              rw [hM]
              clear hM hlen6
              have hM1 : M ≠ 0 := by omega
              go_wp2_with (refine bytes_slice_to rfl _ _ rfl Av M cv (cu % M) rfl ?hy hkc ?_)
              case hy => rfl
              generalize hq : cu % M = q at *
              refine (new_is Av cv ((catB l).take q) w5 HBI.out I2.out (by rw [HTK.out]; omega) HTK.out.symm).mono ?_
              rintro e w6 ⟨p6, rfl, hr, hp, hb6⟩
              have HB6 := Lib.hid (bthen HB.out hb6)
              have hp6 : w.heap.size ≤ p6 := Nat.le_trans HB.out.size hp
              have HR6 := Lib.hid hr
              have htl : ((catB l).take q).length ≤ 240 := by rw [HTK.out]; omega
              have HTL := Lib.hid htl
              clear hr hp hb6 HB HI HBI htl
              go_wp2_with fail
              go_loopw [78] (fun i w' => ∃ (j : Nat) (rest : List UInt8) (e : Int), j ≤ l.length ∧ i = .int .i64 j ∧ Rd w' p6 rest e ∧ cutAt l j rest e ∧ rest.length ≤ 240 ∧ Below w.heap.size w w') (fun i _ => l.length - (intOf i).toNat)
              case atStart => exact ⟨0, _, _, Nat.zero_le _, rfl, HR6.out, CS.out, HTL.out, HB6.out⟩
              case round =>
                rename World => w7
                obtain ⟨j, rest, e, hj, rfl, hr, hcs, hrl, hb⟩ := hrel
                have HB7 := Lib.hid hb
                have HR7 := Lib.hid hr
                have CS7 := Lib.hid hcs
                clear hb hr hcs HR6 HB6 CS HTL
                by_cases hlt3 : j < l.length
                · go_wp2_with fail
                  refine (rnum_any HR7.out (by omega)).mono ?_
                  rintro e2 w8 ⟨rfl, hr, hb8⟩
                  have HR8 := Lib.hid hr
                  have HB8 := Lib.hid (HB7.out.trans (hb8.mono hp6))
                  clear hr hb8
                  go_wp2_with fail
                  go_roundw
                  case rel => exact ⟨j + 1, _, _, by omega, by go_num, HR8.out, cut_step hlt3 (HK.out j hlt3) CS7.out, Nat.le_trans cut_rest hrl, HB8.out⟩
                  case measure => simp [intOf]; omega
                · obtain rfl : j = l.length := by omega
                  go_wp2_with fail
                  refine (end_is (n := 3) HR7.out (cut_end CS7.out)).mono ?_
                  rintro e2 _ ⟨rfl, rfl⟩
                  go_wp2_with fail
                  refine (awake8 _).mono ?_
                  rintro e2 w9 ⟨rfl, hb9⟩
                  have HB9 := Lib.hid (bthen HB7.out hb9)
                  clear hb9
                  go_wp2_with fail
                  go_ret
                  exact ⟨rfl, HB9.out⟩
  · have hL' : ¬ (l.length : Int) ≤ 40 := by omega
    go_wp2_with fail
    refine (awake8 _).mono ?_
    rintro e w9 ⟨rfl, hb9⟩
    have HB9 := Lib.hid hb9
    clear hb9
    go_wp2_with fail
    go_ret
    exact ⟨rfl, HB9.out⟩
end Go.Proofs.Ytaflbcckoiiddaa
