/-
  The walk of FrameTurned.
-/
import Derived.Test.YtaflbcckoiiddaaDoorFramePlain
namespace Go.Proofs.YtaflbcckoiiddaaDoor
open Go.RowKit
set_option linter.unusedSimpArgs false
set_option linter.unusedVariables false
set_option maxRecDepth 20000 in
set_option maxHeartbeats 4000000 in
theorem frameTurned_walk (A : Option Addr) (c : Nat) (l : List UInt8) (hm : l.length ≤ 9223372036854775807 ∧ (A = none → c = 0 ∧ l = []) ∧ l.length ≤ c) (at_ : Int) (hat : -9223372036854775808 ≤ at_ ∧ at_ ≤ 9223372036854775807) (by_ : Int) (hby : 0 ≤ by_ ∧ by_ ≤ 255) (w : World) (hN : Nib w) (hl : IsBy w A l) :
    Calls Tryd.prog 6 #[.slice A l.length c, .int .i64 at_, .int .u8 by_] w fun e w' => e = .returned (.bool true) ∧ Below w.heap.size w w' := by
  obtain ⟨hm1, hm2, hm3⟩ := hm
  have HN := Lib.hid hN
  have HL := Lib.hid hl
  have HM2 := Lib.hid (fun h => (hm2 h).1)
  clear hN hl hm2
  have AW : Hid (Calls Tryd.prog 10 #[] w fun e w' => e = .returned (.bool true) ∧ Below w.heap.size w w') := Lib.hid (awake9 w HN.out)
  go_enter Tryd.func6, Tryd.ntmps6
  by_cases hbig : 32768 < l.length
  · have g1 : decide ((3000 : Int) < (l.length : Int)) = true := decide_eq_true (by omega)
    go_wp2_with fail
    refine (fput_big A l c w hbig).mono ?_
    rintro e _ ⟨rfl, rfl⟩
    go_wp2_with fail
    refine AW.out.mono ?_
    rintro e w9 ⟨rfl, hb9⟩
    have HB9 := Lib.hid hb9
    clear hb9
    go_wp2_with fail
    go_ret
    exact ⟨rfl, HB9.out⟩
  go_wp2_with fail
  refine (fput_any A l c w HN.out HL.out hm3 HM2.out (by omega)).mono ?_
  rintro e w1 ⟨v, rfl, hown, hb⟩
  have hpl := putL_len l
  obtain ⟨g, cap, cur, rfl, hbg, hr, hc, hcm, hcs, htk⟩ := OwnBy.row_of (xs := putL l) hown (by omega)
  have HB1 := Lib.hid hb
  have HN1 := Lib.hid (HN.out.below hb)
  have hlen : (((putL l).length : Nat) : Int) = (l.length : Int) + 8 := by omega
  clear hb
  by_cases hmid : 3000 < l.length
  · have g1 : decide ((3000 : Int) < (l.length : Int)) = true := decide_eq_true (by omega)
    clear hown hr htk
    go_wp2_with fail
    refine (awake9 w1 HN1.out).mono ?_
    rintro e w9 ⟨rfl, hb9⟩
    have HB9 := Lib.hid (bthen HB1.out hb9)
    clear hb9
    go_wp2_with fail
    go_ret
    exact ⟨rfl, HB9.out⟩
  have g1 : decide ((3000 : Int) < (l.length : Int)) = false := decide_eq_false (by omega)
  by_cases hneg : at_ < 0
  · have g2 : decide (at_ < 0) = true := decide_eq_true hneg
    clear hown hr htk
    go_wp2_with fail
    refine (awake9 w1 HN1.out).mono ?_
    rintro e w9 ⟨rfl, hb9⟩
    have HB9 := Lib.hid (bthen HB1.out hb9)
    clear hb9
    go_wp2_with fail
    go_ret
    exact ⟨rfl, HB9.out⟩
  have g2 : decide (at_ < 0) = false := decide_eq_false hneg
  by_cases hge : (l.length : Int) + 8 ≤ at_
  · have g3 : decide ((l.length : Int) + 8 ≤ at_) = true := decide_eq_true hge
    clear hown hr htk
    go_wp2_with fail
    refine (awake9 w1 HN1.out).mono ?_
    rintro e w9 ⟨rfl, hb9⟩
    have HB9 := Lib.hid (bthen HB1.out hb9)
    clear hb9
    go_wp2_with fail
    go_ret
    exact ⟨rfl, HB9.out⟩
  have g3 : decide ((l.length : Int) + 8 ≤ at_) = false := decide_eq_false hge
  by_cases hz : by_ = 0
  · subst hz
    clear hown hr htk
    go_wp2_with fail
    refine (awake9 w1 HN1.out).mono ?_
    rintro e w9 ⟨rfl, hb9⟩
    have HB9 := Lib.hid (bthen HB1.out hb9)
    clear hb9
    go_wp2_with fail
    go_ret
    exact ⟨rfl, HB9.out⟩
  obtain ⟨i, rfl⟩ : ∃ i : Nat, at_ = i := ⟨at_.toNat, by omega⟩
  obtain ⟨k, rfl⟩ : ∃ k : Nat, by_ = k := ⟨by_.toNat, by omega⟩
  have hi : i < (putL l).length := by omega
  have hz' : (decide ((k : Int) = 0)) = false := decide_eq_false hz
  have hcell : w1.cell? ⟨g, i, none⟩ = some (.int .u8 (((putL l).getD i 0).toNat : Int)) := by
    rw [cell_of_rowAt hr]
    have e : (cur.toList.take (putL l).length)[i]? = ((putL l).map bc)[i]? := by rw [htk]
    simp only [List.getElem?_take, if_pos hi, List.getElem?_map, List.getElem?_eq_getElem hi, Option.map_some, Array.getElem?_toList] at e
    rw [e]
    simp [bc, List.getD, List.getElem?_eq_getElem hi]
  have hfz : w1.frozen? ⟨g, i, none⟩ = false := frozen_of_rowAt hr i
  obtain ⟨y, hy1, hy2⟩ := turn_byte ((putL l).getD i 0) k (by omega) (by omega)
  have HS := Lib.hid (own_set hbg hr hc hcm hcs htk i y)
  have HTL := Lib.hid (fun h => turned_law (p := l) (i := i) (y := y) (by omega) hi hy2 h)
  obtain ⟨x, hx⟩ : ∃ x, (putL l).getD i 0 = x := ⟨_, rfl⟩
  rw [hx] at hcell hy1
  have HZL : Hid (((putL l).set i y).length = l.length + 8) := Lib.hid (by rw [List.length_set]; exact hpl)
  clear hown hr htk hx hy2
  go_upto_region 5 with fail
  obtain ⟨W3, hW3⟩ : ∃ W3, w1.setCell ⟨g, i, none⟩ (.int .u8 (y.toNat : Int)) = W3 := ⟨_, rfl⟩
  have HS3 : OwnBy W3 w.heap.size (.slice (some ⟨g, 0, none⟩) ((putL l).set i y).length cap) ((putL l).set i y) ∧ Below w.heap.size w1 W3 := by rw [← hW3]; exact HS.out
  rw [hW3]
  clear hW3 hcell hfz HS
  obtain ⟨hown, hb⟩ := HS3
  have HB3 := Lib.hid (HB1.out.trans hb)
  have HI3 : Hid (IsBy W3 (some ⟨g, 0, none⟩) ((putL l).set i y)) := Lib.hid (by
    obtain ⟨A3, c3, h3, h4, _⟩ := hown.isBy
    injection h3 with h5 h6 h7
    rw [h5]; exact h4)
  have HN3 := Lib.hid (HN.out.below HB3.out)
  clear hown hb
  generalize (putL l).set i y = z at *
  go_wp2_with fail
  refine (ftake_at (some ⟨g, 0, none⟩) z _ cap W3 HN3.out HI3.out (by first | exact HZL.out | (have := HZL.out; omega)) (by first | exact hc | omega) (by omega)).mono ?_
  rintro e w4 ⟨v4, rfl, hown, hb⟩
  obtain ⟨A4, c4, rfl, _, _, _, _⟩ := hown.isBy
  have HB4 := Lib.hid (bthen HB3.out hb)
  have HN4 := Lib.hid (HN3.out.below hb)
  clear hb
  by_cases htk : takeE z = 0
  · obtain ⟨t1, t2, t3, t4, t5⟩ := take_good htk
    obtain ⟨q1, q2⟩ := HTL.out htk
    rw [t2, htk]
    have g5 : decide ((i : Int) < 4) = true := decide_eq_true (by omega)
    have hnum := numL_lt z
    have g6 : ((8 + (numL z : Nat) : Int) != ((l.length : Nat) : Int) + 8) = true := bne_iff_ne.2 (fun e => q2 (by omega))
    clear hown t1 t2 t3 t5 HTL
    generalize numL z = nz at *
    generalize (takeP z).length = pz at *
    go_wp2_with fail
    refine (awake9 w4 HN4.out).mono ?_
    rintro e w9 ⟨rfl, hb9⟩
    have HB9 := Lib.hid (bthen HB4.out hb9)
    clear hb9
    go_wp2_with fail
    go_ret
    exact ⟨rfl, HB9.out⟩
  · obtain ⟨t1, t2⟩ := take_bad rfl htk
    rw [t1, t2]
    have HNE : (takeE z == 0) = false := beq_eq_false_iff_ne.2 htk
    clear hown t1 t2 HTL
    generalize takeE z = r at *
    go_wp2_with fail
    refine (awake9 w4 HN4.out).mono ?_
    rintro e w9 ⟨rfl, hb9⟩
    have HB9 := Lib.hid (bthen HB4.out hb9)
    clear hb9
    go_wp2_with fail
    go_ret
    exact ⟨rfl, HB9.out⟩
end Go.Proofs.YtaflbcckoiiddaaDoor
