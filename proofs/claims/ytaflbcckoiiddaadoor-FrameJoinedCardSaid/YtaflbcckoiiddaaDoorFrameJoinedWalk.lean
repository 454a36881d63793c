/-
  The walk of FrameJoined.
-/
import Derived.Test.YtaflbcckoiiddaaDoorFramePlain
namespace Go.Proofs.YtaflbcckoiiddaaDoor
open Go.RowKit
set_option linter.unusedSimpArgs false
set_option linter.unusedVariables false
theorem turn_byte (x : UInt8) (k : Nat) (hk : k < 256) (h0 : k ≠ 0) : ∃ y : UInt8, bits .xor .u8 (x.toNat : Int) (k : Int) = (y.toNat : Int) ∧ y ≠ x := by
  have hx := u8_lt x
  have hlt : x.toNat ^^^ k < 256 := Nat.xor_lt_two_pow (n := 8) hx hk
  refine ⟨UInt8.ofNat (x.toNat ^^^ k), ?_, fun e => h0 ?_⟩
  · rw [u8_xor_nat _ _ hx hk]
    simp only [UInt8.toNat_ofNat']
    omega
  · have e2 := congrArg UInt8.toNat e
    simp only [UInt8.toNat_ofNat'] at e2
    have e3 : x.toNat ^^^ k = x.toNat := by omega
    have e4 := congrArg (x.toNat ^^^ ·) e3
    simpa [← Nat.xor_assoc] using e4
set_option maxRecDepth 20000 in
set_option maxHeartbeats 4000000 in
theorem frameJoined_walk (A : Option Addr) (c : Nat) (l : List UInt8) (hm : l.length ≤ 9223372036854775807 ∧ (A = none → c = 0 ∧ l = []) ∧ l.length ≤ c) (at_ : Int) (hat : -9223372036854775808 ≤ at_ ∧ at_ ≤ 9223372036854775807) (by_ : Int) (hby : 0 ≤ by_ ∧ by_ ≤ 255) (w : World) (hN : Nib w) (hl : IsBy w A l) :
    Calls Tryd.prog 4 #[.slice A l.length c, .int .i64 at_, .int .u8 by_] w fun e w' => e = .returned (.bool true) ∧ Below w.heap.size w w' := by
  obtain ⟨hm1, hm2, hm3⟩ := hm
  have HN := Lib.hid hN
  have HL := Lib.hid hl
  have HM2 := Lib.hid (fun h => (hm2 h).1)
  clear hN hl hm2
  have AW : Hid (Calls Tryd.prog 10 #[] w fun e w' => e = .returned (.bool true) ∧ Below w.heap.size w w') := Lib.hid (awake9 w HN.out)
  go_enter Tryd.func4, Tryd.ntmps4
  by_cases hbig : 3000 < l.length
  · have g1 : decide ((3000 : Int) < (l.length : Int)) = true := decide_eq_true (by omega)
    go_wp2_with fail
    refine AW.out.mono ?_
    rintro e w9 ⟨rfl, hb9⟩
    have HB9 := Lib.hid hb9
    clear hb9
    go_wp2_with fail
    go_ret
    exact ⟨rfl, HB9.out⟩
  have g1 : decide ((3000 : Int) < (l.length : Int)) = false := decide_eq_false (by omega)
  by_cases hneg : at_ < 0
  · have g2 : decide (at_ < 0) = true := decide_eq_true hneg
    go_wp2_with fail
    refine AW.out.mono ?_
    rintro e w9 ⟨rfl, hb9⟩
    have HB9 := Lib.hid hb9
    clear hb9
    go_wp2_with fail
    go_ret
    exact ⟨rfl, HB9.out⟩
  have g2 : decide (at_ < 0) = false := decide_eq_false hneg
  by_cases hge : (l.length : Int) ≤ at_
  · have g3 : decide ((l.length : Int) ≤ at_) = true := decide_eq_true hge
    go_wp2_with fail
    refine AW.out.mono ?_
    rintro e w9 ⟨rfl, hb9⟩
    have HB9 := Lib.hid hb9
    clear hb9
    go_wp2_with fail
    go_ret
    exact ⟨rfl, HB9.out⟩
  have g3 : decide ((l.length : Int) ≤ at_) = false := decide_eq_false hge
  by_cases hz : by_ = 0
  · subst hz
    go_wp2_with fail
    refine AW.out.mono ?_
    rintro e w9 ⟨rfl, hb9⟩
    have HB9 := Lib.hid hb9
    clear hb9
    go_wp2_with fail
    go_ret
    exact ⟨rfl, HB9.out⟩
  obtain ⟨i, rfl⟩ : ∃ i : Nat, at_ = i := ⟨at_.toNat, by omega⟩
  obtain ⟨k, rfl⟩ : ∃ k : Nat, by_ = k := ⟨by_.toNat, by omega⟩
  have hi : i < l.length := by omega
  have hz' : (decide ((k : Int) = 0)) = false := decide_eq_false hz
  have HO1 : Hid (OwnBy (w.alloc (.cells #[] 5)) w.heap.size (.slice (some ⟨w.heap.size, 0, none⟩) 0 0) []) := Lib.hid (OwnBy.row (xs := []) (rowAt_alloc_at _ _ _ _ rfl) (by simp))
  go_upto_region 4 with (at_builtin; refine wl_append_bytes rfl _ _ rfl w.heap.size _ [] l A c rfl HO1.out rfl (HL.out.alloc _) HM2.out ?c1 (by simp) ?_)
  case c1 => first | omega | (simp; omega)
  intro v w2 hown hb
  obtain ⟨g, cap, cur, rfl, hbg, hr, hc, hcm, hcs, htk⟩ := OwnBy.row_of (xs := l) hown (by omega)
  have hb2 : Below w.heap.size w w2 := ((Below.refl _ _).alloc (Nat.le_refl _) _).trans hb
  have HR2 := Lib.hid hr
  have hcell : w2.cell? ⟨g, i, none⟩ = some (.int .u8 ((l.getD i 0).toNat : Int)) := by
    rw [cell_of_rowAt hr]
    have e : (cur.toList.take l.length)[i]? = (l.map bc)[i]? := by rw [htk]
    simp only [List.getElem?_take, if_pos hi, List.getElem?_map, List.getElem?_eq_getElem hi, Option.map_some, Array.getElem?_toList] at e
    rw [e]
    simp [bc, List.getD, List.getElem?_eq_getElem hi]
  have hfz : w2.frozen? ⟨g, i, none⟩ = false := frozen_of_rowAt hr i
  obtain ⟨y, hy1, hy2⟩ := turn_byte (l.getD i 0) k (by omega) (by omega)
  have HY2 := Lib.hid hy2
  obtain ⟨x, hx⟩ : ∃ x, l.getD i 0 = x := ⟨_, rfl⟩
  rw [hx] at hcell hy1 HY2
  have HX := Lib.hid hx
  clear hx
  have HS := Lib.hid (own_set hbg hr hc hcm hcs htk i y)
  have HB2 := Lib.hid hb2
  clear hown hb hr htk hb2 hy2
  go_upto_region 5 with fail
  obtain ⟨W3, hW3⟩ : ∃ W3, w2.setCell ⟨g, i, none⟩ (.int .u8 (y.toNat : Int)) = W3 := ⟨_, rfl⟩
  have HS3 : OwnBy W3 w.heap.size (.slice (some ⟨g, 0, none⟩) (l.set i y).length cap) (l.set i y) ∧ Below w.heap.size w2 W3 := by rw [← hW3]; exact HS.out
  rw [hW3]
  clear hW3 hcell hfz HS
  obtain ⟨hown, hb⟩ := HS3
  have HB3 := Lib.hid (HB2.out.trans hb)
  have HI3 : Hid (IsBy W3 (some ⟨g, 0, none⟩) (l.set i y)) := Lib.hid (by
    obtain ⟨A3, c3, h3, h4, _⟩ := hown.isBy
    injection h3 with h5 h6 h7
    rw [h5]; exact h4)
  have HL3 := Lib.hid (HL.out.below HB3.out)
  have HN3 := Lib.hid (HN.out.below HB3.out)
  clear hown hb
  go_wp2_with fail
  refine (fsum_at (some ⟨g, 0, none⟩) (l.set i y) l.length cap W3 HN3.out HI3.out (by simp) (by omega)).mono ?_
  rintro e _ ⟨rfl, rfl⟩
  go_wp2_with fail
  refine (fsum_any A l c W3 HN3.out HL3.out (by omega)).mono ?_
  rintro e _ ⟨rfl, rfl⟩
  have hne : crc (l.set i y) ≠ crc l := crc_set hi (by rw [HX.out]; exact HY2.out)
  have hne2 : (((crc (l.set i y) : Nat) : Int) != ((crc l : Nat) : Int)) = true := bne_iff_ne.2 (fun e => hne (by omega))
  have h1 := crc_lt (l.set i y)
  have h2 := crc_lt l
  have F1 : Hid (Calls Tryd.prog 13 #[.slice A l.length c] W3 fun e w' => e = .returned (.int .u32 (crc l : Nat)) ∧ W3 = w') := Lib.hid (fsum_any A l c W3 HN3.out HL3.out (by omega))
  have F2 : Hid (Calls Tryd.prog 14 #[.slice A l.length c] W3 fun e w' => e = .returned (.int .u32 (crc l : Nat)) ∧ W3 = w') := Lib.hid (rsum_any A l c W3 HL3.out (by omega))
  generalize crc (l.set i y) = q1 at *
  generalize crc l = q2 at *
  go_wp2_with fail
  refine F1.out.mono ?_
  rintro e _ ⟨rfl, rfl⟩
  go_wp2_with fail
  refine F2.out.mono ?_
  rintro e _ ⟨rfl, rfl⟩
  go_wp2_with fail
  refine (awake9 W3 HN3.out).mono ?_
  rintro e w9 ⟨rfl, hb9⟩
  have HB9 := Lib.hid (bthen HB3.out hb9)
  clear hb9
  go_wp2_with fail
  go_ret
  exact ⟨rfl, HB9.out⟩
end Go.Proofs.YtaflbcckoiiddaaDoor
