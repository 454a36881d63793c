/-
  The walk of FrameBack.
-/
import Derived.Test.YtaflbcckoiiddaaDoorFramePlain
namespace Go.Proofs.YtaflbcckoiiddaaDoor
open Go.RowKit
set_option linter.unusedSimpArgs false
set_option linter.unusedVariables false
set_option maxRecDepth 20000 in
set_option maxHeartbeats 4000000 in
theorem frameBack_walk (A : Option Addr) (c : Nat) (l : List UInt8) (hm : l.length ≤ 9223372036854775807 ∧ (A = none → c = 0 ∧ l = []) ∧ l.length ≤ c) (hz : l.length ≤ 140737488351232) (B : Option Addr) (d : Nat) (t : List UInt8) (hm' : t.length ≤ 9223372036854775807 ∧ (B = none → d = 0 ∧ t = []) ∧ t.length ≤ d) (hz' : t.length ≤ 140737488351232) (w : World) (hN : Nib w) (hl : IsBy w A l) (ht : IsBy w B t) :
    Calls Tryd.prog 5 #[.slice A l.length c, .slice B t.length d] w fun e w' => e = .returned (.bool true) ∧ Below w.heap.size w w' := by
  obtain ⟨hm1, hm2, hm3⟩ := hm
  obtain ⟨hm1', hm2', hm3'⟩ := hm'
  have HN := Lib.hid hN
  have HL := Lib.hid hl
  have HT := Lib.hid ht
  have HM2 := Lib.hid (fun h => (hm2 h).1)
  have HM2' := Lib.hid (fun h => (hm2' h).1)
  clear hN hl ht hm2 hm2'
  have AW : Hid (Calls Tryd.prog 10 #[] w fun e w' => e = .returned (.bool true) ∧ Below w.heap.size w w') := Lib.hid (awake9 w HN.out)
  go_enter Tryd.func5, Tryd.ntmps5
  by_cases hbig : 3000 < l.length + t.length
  · have g1 : decide ((3000 : Int) < (l.length : Int) + (t.length : Int)) = true := decide_eq_true (by omega)
    go_wp2_with fail
    refine AW.out.mono ?_
    rintro e w9 ⟨rfl, hb9⟩
    have HB9 := Lib.hid hb9
    clear hb9
    go_wp2_with fail
    go_ret
    exact ⟨rfl, HB9.out⟩
  have g1 : decide ((3000 : Int) < (l.length : Int) + (t.length : Int)) = false := decide_eq_false (by omega)
  go_wp2_with fail
  refine (fput_any A l c w HN.out HL.out hm3 HM2.out (by omega)).mono ?_
  rintro e w1 ⟨v, rfl, hown, hb⟩
  obtain ⟨Av, cv, rfl, i1, i2, _, _⟩ := hown.isBy
  have HB1 := Lib.hid hb
  have HI1 := Lib.hid i1
  have HN1 := Lib.hid (HN.out.below hb)
  have HL1 := Lib.hid (HL.out.below hb)
  have HT1 := Lib.hid (HT.out.below hb)
  have I2 := Lib.hid i2
  obtain ⟨p1, p2, p3⟩ := take_put l t (by omega)
  have hpl := putL_len l
  have P1 := Lib.hid p1
  have P2 := Lib.hid p2
  have P3 := Lib.hid p3
  clear hb hown i1 i2 p1 p2 p3
  obtain ⟨y, hy⟩ : ∃ y, putL l = y := ⟨_, rfl⟩
  rw [hy] at HI1 P1 P2 P3 hpl
  rw [hy]
  have HPL := Lib.hid hpl
  clear hy hpl
  have HO1 : Hid (OwnBy (w1.alloc (.cells #[] 5)) w1.heap.size (.slice (some ⟨w1.heap.size, 0, none⟩) 0 0) []) := Lib.hid (OwnBy.row (xs := []) (rowAt_alloc_at _ _ _ _ rfl) (by simp))
  go_upto_region 5 with (at_builtin; refine wl_append_bytes rfl _ _ rfl w1.heap.size _ [] y Av cv rfl HO1.out rfl (HI1.out.alloc _) I2.out ?c1 (by simp) ?_)
  case c1 => have := HPL.out; simp; omega
  intro v2 w2 hown hb
  have hb2 : Below w1.heap.size w1 w2 := ((Below.refl _ _).alloc (Nat.le_refl _) _).trans hb
  have HO2 := Lib.hid hown
  have HB2 := Lib.hid (bthen HB1.out hb2)
  have HB2' := Lib.hid hb2
  clear hown hb hb2 HO1
  go_upto_region 5 with (at_builtin; refine wl_append_bytes rfl _ _ rfl w1.heap.size _ y t B d rfl HO2.out rfl (HT1.out.below HB2'.out) HM2'.out ?c2 HB2'.out.size ?_)
  case c2 => have := HPL.out; omega
  intro v3 w3 hown hb
  obtain ⟨A3, c3, rfl, i1, i2, i3, _⟩ := hown.isBy
  have HB3 := Lib.hid (HB2.out.trans (hb.mono HB1.out.size))
  have HB3' := Lib.hid (HB2'.out.trans hb)
  have HN3 := Lib.hid (HN1.out.below HB3'.out)
  have HI3 := Lib.hid i1
  have HL3 := Lib.hid (HL1.out.below HB3'.out)
  have I3 := Lib.hid i3
  clear hown hb i1 i2 HB2 HB2' HO2
  go_wp2_with fail
  refine (ftake_at A3 (y ++ t) _ c3 w3 HN3.out HI3.out (by first | rfl | simp) (by first | exact I3.out | (have := I3.out; simpa using this)) (by have := HPL.out; simp; omega)).mono ?_
  rintro e w4 ⟨v4, rfl, hown, hb⟩
  obtain ⟨t1, t2, _⟩ := take_good P1.out
  rw [t1, P2.out] at hown
  rw [t2, P1.out, P3.out]
  obtain ⟨A4, c4, rfl, i1, _, _, _⟩ := hown.isBy
  have HB4 := Lib.hid (bthen HB3.out hb)
  have HN4 := Lib.hid (HN3.out.below hb)
  have hcv1 := convT (c := c) (HL3.out.below hb)
  have hcv2 := convT (c := c4) i1
  clear hown hb i1 t1 t2
  have hlen : ((y.length : Nat) : Int) = 8 + (l.length : Int) := by have := HPL.out; omega
  have hlen2 : y.length = 8 + l.length := by have := HPL.out; omega
  go_wp2_with fail
  refine (awake9 w4 HN4.out).mono ?_
  rintro e w9 ⟨rfl, hb9⟩
  have HB9 := Lib.hid (bthen HB4.out hb9)
  clear hb9
  go_wp2_with fail
  go_ret
  exact ⟨rfl, HB9.out⟩
end Go.Proofs.YtaflbcckoiiddaaDoor
