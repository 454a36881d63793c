/-
  The walk of FrameTakes.
-/
import Derived.Test.YtaflbcckoiiddaaDoorFramePlain
namespace Go.Proofs.YtaflbcckoiiddaaDoor
open Go.RowKit
set_option linter.unusedSimpArgs false
set_option linter.unusedVariables false
attribute [local go_sem] Later.cell
set_option maxRecDepth 20000 in
set_option maxHeartbeats 4000000 in
theorem frameTakes_walk (A : Option Addr) (c : Nat) (l : List UInt8) (hm : l.length ≤ 9223372036854775807 ∧ (A = none → c = 0 ∧ l = []) ∧ l.length ≤ c) (w : World) (hN : Nib w) (hl : IsBy w A l) :
    Calls Tryd.prog 7 #[.slice A l.length c] w fun e w' => e = .returned (.bool true) ∧ Below w.heap.size w w' := by
  obtain ⟨hm1, hm2, hm3⟩ := hm
  have HN := Lib.hid hN
  have HL := Lib.hid hl
  have HM2 := Lib.hid (fun h => (hm2 h).1)
  clear hN hl hm2
  go_enter Tryd.func7, Tryd.ntmps7
  by_cases hbig : 3000 < l.length
  · have g1 : decide ((3000 : Int) < (l.length : Int)) = true := decide_eq_true (by omega)
    go_wp2_with fail
    refine (awake9 w HN.out).mono ?_
    rintro e w9 ⟨rfl, hb9⟩
    have HB9 := Lib.hid hb9
    clear hb9
    go_wp2_with fail
    go_ret
    exact ⟨rfl, HB9.out⟩
  have g1 : decide ((3000 : Int) < (l.length : Int)) = false := decide_eq_false (by omega)
  go_wp2_with fail
  refine (ftake_any A l c w HN.out HL.out hm3 (by omega)).mono ?_
  rintro e w1 ⟨v1, rfl, hown1, hb1⟩
  have HB1 := Lib.hid hb1
  have HN1 := Lib.hid (HN.out.below hb1)
  have HL1 := Lib.hid (HL.out.below hb1)
  have HO1 := Lib.hid hown1
  clear hb1 hown1
  obtain ⟨tn, htn⟩ : ∃ n, takeN l = n := ⟨_, rfl⟩
  obtain ⟨te, hte⟩ : ∃ n, takeE l = n := ⟨_, rfl⟩
  have HTN := Lib.hid htn
  have HTE := Lib.hid hte
  rw [htn, hte]
  go_wp2_with fail
  refine (rtake_any A l c w1 HL1.out hm3 (by omega)).mono ?_
  rintro e w2 ⟨v2, rfl, hown2, hb2⟩
  rw [htn, hte]
  clear htn hte
  have HB2 := Lib.hid (bthen HB1.out hb2)
  have HN2 := Lib.hid (HN1.out.below hb2)
  have HL2 := Lib.hid (HL1.out.below hb2)
  have HO1' := Lib.hid (HO1.out.below hb2)
  have HO2 := Lib.hid hown2
  clear hb2 hown2 HO1
  go_wp2_with fail
  refine (fscan_any A l c w2 HN2.out HL2.out hm3 (by omega)).mono ?_
  rintro e w3 ⟨v3, a3, p3, rfl, hs3, hown3, hb3⟩
  have HB3 := Lib.hid (bthen HB2.out hb3)
  have HN3 := Lib.hid (HN2.out.below hb3)
  have HL3 := Lib.hid (HL2.out.below hb3)
  have HO1'' := Lib.hid (HO1'.out.below hb3)
  have HO2' := Lib.hid (HO2.out.below hb3)
  have HO3 := Lib.hid hown3
  have HS3 := Lib.hid hs3
  clear hb3 hown3 hs3 HO1' HO2
  go_wp2_with fail
  refine (rscan_any A l c w3 HL3.out hm3 (by omega)).mono ?_
  rintro e w4 ⟨v4, a4, p4, rfl, hs4, hown4, hb4⟩
  obtain ⟨rfl, rfl⟩ := ScanIs.one HS3.out hs4
  obtain ⟨hle1, hle2⟩ := HS3.out.le
  have HB4 := Lib.hid (bthen HB3.out hb4)
  have HN4 := Lib.hid (HN3.out.below hb4)
  have HX1 := Lib.hid (HO1''.out.below hb4)
  have HX2 := Lib.hid (HO2'.out.below hb4)
  have HX3 := Lib.hid (HO3.out.below hb4)
  have HX4 := Lib.hid hown4
  clear hb4 hown4 hs4 HO1'' HO2' HO3 HS3 HB1 HB2 HB3 HN1 HN2 HN3 HL1 HL2 HL3
  obtain ⟨A1, c1, rfl, i1, _, _, _⟩ := HX1.out.isBy
  obtain ⟨A2, c2, rfl, i2, _, _, _⟩ := HX2.out.isBy
  have hcv1 := convT (c := c1) i1
  have hcv2 := convT (c := c2) i2
  obtain ⟨A3, c3, V3, rfl, t3, e3, _, _⟩ := HX3.out.texts
  obtain ⟨A4, c4, V4, rfl, t4, e4, _, _⟩ := HX4.out.texts
  have HT3 := Lib.hid t3
  have HT4 := Lib.hid t4
  have HE3 := Lib.hid e3
  have HE4 := Lib.hid e4
  have hk : (3 : Nat) = 3 := rfl
  clear i1 i2 t3 t4 e3 e4 HX1 HX2 HX3 HX4
  generalize takeP l = tp at *
  go_wp2_with fail
  go_loopw [69] (fun i w' => ∃ k : Nat, k ≤ p3.length ∧ i = .int .i64 k ∧ Below w4.heap.size w4 w') (fun i _ => p3.length - (intOf i).toNat)
  case atStart => exact ⟨0, Nat.zero_le _, rfl, Below.refl _ _⟩
  case round =>
    rename World => wr
    obtain ⟨k, hk, rfl, hb⟩ := hrel
    have HB := Lib.hid hb
    by_cases hlt : k < p3.length
    · obtain ⟨b3, o3, rfl, d3⟩ := HT3.out.cell k hlt
      obtain ⟨b4, o4, rfl, d4⟩ := HT4.out.cell k hlt
      have y3 := (HT3.out.by_ k hlt).below hb
      have y4 := (HT4.out.by_ k hlt).below hb
      have q3 := HE3.out k
      have q4 := HE4.out k
      have f3 := (hb.cell (World.block_lt_of_cell? _ _ d3)).trans d3
      have f4 := (hb.cell (World.block_lt_of_cell? _ _ d4)).trans d4
      have g3 : b3 < wr.heap.size := World.block_lt_of_cell? _ _ f3
      have g4 : b4 < wr.heap.size := World.block_lt_of_cell? _ _ f4
      generalize V3 k = z3 at *
      generalize V4 k = z4 at *
      obtain ⟨B3, e3, t3⟩ := z3
      obtain ⟨B4, e4, t4⟩ := z4
      dsimp only at f3 f4 y3 y4 q3 q4
      subst q3 q4
      generalize p3.getD k [] = y at *
      have hl3 : ∀ x : Later wr.heap.size wr, (convert 22 9 (.slice B3 y.length e3)).run Tryd.prog x.wd = .ok (.string (strT y)) x.wd := fun x => convT (y3.below x.below)
      have hl4 : ∀ x : Later wr.heap.size wr, (convert 22 9 (.slice B4 y.length e4)).run Tryd.prog x.wd = .ok (.string (strT y)) x.wd := fun x => convT (y4.below x.below)
      generalize strT y = sy at *
      clear d3 d4 hb y3 y4 hcv1 hcv2
      go_upto_region 12 with fail
      refine region_quiet (by kernel_rfl) (by kernel_rfl) ?_
      repeat (go_big_quiet_step (fail))
      refine wpQuiet_nil ?_
      intro w5 hb5
      have HB5 := Lib.hid (HB.out.trans (hb5.mono HB.out.size))
      clear hb5 hl3 hl4 f3 f4 HB
      go_wp2_with fail
      go_roundw
      case rel => exact ⟨k + 1, by omega, by go_num, HB5.out⟩
      case measure => simp [intOf]; omega
    · obtain rfl : k = p3.length := by omega
      have HN5 := Lib.hid (HN4.out.below hb)
      have HB5 := Lib.hid (bthen HB4.out hb)
      clear hb HB hcv1 hcv2
      go_wp2_with fail
      refine (awake9 wr HN5.out).mono ?_
      rintro e w9 ⟨rfl, hb9⟩
      have HB9 := Lib.hid (bthen HB5.out hb9)
      clear hb9
      go_wp2_with fail
      go_ret
      exact ⟨rfl, HB9.out⟩
end Go.Proofs.YtaflbcckoiiddaaDoor
