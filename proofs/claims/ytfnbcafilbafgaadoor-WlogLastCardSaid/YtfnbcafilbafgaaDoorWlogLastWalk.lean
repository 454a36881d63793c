/-
  The walk of WlogLast.
-/
import Derived.Test.YtfnbcafilbafgaaDoorWlogMore
namespace Go.Proofs.YtfnbcafilbafgaaDoor
open Go.RowKit
set_option linter.unusedSimpArgs false
set_option linter.unusedVariables false
attribute [local go_sem] Later.cell
set_option maxRecDepth 20000 in
set_option maxHeartbeats 8000000 in
theorem wlogLast_walk (A : Option Addr) (c L : Nat) (V : Nat → Option Addr × Nat × List UInt8) (hm : L ≤ 9223372036854775807 ∧ (A = none → c = 0 ∧ L = 0) ∧ L ≤ c) (hz : L ≤ 140737488351232) (a : Int) (ha : -9223372036854775808 ≤ a ∧ a ≤ 9223372036854775807) (b : Int) (hb0 : -9223372036854775808 ≤ b ∧ b ≤ 9223372036854775807) (w : World) (hN : Nib w) (hT : Texts w A L V) :
    Calls Tryd.prog 7 #[.slice A L c, .int .i64 a, .int .i64 b] w fun e w' => e = .returned (.bool true) ∧ Below w.heap.size w w' := by
  obtain ⟨hm1, hm2, hm3⟩ := hm
  have HN := Lib.hid hN
  obtain ⟨ps, rfl, hT'⟩ := TxIs.of hT
  have HT := Lib.hid hT'
  clear hN hT hT' hm2
  go_enter Tryd.func7, Tryd.ntmps7
  go_wp2_with fail
  refine (dnew_any 4096 (by decide) (by decide) w).mono ?_
  rintro e w1 ⟨p, rfl, hd, hp, hb⟩
  have HB1 := Lib.hid hb
  have HD1 := Lib.hid hd
  have HN1 := Lib.hid (HN.out.below hb)
  clear hd hb
  go_wp2_with fail
  refine (wopen_ok (base := w.heap.size) HD1.out HN1.out (by decide) scan_nil.1 scan_nil.2 hp HB1.out.size).mono ?_
  rintro e w2 ⟨q, rfl, hg, hb, _, _⟩
  have HB2 := Lib.hid (HB1.out.trans hb)
  have HN2 := Lib.hid (HN.out.below HB2.out)
  have HG2 := Lib.hid (show LG w.heap.size w2 q p (4096 * 64) (flatP []) ((flatP []).length : Nat) [] from hg)
  clear hg hb HD1
  by_cases hbig : 20 < ps.length
  · have g1 : decide ((20 : Int) < (ps.length : Int)) = true := decide_eq_true (by omega)
    go_wp2_with fail
    refine (awake12 w2 HN2.out).mono ?_
    rintro e w9 ⟨rfl, hb9⟩
    have HB9 := Lib.hid (bthen HB2.out hb9)
    clear hb9
    go_wp2_with fail
    go_ret
    exact ⟨rfl, HB9.out⟩
  have g1 : decide ((20 : Int) < (ps.length : Int)) = false := decide_eq_false (by omega)
  go_wp2_with fail
  go_loopw [39] (fun i w' => ∃ (k : Nat), k ≤ ps.length ∧ i = .int .i64 k ∧ LG w.heap.size w' q p (4096 * 64) (flatP (ps.take k)) ((flatP (ps.take k)).length : Nat) (ps.take k) ∧ (∀ j, j < k → (ps.getD j []).length ≤ 300) ∧ Below w.heap.size w w') (fun i _ => ps.length - (intOf i).toNat)
  case atStart => exact ⟨0, Nat.zero_le _, rfl, HG2.out, fun j hj => absurd hj (Nat.not_lt_zero _), HB2.out⟩
  case round =>
    rename World => wr
    obtain ⟨k, hk, rfl, hg, h300, hb⟩ := hrel
    have HG := Lib.hid hg
    have HB := Lib.hid hb
    have H300 := Lib.hid h300
    have HNr := Lib.hid (HN.out.below hb)
    have HTr := Lib.hid (HT.out.below hb)
    have HALL : Hid (∀ p, p ∈ ps.take k → p.length ≤ 300) := Lib.hid (fun p hp => by
      obtain ⟨i, hi, rfl⟩ := List.getElem_of_mem hp
      rw [List.length_take] at hi
      have := h300 i (by omega)
      rw [List.getElem_take]
      simpa [List.getD, List.getElem?_eq_getElem (show i < ps.length by omega)] using this)
    have htl : (ps.take k).length = k := by rw [List.length_take]; omega
    have hfl := flatP_le 300 (ps.take k) HALL.out
    have HFL : Hid ((flatP (ps.take k)).length ≤ 6160) := Lib.hid (by omega)
    clear hg hb h300 hfl HG2
    by_cases hlt : k < ps.length
    · obtain ⟨b3, o3, rfl, d3⟩ := HTr.out.1.cell k hlt
      have y3 := HTr.out.1.by_ k hlt
      have y0 := HT.out.1.by_ k hlt
      have n3 := HTr.out.1.nil k hlt
      have m3 := HTr.out.1.cap k hlt
      have q3 := HTr.out.2 k hlt
      have htk : ps.take (k + 1) = ps.take k ++ [ps.getD k []] := by
        rw [List.take_add_one, List.getElem?_eq_getElem hlt]
        simp [List.getD, List.getElem?_eq_getElem hlt]
      generalize V k = z3 at *
      obtain ⟨B3, e3, y⟩ := z3
      dsimp only at d3 y3 y0 n3 m3 q3
      rw [← q3] at htk
      have HY0 := Lib.hid y0
      have HY := Lib.hid y3
      have N3 := Lib.hid n3
      have HTK := Lib.hid htk
      have Q3 := Lib.hid q3
      clear y3 y0 n3 htk q3
      by_cases hbad : 300 < y.length
      · have j1 : decide ((300 : Int) < (y.length : Int)) = true := decide_eq_true (by omega)
        go_wp2_with fail
        refine (awake12 wr HNr.out).mono ?_
        rintro e w9 ⟨rfl, hb9⟩
        have HB9 := Lib.hid (bthen HB.out hb9)
        clear hb9
        go_wp2_with fail
        go_ret
        exact ⟨rfl, HB9.out⟩
      have j1 : decide ((300 : Int) < (y.length : Int)) = false := decide_eq_false (by omega)
      have H301 : Hid (∀ j, j < k + 1 → (ps.getD j []).length ≤ 300) := Lib.hid (fun j hj => by
        rcases Nat.lt_or_ge j k with h | h
        · exact H300.out j h
        · obtain rfl : j = k := by omega
          rw [← Q3.out]; omega)
      have hfl6 := HFL.out
      have HF := Lib.hid (wappend_ok (t := y) HG.out HNr.out HY.out m3 N3.out (by omega) (by omega) (by omega) (by omega) (by omega) (by omega) HB.out.size)
      clear hfl6
      go_wp2_with fail
      refine HF.out.mono ?_
      rintro e w3 ⟨rfl, hg, hb⟩
      rw [← flatP_snoc, ← HTK.out] at hg
      have HG3 := Lib.hid hg
      have HB3 := Lib.hid (HB.out.trans hb)
      clear hg hb HF
      have hlast : (ps.take (k + 1)).getD ((ps.take (k + 1)).length - 1) [] = y := by
        rw [HTK.out, List.length_append, List.length_singleton, Nat.add_sub_cancel]
        simp [List.getD]
      have HLA := Lib.hid (wlast_any HG3.out (by rw [HTK.out]; simp) (by rw [List.length_take]; omega) (fun t ht => by
        rw [HTK.out] at ht
        rcases List.mem_append.1 ht with ht | ht
        · have := HALL.out t ht; omega
        · obtain rfl := List.mem_singleton.1 ht; omega))
      rw [hlast] at HLA
      clear hlast
      go_wp2_with fail
      refine HLA.out.mono ?_
      rintro e w4 ⟨v4, rfl, hown, hb⟩
      obtain ⟨A4, c4, rfl, i1, _, _, _⟩ := hown.isBy
      have HB4 := Lib.hid (bthen HB3.out hb)
      have HG4 := Lib.hid (HG3.out.below hb)
      have hcv1 := convT (c := c4) i1
      have hcv2 := convT (c := e3) (HY0.out.below HB4.out)
      clear hown hb i1 HLA
      generalize strT y = sy at *
      go_wp2_with fail
      go_roundw
      case rel => exact ⟨k + 1, by omega, by go_num, HG4.out, H301.out, HB4.out⟩
      case measure => simp [intOf]; omega
    · obtain rfl : k = ps.length := by omega
      have hful : ps.take ps.length = ps := List.take_length
      rw [hful] at HG HALL HFL
      clear htl hful
      have hp' : w.heap.size ≤ p := hp
      by_cases hnil : ps = []
      · subst hnil
        have HG0 := Lib.hid (show LG w.heap.size wr q p (4096 * 64) (flatP []) ((flatP []).length : Nat) [] from HG.out)
        go_wp2_with fail
        refine (wcompact_none HG0.out).mono ?_
        rintro e _ ⟨rfl, rfl⟩
        go_wp2_with fail
        refine (wlen_any HG0.out).mono ?_
        rintro e _ ⟨rfl, rfl⟩
        go_wp2_with fail
        refine (crash_safe a b HG0.out.dk.dkx (by decide)).mono ?_
        rintro e w6 ⟨rfl, hd, hbt⟩
        have HB6 := Lib.hid (HB.out.trans (hbt.below hp' HB.out.size))
        have HV6 := Lib.hid (HG0.out.lv.disk HG0.out.dk hbt)
        have HD6 := Lib.hid hd.dk
        have HN6 := Lib.hid (HN.out.below HB6.out)
        clear hd hbt
        go_wp2_with fail
        refine (wopen_ok (base := w.heap.size) HD6.out HN6.out (by decide) (scan_all [] (fun p hp => by simp at hp)).1 (scan_all [] (fun p hp => by simp at hp)).2 hp' HB6.out.size).mono ?_
        rintro e w7 ⟨q2, rfl, hg, hb, hbt, _⟩
        have HB7 := Lib.hid (HB6.out.trans hb)
        have HV7 := Lib.hid (HV6.out.disk HD6.out hbt)
        have HG7 := Lib.hid hg
        have HN8 := Lib.hid (HN.out.below HB7.out)
        have HB8 := HB7
        clear hg hb hbt
        go_wp2_with fail
        refine (wlen_any HG7.out).mono ?_
        rintro e _ ⟨rfl, rfl⟩
        go_wp2_with fail
        refine (wlen_lv HV7.out).mono ?_
        rintro e _ ⟨rfl, rfl⟩
        go_wp2_with fail
        refine (wlast_none HG7.out).mono ?_
        rintro e _ ⟨rfl, rfl⟩
        go_upto_region 23 with fail
        refine region_quiet (by kernel_rfl) (by kernel_rfl) ?_
        repeat (go_big_quiet_step ((go_at_call 9; exact quiet_call (by simp) (awake12 _ (HN8.out.below (Later.below _))))))
        refine wpQuiet_nil ?_
        intro w9 hb9
        have HB9 := Lib.hid (bthen HB8.out hb9)
        clear hb9
        go_wp2_with fail
        go_ret
        exact ⟨rfl, HB9.out⟩
      · have hpos := List.length_pos_iff.2 hnil
        have hmem : lastT ps ∈ ps := by simp [lastT, List.getD, List.getElem?_eq_getElem (show ps.length - 1 < ps.length by omega)]
        have hl3 := HALL.out _ hmem
        have hpl := putL_len (lastT ps)
        have e4 : flatP [lastT ps] = putL (lastT ps) := by simp [flatP]
        have HCO := Lib.hid (wcompact_ok HG.out HNr.out hnil (by omega) (fun t ht => by have := HALL.out t ht; omega) (show ((putL (lastT ps)).length : Int) ≤ _ by omega) HB.out.size)
        have E4 := Lib.hid e4
        have HPL := Lib.hid (show (flatP [lastT ps]).length ≤ 308 by rw [e4, hpl]; omega)
        have HL3 : Hid (∀ p, p ∈ [lastT ps] → p.length ≤ 300) := Lib.hid (fun p hp => by obtain rfl := List.mem_singleton.1 hp; exact hl3)
        obtain ⟨m, hm⟩ : ∃ m, ps.length = m + 1 := ⟨ps.length - 1, by omega⟩
        have hml : m < ps.length := by omega
        have hlm : lastT ps = ps.getD m [] := by unfold lastT; rw [show ps.length - 1 = m by omega]
        obtain ⟨b3, o3, hA3, d3⟩ := HT.out.1.cell m hml
        subst hA3
        have y3 := HT.out.1.by_ m hml
        have q3 := HT.out.2 m hml
        rw [← hlm] at q3
        generalize V m = z3 at *
        obtain ⟨B3, e3, t3⟩ := z3
        dsimp only at d3 y3 q3
        subst q3
        have hmin : (if (1 : Int) < (ps.length : Int) then (1 : Int) else (ps.length : Int)) = 1 := by split <;> omega
        have Y3 := Lib.hid y3
        clear hmem e4 hpl y3 hlm
        go_wp2_with fail
        refine HCO.out.mono ?_
        rintro e w5 ⟨rfl, hg, hb⟩
        have HG5 : Hid (LG w.heap.size w5 q p (4096 * 64) (flatP [lastT ps]) ((flatP [lastT ps]).length : Nat) [lastT ps]) := Lib.hid (by rw [E4.out]; exact hg)
        have HB5 := Lib.hid (HB.out.trans hb)
        clear hg hb HCO
        go_wp2_with fail
        refine (wlen_any HG5.out).mono ?_
        rintro e _ ⟨rfl, rfl⟩
        have hmin4 : (if (1 : Int) < (m : Int) + 1 then (1 : Int) else (m : Int) + 1) = 1 := by split <;> omega
        have hmin2 : (if (ps.length : Int) < 1 then (ps.length : Int) else (1 : Int)) = 1 := by split <;> omega
        go_wp2_with fail
        have hcs := HPL.out
        refine (crash_safe a b HG5.out.dk.dkx (by omega)).mono ?_
        rintro e w6 ⟨rfl, hd, hbt⟩
        have HB6 := Lib.hid (HB5.out.trans (hbt.below hp' HB5.out.size))
        have HV6 := Lib.hid (HG5.out.lv.disk HG5.out.dk hbt)
        have HD6 := Lib.hid hd.dk
        have HN6 := Lib.hid (HN.out.below HB6.out)
        have HSA := Lib.hid (scan_all [lastT ps] (fun p hp => by have := HL3.out p hp; omega))
        have HTT : Hid ((flatP [lastT ps]).take (flatP [lastT ps]).length = flatP [lastT ps]) := Lib.hid List.take_length
        clear hd hbt hcs
        go_wp2_with fail
        refine (wopen_ok (base := w.heap.size) HD6.out HN6.out (by have := HPL.out; omega) HSA.out.1 HSA.out.2 hp' HB6.out.size).mono ?_
        rintro e w7 ⟨q2, rfl, hg, hb, hbt, _⟩
        rw [HTT.out] at hg
        have HB7 := Lib.hid (HB6.out.trans hb)
        have HV7 := Lib.hid (HV6.out.disk HD6.out hbt)
        have HG7 := Lib.hid hg
        clear hg hb hbt
        go_wp2_with fail
        refine (wlen_any HG7.out).mono ?_
        rintro e _ ⟨rfl, rfl⟩
        go_wp2_with fail
        refine (wlen_lv HV7.out).mono ?_
        rintro e _ ⟨rfl, rfl⟩
        go_wp2_with fail
        refine (wlast_any HG7.out (by simp) (by simp) (fun t ht => by have := HL3.out t ht; omega)).mono ?_
        rintro e w8 ⟨v8, rfl, hown, hb⟩
        obtain ⟨A8, c8, rfl, i1, _, _, _⟩ := (show OwnBy w8 w7.heap.size v8 (lastT ps) from hown).isBy
        have HB8 := Lib.hid (bthen HB7.out hb)
        have HN8 := Lib.hid (HN.out.below HB8.out)
        have y8 := Y3.out.below HB8.out
        have f3 := (HB8.out.cell (World.block_lt_of_cell? _ _ d3)).trans d3
        have g3 : b3 < w8.heap.size := World.block_lt_of_cell? _ _ f3
        have hl8 : ∀ x : Later w8.heap.size w8, (convert 24 9 (.slice A8 (lastT ps).length c8)).run Tryd.prog x.wd = .ok (.string (strT (lastT ps))) x.wd := fun x => convT (i1.below x.below)
        have hl9 : ∀ x : Later w8.heap.size w8, (convert 24 9 (.slice B3 (lastT ps).length e3)).run Tryd.prog x.wd = .ok (.string (strT (lastT ps))) x.wd := fun x => convT (y8.below x.below)
        generalize strT (lastT ps) = sy at *
        generalize lastT ps = t at *
        have hm1' : ((ps.length : Nat) : Int) - 1 = (m : Int) := by omega
        have hpi : decide ((0 : Int) < (ps.length : Int)) = true := decide_eq_true (by omega)
        have hm6 : m ≤ 20 := by omega
        clear hown hb i1 y8 d3 hmin hmin2 hmin4
        go_upto_region 23 with fail
        refine region_quiet (by kernel_rfl) (by kernel_rfl) ?_
        repeat (go_big_quiet_step ((go_at_call 9; exact quiet_call (by simp) (awake12 _ (HN8.out.below (Later.below _))))))
        refine wpQuiet_nil ?_
        intro w9 hb9
        have HB9 := Lib.hid (bthen HB8.out hb9)
        clear hb9
        go_wp2_with fail
        go_ret
        exact ⟨rfl, HB9.out⟩
end Go.Proofs.YtfnbcafilbafgaaDoor
