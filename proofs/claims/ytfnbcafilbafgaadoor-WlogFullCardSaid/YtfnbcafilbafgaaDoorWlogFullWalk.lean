/-
  The walk of WlogFull.
-/
import Derived.Test.YtfnbcafilbafgaaDoorWlogMore
namespace Go.Proofs.YtfnbcafilbafgaaDoor
open Go.RowKit
set_option linter.unusedSimpArgs false
set_option linter.unusedVariables false
/-- How long the last record's frame is. -/
def lastN (rs : List (List UInt8)) : Nat := if rs = [] then 0 else (lastT rs).length + 8
theorem lastN_snoc (rs : List (List UInt8)) (t : List UInt8) : lastN (rs ++ [t]) = t.length + 8 := by
  unfold lastN lastT
  rw [if_neg (by simp)]
  simp
set_option maxRecDepth 20000 in
set_option maxHeartbeats 8000000 in
theorem wlogFull_walk (n : Int) (hn : -9223372036854775808 ≤ n ∧ n ≤ 9223372036854775807) (A : Option Addr) (c L : Nat) (V : Nat → Option Addr × Nat × List UInt8) (hm : L ≤ 9223372036854775807 ∧ (A = none → c = 0 ∧ L = 0) ∧ L ≤ c) (w : World) (hN : Nib w) (hT : Texts w A L V) :
    Calls Tryd.prog 5 #[.int .i64 n, .slice A L c] w fun e w' => e = .returned (.bool true) ∧ Below w.heap.size w w' := by
  obtain ⟨hm1, hm2, hm3⟩ := hm
  have HN := Lib.hid hN
  obtain ⟨ps, rfl, hT'⟩ := TxIs.of hT
  have HT := Lib.hid hT'
  clear hN hT hT' hm2
  have AW : Hid (Calls Tryd.prog 9 #[] w fun e w' => e = .returned (.bool true) ∧ Below w.heap.size w w') := Lib.hid (awake12 w HN.out)
  go_enter Tryd.func5, Tryd.ntmps5
  by_cases hneg : n < 0
  · have g1 : decide (n < 0) = true := decide_eq_true hneg
    go_wp2_with fail
    refine AW.out.mono ?_
    rintro e w9 ⟨rfl, hb9⟩
    have HB9 := Lib.hid hb9
    clear hb9
    go_wp2_with fail
    go_ret
    exact ⟨rfl, HB9.out⟩
  have g1 : decide (n < 0) = false := decide_eq_false hneg
  by_cases hgt : 16384 < n
  · have g2 : decide (16384 < n) = true := decide_eq_true hgt
    go_wp2_with fail
    refine AW.out.mono ?_
    rintro e w9 ⟨rfl, hb9⟩
    have HB9 := Lib.hid hb9
    clear hb9
    go_wp2_with fail
    go_ret
    exact ⟨rfl, HB9.out⟩
  have g2 : decide (16384 < n) = false := decide_eq_false hgt
  by_cases hbig : 20 < ps.length
  · have g3 : decide ((20 : Int) < (ps.length : Int)) = true := decide_eq_true (by omega)
    go_wp2_with fail
    refine AW.out.mono ?_
    rintro e w9 ⟨rfl, hb9⟩
    have HB9 := Lib.hid hb9
    clear hb9
    go_wp2_with fail
    go_ret
    exact ⟨rfl, HB9.out⟩
  have g3 : decide ((20 : Int) < (ps.length : Int)) = false := decide_eq_false (by omega)
  obtain ⟨N, rfl⟩ : ∃ N : Nat, n = N := ⟨n.toNat, by omega⟩
  have hN1 : N ≤ 16384 := by omega
  go_wp2_with fail
  refine (dnew_any N (by omega) (by omega) w).mono ?_
  rintro e w1 ⟨p, rfl, hd, hp, hb⟩
  have HB1 := Lib.hid hb
  have HD1 := Lib.hid hd
  have HN1 := Lib.hid (HN.out.below hb)
  clear hd hb
  go_wp2_with fail
  refine (wopen_ok (base := w.heap.size) HD1.out HN1.out (by decide) scan_nil.1 scan_nil.2 hp HB1.out.size).mono ?_
  rintro e w2 ⟨q, rfl, hg, hb, _, _⟩
  have HB2 := Lib.hid (HB1.out.trans hb)
  have HG2 := Lib.hid (show LG w.heap.size w2 q p ((N : Int) * 64) (flatP []) ((flatP []).length : Nat) [] from hg)
  clear hg hb HD1
  go_wp2_with fail
  go_loopw [7, 8, 34] (fun u l i w' => ∃ (k : Nat) (rs : List (List UInt8)), k ≤ ps.length ∧ i = .int .i64 k ∧ u = .int .i64 ((flatP rs).length : Nat) ∧ l = .int .i64 (lastN rs : Nat) ∧ LG w.heap.size w' q p ((N : Int) * 64) (flatP rs) ((flatP rs).length : Nat) rs ∧ rs.length ≤ k ∧ (∀ t, t ∈ rs → t.length ≤ 300) ∧ ((flatP rs).length : Int) ≤ (N : Int) * 64 ∧ Below w.heap.size w w') (fun _ _ i _ => ps.length - (intOf i).toNat)
  case atStart => exact ⟨0, [], Nat.zero_le _, rfl, rfl, rfl, HG2.out, Nat.le_refl _, (fun t ht => by simp at ht), by simp [flatP]; omega, HB2.out⟩
  case round =>
    rename World => wr
    obtain ⟨k, rs, hk, rfl, rfl, rfl, hg, hrk, hr3, hfs, hb⟩ := hrel
    have HG := Lib.hid hg
    have HB := Lib.hid hb
    have HR3 := Lib.hid hr3
    have HNr := Lib.hid (HN.out.below hb)
    have HTr := Lib.hid (HT.out.below hb)
    have hfl := flatP_le 300 rs hr3
    have HFL : Hid ((flatP rs).length ≤ 6160) := Lib.hid (by omega)
    clear hg hb hr3 hfl HG2
    by_cases hlt : k < ps.length
    · obtain ⟨b3, o3, rfl, d3⟩ := HTr.out.1.cell k hlt
      have y3 := HTr.out.1.by_ k hlt
      have n3 := HTr.out.1.nil k hlt
      have m3 := HTr.out.1.cap k hlt
      generalize V k = z3 at *
      obtain ⟨B3, e3, y⟩ := z3
      dsimp only at d3 y3 n3 m3
      have HY := Lib.hid y3
      have N3 := Lib.hid n3
      clear y3 n3
      by_cases hbad : 300 < y.length
      · have j1 : decide ((300 : Int) < (y.length : Int)) = true := decide_eq_true (by omega)
        go_wp2_with fail
        refine (awake12 wr HNr.out).mono ?_
        rintro e w9 ⟨rfl, hb9⟩
        have HB9 := Lib.hid (bthen HB.out hb9)
        clear hb9
        go_wp2_with fail
        go_ret
        exact ⟨rfl, HB9.out⟩
      have j1 : decide ((300 : Int) < (y.length : Int)) = false := decide_eq_false (by omega)
      have hfl6 := HFL.out
      by_cases hfull : (N : Int) * 64 < ((flatP rs).length : Int) + y.length + 8
      · have HF := Lib.hid (wappend_full (t := y) HG.out HNr.out HY.out m3 N3.out (by omega) (by omega) (by omega) (by omega) hfull)
        have j2 : decide ((64 : Int) * (N : Int) < ((flatP rs).length : Int) + y.length + 8) = true := decide_eq_true (by omega)
        by_cases hrs : rs = []
        · subst hrs
          have e0 : lastN [] = 0 := rfl
          go_wp2_with fail
          refine HF.out.mono ?_
          rintro e w3 ⟨rfl, hb⟩
          have HB3 := Lib.hid (bthen HB.out hb)
          have HG3 := Lib.hid (HG.out.below hb)
          clear hb HF
          go_wp2_with fail
          refine (wcompact_none HG3.out).mono ?_
          rintro e _ ⟨rfl, rfl⟩
          go_wp2_with fail
          refine (wlen_any HG3.out).mono ?_
          rintro e _ ⟨rfl, rfl⟩
          go_wp2_with fail
          go_roundw
          case rel => exact ⟨k + 1, [], by omega, by go_num, rfl, rfl, HG3.out, by simp, (fun t ht => by simp at ht), by simp [flatP]; omega, HB3.out⟩
          case measure => simp [intOf]; omega
        · have hpos := List.length_pos_iff.2 hrs
          have hmem : lastT rs ∈ rs := by simp [lastT, List.getD, List.getElem?_eq_getElem (show rs.length - 1 < rs.length by omega)]
          have hl3 := HR3.out _ hmem
          have hll : (putL (lastT rs)).length ≤ (flatP rs).length := by
            have e1 : rs.take (rs.length - 1 + 1) = rs := List.take_of_length_le (by omega)
            have e2 := flatP_take rs (k := rs.length - 1) (by omega)
            rw [e1] at e2
            conv => rhs; rw [e2, List.length_append]
            exact Nat.le_add_left _ _
          go_wp2_with fail
          refine HF.out.mono ?_
          rintro e w3 ⟨rfl, hb⟩
          have HB3 := Lib.hid (bthen HB.out hb)
          have HG3 := Lib.hid (HG.out.below hb)
          have HN3 := Lib.hid (HNr.out.below hb)
          have hpl := putL_len (lastT rs)
          have e4 : flatP [lastT rs] = putL (lastT rs) := by simp [flatP]
          have e5 : lastN rs = (putL (lastT rs)).length := by unfold lastN; rw [if_neg hrs, hpl]
          have e6 : lastN [lastT rs] = lastN rs := by rw [e5, hpl]; exact lastN_snoc [] _
          have HCO := Lib.hid (wcompact_ok HG3.out HN3.out hrs (by omega) (fun t ht => by have := HR3.out t ht; omega) (show ((putL (lastT rs)).length : Int) ≤ _ by omega) HB3.out.size)
          have HLE : Hid (((putL (lastT rs)).length : Int) ≤ (N : Int) * 64) := Lib.hid (by omega)
          have E4 := Lib.hid e4
          have E5 := Lib.hid e5
          have E6 := Lib.hid e6
          have HRS := Lib.hid hrs
          clear hb HF hll hmem e4 e5 e6 hpl hrs hpos
          go_wp2_with fail
          refine HCO.out.mono ?_
          rintro e w4 ⟨rfl, hg, hb⟩
          have HG4 : Hid (LG w.heap.size w4 q p ((N : Int) * 64) (flatP [lastT rs]) ((flatP [lastT rs]).length : Nat) [lastT rs]) := Lib.hid (by rw [E4.out]; exact hg)
          have HB4 := Lib.hid (HB3.out.trans hb)
          clear hg hb HCO
          go_wp2_with fail
          refine (wlen_any HG4.out).mono ?_
          rintro e _ ⟨rfl, rfl⟩
          go_wp2_with fail
          go_roundw
          case rel =>
            refine ⟨k + 1, [lastT rs], by omega, by go_num, ?_, ?_, HG4.out, ?_, ?_, ?_, HB4.out⟩
            · rw [E4.out, ← E5.out]
            · rw [E6.out]
            · have := List.length_pos_iff.2 HRS.out
              simp
            · intro t ht
              obtain rfl := List.mem_singleton.1 ht
              exact hl3
            · rw [E4.out]
              exact HLE.out
          case measure => simp [intOf]; omega
      · have HF := Lib.hid (wappend_ok (t := y) HG.out HNr.out HY.out m3 N3.out (by omega) (by omega) (by omega) (by omega) (by omega) (by omega) HB.out.size)
        have j2 : decide ((64 : Int) * (N : Int) < ((flatP rs).length : Int) + y.length + 8) = false := decide_eq_false (by omega)
        have hy8 : ((flatP (rs ++ [y])).length : Int) = ((flatP rs).length : Int) + (y.length + 8) := by rw [flatP_snoc, List.length_append, putL_len]; omega
        have HY8 := Lib.hid hy8
        go_wp2_with fail
        refine HF.out.mono ?_
        rintro e w3 ⟨rfl, hg, hb⟩
        rw [← flatP_snoc] at hg
        have HG3 := Lib.hid hg
        have HB3 := Lib.hid (HB.out.trans hb)
        clear hg hb HF hy8
        go_wp2_with fail
        go_roundw
        case rel =>
          refine ⟨k + 1, rs ++ [y], by omega, by go_num, ?_, ?_, HG3.out, by simp; omega, ?_, ?_, HB3.out⟩
          · rw [HY8.out]
          · rw [lastN_snoc]; rfl
          · intro t ht
            rcases List.mem_append.1 ht with ht | ht
            · exact HR3.out t ht
            · obtain rfl := List.mem_singleton.1 ht
              omega
          · rw [HY8.out]; omega
        case measure => simp [intOf]; omega
    · obtain rfl : k = ps.length := by omega
      go_wp2_with fail
      refine (awake12 wr HNr.out).mono ?_
      rintro e w9 ⟨rfl, hb9⟩
      have HB9 := Lib.hid (bthen HB.out hb9)
      clear hb9
      go_wp2_with fail
      go_ret
      exact ⟨rfl, HB9.out⟩
end Go.Proofs.YtfnbcafilbafgaaDoor
