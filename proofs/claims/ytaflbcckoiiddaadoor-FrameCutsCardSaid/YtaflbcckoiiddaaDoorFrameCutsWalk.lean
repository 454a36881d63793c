/-
  The walk of FrameCuts.
-/
import Derived.Test.YtaflbcckoiiddaaDoorFrameCat
namespace Go.Proofs.YtaflbcckoiiddaaDoor
open Go.RowKit
set_option linter.unusedSimpArgs false
set_option linter.unusedVariables false
attribute [local go_sem] Later.cell
theorem fscan_to (A : Option Addr) (l : List UInt8) (n c : Nat) (w : World) (hN : Nib w) (hl : IsBy w A l) (hn : l.length = n) (hlc : n ≤ c) (hlen : n ≤ 1000000) :
    Calls Tryd.prog 17 #[.slice A n c] w (ScanR l w) := by
  subst hn
  exact fscan_any A l c w hN hl hlc hlen
/-- How many frames are whole so far, and where they end. -/
def CutInv (ps : List (List UInt8)) (cut : Int) (k n e : Nat) : Prop :=
  n ≤ k ∧ e = (flatP (ps.take n)).length ∧ (n = 0 ∨ (e : Int) ≤ cut) ∧ (n < k → cut < ((flatP (ps.take (n + 1))).length : Int))
theorem flatP_len_mono (ps : List (List UInt8)) {i j : Nat} (h : i ≤ j) : (flatP (ps.take i)).length ≤ (flatP (ps.take j)).length := by
  have := flatP_len_take (ps.take j) i
  rwa [List.take_take, Nat.min_eq_left h] at this
theorem CutInv.yes {ps : List (List UInt8)} {cut : Int} {k n e : Nat} (h : CutInv ps cut k n e) (hc : ((flatP (ps.take (k + 1))).length : Int) ≤ cut) : CutInv ps cut (k + 1) (n + 1) (flatP (ps.take (k + 1))).length := by
  obtain ⟨h1, h2, h3, h4⟩ := h
  have hn : n = k := by
    rcases Nat.lt_or_ge n k with hlt | hge
    · have := h4 hlt
      have := flatP_len_mono ps (show n + 1 ≤ k + 1 by omega)
      omega
    · omega
  subst hn
  exact ⟨by omega, rfl, Or.inr hc, fun h => by omega⟩
theorem CutInv.no {ps : List (List UInt8)} {cut : Int} {k n e : Nat} (h : CutInv ps cut k n e) (hc : cut < ((flatP (ps.take (k + 1))).length : Int)) : CutInv ps cut (k + 1) n e := by
  obtain ⟨h1, h2, h3, h4⟩ := h
  refine ⟨by omega, h2, h3, fun hlt => ?_⟩
  rcases Nat.lt_or_ge n k with h5 | h5
  · exact h4 h5
  · obtain rfl : n = k := by omega
    exact hc
theorem flatP_bound (ps : List (List UInt8)) : ∀ k, k ≤ ps.length → (∀ i, i < k → (ps.getD i []).length ≤ 100) → (flatP (ps.take k)).length ≤ 108 * k
  | 0, _, _ => Nat.zero_le _
  | k + 1, hk, h => by
    rw [flatP_take ps (by omega), List.length_append, putL_len]
    have h1 := flatP_bound ps k (by omega) (fun i hi => h i (by omega))
    have h2 := h k (by omega)
    omega
set_option maxRecDepth 20000 in
set_option maxHeartbeats 4000000 in
theorem frameCuts_walk (A : Option Addr) (c L : Nat) (V : Nat → Option Addr × Nat × List UInt8) (hm : L ≤ 9223372036854775807 ∧ (A = none → c = 0 ∧ L = 0) ∧ L ≤ c) (hz : L ≤ 140737488351232) (cut : Int) (hcut : -9223372036854775808 ≤ cut ∧ cut ≤ 9223372036854775807) (w : World) (hN : Nib w) (hT : Texts w A L V) :
    Calls Tryd.prog 9 #[.slice A L c, .int .i64 cut] w fun e w' => e = .returned (.bool true) ∧ Below w.heap.size w w' := by
  obtain ⟨hm1, hm2, hm3⟩ := hm
  have HN := Lib.hid hN
  have HT := Lib.hid hT
  obtain ⟨ps, hps⟩ : ∃ ps : List (List UInt8), ps = (List.range L).map (fun i => (V i).2.2) := ⟨_, rfl⟩
  have hpl : ps.length = L := by rw [hps]; simp
  have hpg : ∀ i, i < L → ps.getD i [] = (V i).2.2 := fun i hi => by rw [hps]; simp [List.getD, hi]
  have HPL := Lib.hid hpl
  have HPG := Lib.hid hpg
  clear hN hT hm2 hps hpl hpg
  go_enter Tryd.func9, Tryd.ntmps9
  go_wp2_with fail
  go_loopw [5, 6, 7, 17] (fun v nn ee i w' => ∃ k n e : Nat, k ≤ L ∧ i = .int .i64 k ∧ nn = .int .i64 n ∧ ee = .int .i64 e ∧ OwnBy w' w.heap.size v (flatP (ps.take k)) ∧ Below w.heap.size w w' ∧ CutInv ps cut k n e ∧ (k = 0 ∨ L ≤ 20) ∧ (∀ i, i < k → (ps.getD i []).length ≤ 100)) (fun _ _ _ i _ => L - (intOf i).toNat)
  case atStart => exact ⟨0, 0, 0, Nat.zero_le _, rfl, rfl, rfl, OwnBy.nil _ _, Below.refl _ _, ⟨Nat.le_refl _, rfl, Or.inl rfl, fun h => absurd h (Nat.lt_irrefl _)⟩, Or.inl rfl, fun i hi => absurd hi (Nat.not_lt_zero _)⟩
  case round =>
    rename World => wr
    obtain ⟨k, n, ends, hk, rfl, rfl, rfl, hown, hb, hinv, h20, h100⟩ := hrel
    have hnk := hinv.1
    have HB := Lib.hid hb
    have HO := Lib.hid hown
    have HI := Lib.hid hinv
    have H100 := Lib.hid h100
    have HN2 := Lib.hid (HN.out.below hb)
    clear hinv h100
    by_cases hlt : k < L
    · obtain ⟨b3, o3, rfl, d3⟩ := HT.out.cell k hlt
      have y3 := (HT.out.by_ k hlt).below hb
      have n3 := HT.out.nil k hlt
      have m3 := HT.out.cap k hlt
      have q3 := HPG.out k hlt
      have f3 := (hb.cell (World.block_lt_of_cell? _ _ d3)).trans d3
      have g3 : b3 < wr.heap.size := World.block_lt_of_cell? _ _ f3
      have hs : flatP (ps.take (k + 1)) = flatP (ps.take k) ++ putL (ps.getD k []) := flatP_take ps (by rw [HPL.out]; exact hlt)
      generalize V k = z3 at *
      obtain ⟨B3, e3, t3⟩ := z3
      dsimp only at f3 y3 q3 n3 m3
      obtain ⟨y, hy⟩ : ∃ y, ps.getD k [] = y := ⟨_, rfl⟩
      rw [hy] at q3 hs
      subst q3
      have HY3 := Lib.hid y3
      have HS := Lib.hid hs
      have N3 := Lib.hid n3
      have HY := Lib.hid hy
      clear d3 hb y3 hown hs n3 hy
      by_cases hbad : 100 < y.length
      · have j1 : decide ((100 : Int) < (y.length : Int)) = true := decide_eq_true (by omega)
        go_wp2_with fail
        refine (awake9 wr HN2.out).mono ?_
        rintro e w9 ⟨rfl, hb9⟩
        have HB9 := Lib.hid (bthen HB.out hb9)
        clear hb9
        go_wp2_with fail
        go_ret
        exact ⟨rfl, HB9.out⟩
      have j1 : decide ((100 : Int) < (y.length : Int)) = false := decide_eq_false (by omega)
      by_cases hbig : 20 < L
      · have j2 : decide ((20 : Int) < (L : Int)) = true := decide_eq_true (by omega)
        go_wp2_with fail
        refine (awake9 wr HN2.out).mono ?_
        rintro e w9 ⟨rfl, hb9⟩
        have HB9 := Lib.hid (bthen HB.out hb9)
        clear hb9
        go_wp2_with fail
        go_ret
        exact ⟨rfl, HB9.out⟩
      have j2 : decide ((20 : Int) < (L : Int)) = false := decide_eq_false (by omega)
      have h100' : ∀ i, i < k + 1 → (ps.getD i []).length ≤ 100 := fun i hi => by
        rcases Nat.lt_or_ge i k with h | h
        · exact H100.out i h
        · obtain rfl : i = k := by omega
          rw [HY.out]; omega
      have hbd := flatP_bound ps (k + 1) (by rw [HPL.out]; exact hlt) h100'
      have H100' := Lib.hid h100'
      have HBD := Lib.hid hbd
      clear h100' hbd h20
      go_wp2_with fail
      refine (fput_any B3 y e3 wr HN2.out HY3.out m3 N3.out (by omega)).mono ?_
      rintro e w4 ⟨v, rfl, hown, hb⟩
      have hpl := putL_len y
      obtain ⟨Av, cv, rfl, i1, i2, i3, _⟩ := hown.isBy
      have HB4 := Lib.hid (bthen HB.out hb)
      have HO4 := Lib.hid (HO.out.below hb)
      have HI4 := Lib.hid i1
      have I3 := Lib.hid i2
      have HPY := Lib.hid hpl
      obtain ⟨z, hzz⟩ : ∃ z, putL y = z := ⟨_, rfl⟩
      rw [hzz] at HI4 HS HPY
      rw [hzz]
      clear hown hb i1 i2 hpl hzz HB HO HY3 N3
      have hsum : (flatP (ps.take k)).length + z.length ≤ 2160 := by
        have h1 := HBD.out
        rw [HS.out, List.length_append] at h1
        omega
      have HSUM := Lib.hid hsum
      clear hsum
      go_upto_region 12 with (at_builtin; refine wl_append_bytes rfl _ _ rfl w.heap.size _ _ z Av cv rfl HO4.out rfl HI4.out I3.out ?c1 HB4.out.size ?_)
      case c1 => have := HSUM.out; omega
      intro v5 w5 hown hb
      rw [← HS.out] at hown
      obtain ⟨A5, c5, rfl, _, _, _, _⟩ := hown.isBy
      have HO5 := Lib.hid hown
      have HB5 := Lib.hid (HB4.out.trans hb)
      have hbd := HBD.out
      clear hown hb HO4 HB4 HI4
      by_cases hc : ((flatP (ps.take (k + 1))).length : Int) ≤ cut
      · have HI5 := Lib.hid (HI.out.yes hc)
        have j3 : decide (((flatP (ps.take (k + 1))).length : Int) ≤ cut) = true := decide_eq_true hc
        obtain ⟨X, hX⟩ : ∃ X, flatP (ps.take (k + 1)) = X := ⟨_, rfl⟩
        rw [hX] at HO5 HI5 j3 hbd
        rw [hX]
        have HX := Lib.hid hX
        clear hX hc
        go_wp2_with fail
        go_roundw
        case rel => exact ⟨k + 1, n + 1, X.length, by omega, by go_num, by go_num, rfl, by rw [HX.out]; exact HO5.out, HB5.out, HI5.out, Or.inr (by omega), H100'.out⟩
        case measure => simp [intOf]; omega
      · have HI5 := Lib.hid (HI.out.no (by omega))
        have j3 : decide (((flatP (ps.take (k + 1))).length : Int) ≤ cut) = false := decide_eq_false hc
        obtain ⟨X, hX⟩ : ∃ X, flatP (ps.take (k + 1)) = X := ⟨_, rfl⟩
        rw [hX] at HO5 j3 hbd
        rw [hX]
        have HX := Lib.hid hX
        clear hX hc
        go_wp2_with fail
        go_roundw
        case rel => exact ⟨k + 1, n, ends, by omega, by go_num, rfl, rfl, by rw [HX.out]; exact HO5.out, HB5.out, HI5.out, Or.inr (by omega), H100'.out⟩
        case measure => simp [intOf]; omega
    · obtain rfl : k = L := by omega
      have hful : ps.take k = ps := List.take_of_length_le (by rw [HPL.out]; exact Nat.le_refl _)
      have hbd := flatP_bound ps k (by rw [HPL.out]; exact Nat.le_refl _) H100.out
      rw [hful] at hown hbd
      have hL20 : k ≤ 20 := by omega
      obtain ⟨A2, c2, rfl, i2, i3, i4, _⟩ := hown.isBy
      have HI2 := Lib.hid i2
      have HALL : Hid (∀ p, p ∈ ps → p.length ≤ 32768) := Lib.hid (fun p hp => by
        obtain ⟨i, hi, rfl⟩ := List.getElem_of_mem hp
        have := H100.out i (by rw [← HPL.out]; exact hi)
        simp [List.getD, List.getElem?_eq_getElem hi] at this
        omega)
      have HW := Lib.hid (fun (h0 : 0 ≤ cut) (h1 : cut.toNat ≤ (flatP ps).length) => scan_cut ps HALL.out (n := n) (cut := cut.toNat) (by rw [HPL.out]; exact hnk) h1
        (by obtain ⟨_, k2, k3, _⟩ := HI.out
            rcases k3 with rfl | k3
            · exact Nat.zero_le _
            · omega) (fun hlt => by have := HI.out.2.2.2 (by rw [← HPL.out]; exact hlt); omega))
      have HE := Lib.hid HI.out.2.1
      have hnn : n = 0 ∨ (ends : Int) ≤ cut := HI.out.2.2.1
      clear hown hb HO i2 h20 H100 HI hful
      obtain ⟨X, hX⟩ : ∃ X, flatP ps = X := ⟨_, rfl⟩
      rw [hX] at HI2 HW hbd i4
      rw [hX]
      clear hX
      by_cases hneg : cut < 0
      · have j4 : decide (cut < 0) = true := decide_eq_true hneg
        go_wp2_with fail
        refine (awake9 wr HN2.out).mono ?_
        rintro e w9 ⟨rfl, hb9⟩
        have HB9 := Lib.hid (bthen HB.out hb9)
        clear hb9
        go_wp2_with fail
        go_ret
        exact ⟨rfl, HB9.out⟩
      have j4 : decide (cut < 0) = false := decide_eq_false hneg
      by_cases hgt : (X.length : Int) < cut
      · have j5 : decide ((X.length : Int) < cut) = true := decide_eq_true hgt
        go_wp2_with fail
        refine (awake9 wr HN2.out).mono ?_
        rintro e w9 ⟨rfl, hb9⟩
        have HB9 := Lib.hid (bthen HB.out hb9)
        clear hb9
        go_wp2_with fail
        go_ret
        exact ⟨rfl, HB9.out⟩
      have j5 : decide ((X.length : Int) < cut) = false := decide_eq_false hgt
      obtain ⟨m, rfl⟩ : ∃ m : Nat, cut = m := ⟨cut.toNat, by omega⟩
      have HIS := Lib.hid (HW.out (by omega) (by rw [Int.toNat_natCast]; omega)).1
      rw [Int.toNat_natCast] at HIS
      have hml : (X.take m).length = m := by rw [List.length_take]; omega
      have HML := Lib.hid hml
      clear HW hml
      go_wp2_with (refine bytes_slice_to rfl _ _ rfl A2 X.length c2 m rfl rfl (by omega) ?_)
      refine (fscan_to A2 (X.take m) m c2 wr HN2.out (HI2.out.take m) HML.out (by omega) (by omega)).mono ?_
      rintro e w5 ⟨v5, a5, p5, rfl, hs5, hown5, hb5⟩
      obtain ⟨rfl, rfl⟩ := hs5.one HIS.out
      obtain ⟨A5, c5, V5, rfl, t5, e5, k5, _⟩ := hown5.texts
      have hlp : (ps.take n).length = n := by rw [List.length_take, HPL.out]; omega
      have HT5 := Lib.hid t5
      have HE5 := Lib.hid e5
      have HB5 := Lib.hid (bthen HB.out hb5)
      have HN5 := Lib.hid (HN2.out.below hb5)
      rw [← HE.out]
      rw [hlp] at HT5 k5
      rw [hlp]
      clear hs5 hown5 hb5 t5 e5 hlp HE HIS
      go_wp2_with fail
      go_loopw [76] (fun i w' => ∃ j : Nat, j ≤ n ∧ i = .int .i64 j ∧ Below w5.heap.size w5 w') (fun i _ => n - (intOf i).toNat)
      case atStart => exact ⟨0, Nat.zero_le _, rfl, Below.refl _ _⟩
      case round =>
        rename World => w6
        obtain ⟨j, hj, rfl, hb⟩ := hrel
        have HB6 := Lib.hid hb
        by_cases hlt : j < n
        · have hjk : j < k := by omega
          obtain ⟨b3, o3, rfl, d3⟩ := HT5.out.cell j hlt
          obtain ⟨b4, o4, rfl, d4⟩ := HT.out.cell j hjk
          have y3 := (HT5.out.by_ j hlt).below hb
          have y4 := ((HT.out.by_ j hjk).below HB5.out).below hb
          have q3 := HE5.out j
          have q4 := HPG.out j hjk
          have q5 : (ps.take n).getD j [] = ps.getD j [] := by simp [List.getD, List.getElem?_take, hlt]
          rw [q5] at q3
          have f3 := (hb.cell (World.block_lt_of_cell? _ _ d3)).trans d3
          have f4' := (HB5.out.cell (World.block_lt_of_cell? _ _ d4)).trans d4
          have f4 := (hb.cell (World.block_lt_of_cell? _ _ f4')).trans f4'
          have g3 : b3 < w6.heap.size := World.block_lt_of_cell? _ _ f3
          have g4 : b4 < w6.heap.size := World.block_lt_of_cell? _ _ f4
          generalize V5 j = z3 at *
          generalize V j = z4 at *
          obtain ⟨B3, e3, t3⟩ := z3
          obtain ⟨B4, e4, t4⟩ := z4
          dsimp only at f3 f4 y3 y4 q3 q4
          subst q3
          subst q4
          generalize ps.getD j [] = y at *
          have hl3 : ∀ x : Later w6.heap.size w6, (convert 22 9 (.slice B3 y.length e3)).run Tryd.prog x.wd = .ok (.string (strT y)) x.wd := fun x => convT (y3.below x.below)
          have hl4 : ∀ x : Later w6.heap.size w6, (convert 22 9 (.slice B4 y.length e4)).run Tryd.prog x.wd = .ok (.string (strT y)) x.wd := fun x => convT (y4.below x.below)
          generalize strT y = sy at *
          clear d3 d4 hb y3 y4 f4' q5
          go_upto_region 24 with fail
          refine region_quiet (by kernel_rfl) (by kernel_rfl) ?_
          repeat (go_big_quiet_step (fail))
          refine wpQuiet_nil ?_
          intro w7 hb7
          have HB7 := Lib.hid (HB6.out.trans (hb7.mono HB6.out.size))
          clear hb7 hl3 hl4 f3 f4 HB6
          go_wp2_with fail
          go_roundw
          case rel => exact ⟨j + 1, by omega, by go_num, HB7.out⟩
          case measure => simp [intOf]; omega
        · obtain rfl : j = n := by omega
          have HN7 := Lib.hid (HN5.out.below hb)
          have HB7 := Lib.hid (bthen HB5.out hb)
          clear hb
          go_wp2_with fail
          refine (awake9 w6 HN7.out).mono ?_
          rintro e w9 ⟨rfl, hb9⟩
          have HB9 := Lib.hid (bthen HB7.out hb9)
          clear hb9
          go_wp2_with fail
          go_ret
          exact ⟨rfl, HB9.out⟩
end Go.Proofs.YtaflbcckoiiddaaDoor
