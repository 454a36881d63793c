/-
  The walk of FrameScans.
-/
import Derived.Test.YtaflbcckoiiddaaDoorFrameCat
namespace Go.Proofs.YtaflbcckoiiddaaDoor
open Go.RowKit
set_option linter.unusedSimpArgs false
set_option linter.unusedVariables false
attribute [local go_sem] Later.cell
theorem fscan_at (A : Option Addr) (l : List UInt8) (n c : Nat) (w : World) (hN : Nib w) (hl : IsBy w A l) (hn : l.length = n) (hlc : n ≤ c) (hlen : n ≤ 1000000) :
    Calls Tryd.prog 17 #[.slice A n c] w (ScanR l w) := by
  subst hn
  exact fscan_any A l c w hN hl hlc hlen
set_option maxRecDepth 20000 in
set_option maxHeartbeats 4000000 in
theorem frameScans_walk (A : Option Addr) (c : Nat) (l : List UInt8) (hm : l.length ≤ 9223372036854775807 ∧ (A = none → c = 0 ∧ l = []) ∧ l.length ≤ c) (hz : l.length ≤ 140737488351232) (B : Option Addr) (d : Nat) (t : List UInt8) (hm' : t.length ≤ 9223372036854775807 ∧ (B = none → d = 0 ∧ t = []) ∧ t.length ≤ d) (hz' : t.length ≤ 140737488351232) (w : World) (hN : Nib w) (hl : IsBy w A l) (ht : IsBy w B t) :
    Calls Tryd.prog 8 #[.slice A l.length c, .slice B t.length d] w fun e w' => e = .returned (.bool true) ∧ Below w.heap.size w w' := by
  obtain ⟨hm1, hm2, hm3⟩ := hm
  obtain ⟨hm1', hm2', hm3'⟩ := hm'
  have HN := Lib.hid hN
  have HL := Lib.hid hl
  have HT := Lib.hid ht
  have HM2 := Lib.hid (fun h => (hm2 h).1)
  have HM2' := Lib.hid (fun h => (hm2' h).1)
  clear hN hl ht hm2 hm2'
  go_enter Tryd.func8, Tryd.ntmps8
  by_cases hbig : 3000 < l.length + t.length
  · have g1 : decide ((3000 : Int) < (l.length : Int) + (t.length : Int)) = true := decide_eq_true (by omega)
    go_wp2_with fail
    refine (awake9 w HN.out).mono ?_
    rintro e w9 ⟨rfl, hb9⟩
    have HB9 := Lib.hid hb9
    clear hb9
    go_wp2_with fail
    go_ret
    exact ⟨rfl, HB9.out⟩
  have g1 : decide ((3000 : Int) < (l.length : Int) + (t.length : Int)) = false := decide_eq_false (by omega)
  go_wp2_with fail
  refine (fscan_any A l c w HN.out HL.out hm3 (by omega)).mono ?_
  rintro e w1 ⟨v1, a1, p1, rfl, hs1, hown1, hb1⟩
  obtain ⟨hle1, hle2⟩ := hs1.le
  obtain ⟨hf1, hf2⟩ := hs1.flat
  have HS1 := Lib.hid hs1
  have HB1 := Lib.hid hb1
  have HN1 := Lib.hid (HN.out.below hb1)
  have HL1 := Lib.hid (HL.out.below hb1)
  have HT1 := Lib.hid (HT.out.below hb1)
  obtain ⟨A1, c1, V1, rfl, t1, e1, k1, _⟩ := hown1.texts
  have HT1' := Lib.hid t1
  have HE1 := Lib.hid e1
  have HF1 := Lib.hid hf1
  have HF2 := Lib.hid hf2
  have hfl : (flatP p1).length = a1 := by rw [hf1, List.length_take]; omega
  have HFL := Lib.hid hfl
  clear t1 e1 hb1 hown1 hs1 hf1 hf2 hfl
  go_wp2_with fail
  go_loopw [7, 28] (fun v i w' => ∃ k : Nat, k ≤ p1.length ∧ i = .int .i64 k ∧ OwnBy w' w1.heap.size v (flatP (p1.take k)) ∧ Below w1.heap.size w1 w') (fun _ i _ => p1.length - (intOf i).toNat)
  case atStart => exact ⟨0, Nat.zero_le _, rfl, OwnBy.nil _ _, Below.refl _ _⟩
  case round =>
    rename World => wr
    obtain ⟨k, hk, rfl, hown, hb⟩ := hrel
    have HB := Lib.hid hb
    have HO := Lib.hid hown
    by_cases hlt : k < p1.length
    · obtain ⟨b3, o3, rfl, d3⟩ := HT1'.out.cell k hlt
      have y3 := (HT1'.out.by_ k hlt).below hb
      have n3 := HT1'.out.nil k hlt
      have m3 := HT1'.out.cap k hlt
      have q3 := HE1.out k
      have f3 := (hb.cell (World.block_lt_of_cell? _ _ d3)).trans d3
      have g3 : b3 < wr.heap.size := World.block_lt_of_cell? _ _ f3
      have hs : flatP (p1.take (k + 1)) = flatP (p1.take k) ++ putL (p1.getD k []) := flatP_take p1 hlt
      have hle : (p1.getD k []).length ≤ 32768 := HF2.out _ (by simp [List.getD, List.getElem?_eq_getElem hlt])
      have hfk := flatP_len_take p1 (k + 1)
      rw [HFL.out, hs, List.length_append] at hfk
      generalize V1 k = z3 at *
      obtain ⟨B3, e3, t3⟩ := z3
      dsimp only at f3 y3 q3 n3 m3
      subst q3
      generalize p1.getD k [] = y at *
      have HN2 := Lib.hid (HN1.out.below hb)
      have HY3 := Lib.hid y3
      have HS := Lib.hid hs
      have HFK := Lib.hid hfk
      have N3 := Lib.hid n3
      clear d3 hb y3 hown hs n3 hfk
      go_wp2_with fail
      refine (fput_any B3 y e3 wr HN2.out HY3.out m3 N3.out hle).mono ?_
      rintro e w4 ⟨v, rfl, hown, hb⟩
      have hpl := putL_len y
      obtain ⟨Av, cv, rfl, i1, i2, i3, _⟩ := hown.isBy
      have HB4 := Lib.hid (HB.out.trans (hb.mono HB.out.size))
      have HO4 := Lib.hid (HO.out.below hb)
      have HI4 := Lib.hid i1
      have I3 := Lib.hid i2
      have HPL := Lib.hid hpl
      obtain ⟨z, hz⟩ : ∃ z, putL y = z := ⟨_, rfl⟩
      rw [hz] at HI4 HS HPL HFK
      rw [hz]
      clear hown hb i1 i2 hpl hz HB HO HY3 N3
      go_wp2_with (at_builtin; refine wl_append_bytes rfl _ _ rfl w1.heap.size _ _ z Av cv rfl HO4.out rfl HI4.out I3.out ?c1 HB4.out.size ?_)
      case c1 => have := HFK.out; omega
      intro v5 w5 hown hb
      have HO5 := Lib.hid hown
      have HB5 := Lib.hid (HB4.out.trans hb)
      clear hown hb HO4 HB4 HI4
      go_wp2_with fail
      go_roundw
      case rel => exact ⟨k + 1, by omega, by go_num, by rw [HS.out]; exact HO5.out, HB5.out⟩
      case measure => simp [intOf]; omega
    · obtain rfl : k = p1.length := by omega
      rw [List.take_length, HF1.out] at hown
      obtain ⟨A2, c2, rfl, i2, _, _, _⟩ := hown.isBy
      have hlen2 : (l.take a1).length = a1 := by rw [List.length_take]; omega
      have HN2 := Lib.hid (HN1.out.below hb)
      have HL2 := Lib.hid (HL1.out.below hb)
      have HT2 := Lib.hid (HT1.out.below hb)
      have HI2 := Lib.hid i2
      have HB2 := Lib.hid (bthen HB1.out hb)
      rw [hlen2]
      have HLEN2 := Lib.hid hlen2
      clear hown hb i2 HO HB hlen2
      have HO3 : Hid (OwnBy (wr.alloc (.cells #[] 5)) wr.heap.size (.slice (some ⟨wr.heap.size, 0, none⟩) 0 0) []) := Lib.hid (OwnBy.row (xs := []) (rowAt_alloc_at _ _ _ _ rfl) (by simp))
      go_upto_region 14 with (at_builtin; refine wl_append_bytes rfl _ _ rfl wr.heap.size _ [] l A c rfl HO3.out rfl (HL2.out.alloc _) HM2.out ?c1 (by simp) ?_)
      case c1 => simp; omega
      intro v3 w3 hown hb
      have hb2 : Below wr.heap.size wr w3 := ((Below.refl _ _).alloc (Nat.le_refl _) _).trans hb
      have HO4 := Lib.hid hown
      have HB3 := Lib.hid hb2
      clear hown hb hb2 HO3
      go_upto_region 14 with (at_builtin; refine wl_append_bytes rfl _ _ rfl wr.heap.size _ l t B d rfl HO4.out rfl (HT2.out.below HB3.out) HM2'.out ?c2 HB3.out.size ?_)
      case c2 => omega
      intro v4 w4 hown hb
      obtain ⟨A4, c4, rfl, i1, i2, i3, _⟩ := hown.isBy
      have HB4 := Lib.hid (HB3.out.trans hb)
      have HN4 := Lib.hid (HN2.out.below HB4.out)
      have HL4 := Lib.hid (HL2.out.below HB4.out)
      have HI4 := Lib.hid i1
      have HJ4 := Lib.hid (HI2.out.below HB4.out)
      have I3 := Lib.hid i3
      clear hown hb i1 i2 i3 HO4 HB3
      go_upto_region 14 with fail
      refine (fscan_at A4 (l ++ t) _ c4 w4 HN4.out HI4.out (by first | rfl | simp) (by first | exact I3.out | (have := I3.out; simpa using this)) (by first | omega | (simp; omega))).mono ?_
      rintro e w5 ⟨v5, a5, p5, rfl, hs5, hown5, hb5⟩
      obtain ⟨q1, q2⟩ := HS1.out.more hs5
      obtain ⟨A5, c5, V5, rfl, _, _, _, _⟩ := hown5.texts
      have HB5 := Lib.hid (bthen (bthen HB2.out HB4.out) hb5)
      have HN5 := Lib.hid (HN4.out.below hb5)
      have y1 := (HL4.out.below hb5).take a1
      have y2 := HJ4.out.below hb5
      have hl3 : ∀ x : Later w5.heap.size w5, (convert 22 9 (.slice A a1 c)).run Tryd.prog x.wd = .ok (.string (strT (l.take a1))) x.wd := fun x => convT' (y1.below x.below) HLEN2.out
      have hl4 : ∀ x : Later w5.heap.size w5, (convert 22 9 (.slice A2 a1 c2)).run Tryd.prog x.wd = .ok (.string (strT (l.take a1))) x.wd := fun x => convT' (y2.below x.below) HLEN2.out
      generalize strT (l.take a1) = sy at *
      have g5 : decide ((a1 : Int) ≤ (a5 : Int)) = true := decide_eq_true (by omega)
      have g6 : decide ((p1.length : Int) ≤ (p5.length : Int)) = true := decide_eq_true (by omega)
      have g7 : a1 ≤ c := by omega
      clear hown5 hb5 hs5 y1 y2
      go_upto_region 14 with fail
      refine region_quiet (by kernel_rfl) (by kernel_rfl) ?_
      repeat (go_big_quiet_step ((go_at_call 10; exact quiet_call (by simp) (awake9 _ (HN5.out.below (Later.below _))))))
      refine wpQuiet_nil ?_
      intro w6 hb6
      have HB6 := Lib.hid (bthen HB5.out hb6)
      clear hb6 hl3 hl4
      go_wp2_with fail
      go_ret
      exact ⟨rfl, HB6.out⟩
end Go.Proofs.YtaflbcckoiiddaaDoor
