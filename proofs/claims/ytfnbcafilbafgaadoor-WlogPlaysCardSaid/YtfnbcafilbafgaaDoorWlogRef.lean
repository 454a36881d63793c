/-
  Layer 12 (wlog): the reference's bytes; the same records; what the document fixes.
-/
import Derived.Test.YtfnbcafilbafgaaDoorWlogOps
namespace Go.Proofs.YtfnbcafilbafgaaDoor
open Go.RowKit
set_option linter.unusedSimpArgs false
set_option linter.unusedVariables false
attribute [local go_sem] Later.cell
theorem rput_at (A : Option Addr) (l : List UInt8) (n c : Nat) (w : World) (hl : IsBy w A l) (hA : A = none → c = 0) (hn : l.length = n) (h : n ≤ 32768) :
    Calls Tryd.prog 27 #[.slice A n c] w fun e w' => ∃ v, e = .returned v ∧ OwnBy w' w.heap.size v (putL l) ∧ Below w.heap.size w w' := by
  subst hn
  exact rput_any A l c w hl hA h
/-- What a slice of texts holds, as a list. -/
def TxIs (w : World) (A : Option Addr) (V : Nat → Option Addr × Nat × List UInt8) (ps : List (List UInt8)) : Prop := Texts w A ps.length V ∧ ∀ i, i < ps.length → (V i).2.2 = ps.getD i []
theorem Texts.below' {w w' : World} {A : Option Addr} {L : Nat} {V : Nat → Option Addr × Nat × List UInt8} (h : Texts w A L V) (hb : Below w.heap.size w w') : Texts w' A L V := by
  refine ⟨fun i hi => ?_, fun i hi => (h.by_ i hi).below hb, h.cap, h.nil⟩
  obtain ⟨b, o, h1, h2⟩ := h.cell i hi
  exact ⟨b, o, h1, (hb.cell (World.block_lt_of_cell? _ _ h2)).trans h2⟩
theorem TxIs.below {w w' : World} {A : Option Addr} {V : Nat → Option Addr × Nat × List UInt8} {ps : List (List UInt8)} (h : TxIs w A V ps) (hb : Below w.heap.size w w') : TxIs w' A V ps := ⟨h.1.below' hb, h.2⟩
theorem TxIs.take {w : World} {A : Option Addr} {V : Nat → Option Addr × Nat × List UInt8} {ps : List (List UInt8)} (h : TxIs w A V ps) (n : Nat) : TxIs w A V (ps.take n) := by
  have hl : (ps.take n).length ≤ ps.length := by rw [List.length_take]; omega
  have hl2 : (ps.take n).length ≤ n := by rw [List.length_take]; omega
  refine ⟨⟨fun i hi => h.1.cell i (by omega), fun i hi => h.1.by_ i (by omega), fun i hi => h.1.cap i (by omega), fun i hi => h.1.nil i (by omega)⟩, fun i hi => ?_⟩
  rw [h.2 i (by omega)]
  simp [List.getD, List.getElem?_take, show i < n by omega]
theorem TxIs.of {w : World} {A : Option Addr} {L : Nat} {V : Nat → Option Addr × Nat × List UInt8} (h : Texts w A L V) : ∃ ps, ps.length = L ∧ TxIs w A V ps :=
  ⟨(List.range L).map (fun i => (V i).2.2), by simp, by simpa using h, fun i hi => by
    have : i < L := by simpa using hi
    simp [List.getD, this]⟩
theorem OwnTx.is {w : World} {base : Nat} {v : Value} {ps : List (List UInt8)} (h : OwnTx w base v ps) : ∃ A c V, v = .slice A ps.length c ∧ TxIs w A V ps ∧ ps.length ≤ c ∧ (A = none → c = 0) := by
  obtain ⟨A, c, V, h1, h2, h3, h4, h5⟩ := h.texts
  exact ⟨A, c, V, h1, ⟨h2, fun i _ => h3 i⟩, h4, h5⟩
set_option maxHeartbeats 2000000 in
theorem rbytes_any (A : Option Addr) (c n : Nat) (V : Nat → Option Addr × Nat × List UInt8) (ps : List (List UInt8)) (w : World) (hT : TxIs w A V ps) (hn : ps.length = n) (hL : n ≤ 1000000) (hl : ∀ p, p ∈ ps → p.length ≤ 32768) (hf : (flatP ps).length ≤ 70368744177664) :
    Calls Tryd.prog 10 #[.slice A n c] w fun e w' => ∃ v, e = .returned v ∧ OwnBy w' w.heap.size v (flatP ps) ∧ Below w.heap.size w w' := by
  subst hn
  have HT := Lib.hid hT
  have HL := Lib.hid hl
  have HF := Lib.hid hf
  clear hT hl hf
  go_enter Tryd.func10, Tryd.ntmps10
  go_wp2_with fail
  go_loopw [3, 4] (fun v i w' => ∃ k : Nat, k ≤ ps.length ∧ i = .int .i64 k ∧ OwnBy w' w.heap.size v (flatP (ps.take k)) ∧ Below w.heap.size w w') (fun _ i _ => ps.length - (intOf i).toNat)
  case atStart => exact ⟨0, Nat.zero_le _, rfl, OwnBy.nil _ _, Below.refl _ _⟩
  case round =>
    rename World => wr
    obtain ⟨k, hk, rfl, hown, hb⟩ := hrel
    have HB := Lib.hid hb
    have HO := Lib.hid hown
    by_cases hlt : k < ps.length
    · obtain ⟨b3, o3, rfl, d3⟩ := HT.out.1.cell k hlt
      have y3 := (HT.out.1.by_ k hlt).below hb
      have n3 := HT.out.1.nil k hlt
      have q3 := HT.out.2 k hlt
      have f3 := (hb.cell (World.block_lt_of_cell? _ _ d3)).trans d3
      have hs : flatP (ps.take (k + 1)) = flatP (ps.take k) ++ putL (ps.getD k []) := flatP_take ps hlt
      have hle : (ps.getD k []).length ≤ 32768 := HL.out _ (by simp [List.getD, List.getElem?_eq_getElem hlt])
      have hfk := flatP_len_take ps (k + 1)
      rw [hs, List.length_append] at hfk
      generalize V k = z3 at *
      obtain ⟨B3, e3, t3⟩ := z3
      dsimp only at f3 y3 q3 n3
      subst q3
      generalize ps.getD k [] = y at *
      have HY3 := Lib.hid y3
      have HS := Lib.hid hs
      have HFK := Lib.hid (Nat.le_trans hfk HF.out)
      have N3 := Lib.hid n3
      clear d3 hb y3 hown hs n3 hfk
      go_wp2_with fail
      refine (rput_any B3 y e3 wr HY3.out N3.out hle).mono ?_
      rintro e w4 ⟨v, rfl, hown, hb⟩
      obtain ⟨Av, cv, rfl, i1, i2, i3, _⟩ := hown.isBy
      have HB4 := Lib.hid (bthen HB.out hb)
      have HO4 := Lib.hid (HO.out.below hb)
      have HI4 := Lib.hid i1
      have I3 := Lib.hid i2
      obtain ⟨z, hz⟩ : ∃ z, putL y = z := ⟨_, rfl⟩
      rw [hz] at HI4 HS HFK
      rw [hz]
      clear hown hb i1 i2 hz HB HO HY3 N3
      go_wp2_with (at_builtin; refine wl_append_bytes rfl _ _ rfl w.heap.size _ _ z Av cv rfl HO4.out rfl HI4.out I3.out ?c1 HB4.out.size ?_)
      case c1 => have := HFK.out; omega
      intro v5 w5 hown hb
      have HO5 := Lib.hid hown
      have HB5 := Lib.hid (HB4.out.trans hb)
      clear hown hb HO4 HB4 HI4
      go_wp2_with fail
      go_roundw
      case rel => exact ⟨k + 1, by omega, by go_num, by rw [HS.out]; exact HO5.out, HB5.out⟩
      case measure => simp [intOf]; omega
    · obtain rfl : k = ps.length := by omega
      rw [List.take_length] at hown
      have HO := Lib.hid hown
      clear hown hb
      go_wp2_with fail
      go_ret
      exact ⟨_, rfl, HO.out, HB.out⟩
set_option maxHeartbeats 2000000 in
theorem same_true (A B : Option Addr) (c d n : Nat) (V U : Nat → Option Addr × Nat × List UInt8) (ps : List (List UInt8)) (w : World) (hA : TxIs w A V ps) (hB : TxIs w B U ps) (hn : ps.length = n) (hL : n ≤ 1000000) :
    Calls Tryd.prog 16 #[.slice A n c, .slice B n d] w fun e w' => e = .returned (.bool true) ∧ Below w.heap.size w w' := by
  subst hn
  have HA := Lib.hid hA
  have HB := Lib.hid hB
  clear hA hB
  go_enter Tryd.func16, Tryd.ntmps16
  go_wp2_with fail
  go_loopw [13] (fun i w' => ∃ k : Nat, k ≤ ps.length ∧ i = .int .i64 k ∧ Below w.heap.size w w') (fun i _ => ps.length - (intOf i).toNat)
  case atStart => exact ⟨0, Nat.zero_le _, rfl, Below.refl _ _⟩
  case round =>
    rename World => wr
    obtain ⟨k, hk, rfl, hb⟩ := hrel
    have HBL := Lib.hid hb
    by_cases hlt : k < ps.length
    · obtain ⟨b3, o3, rfl, d3⟩ := HA.out.1.cell k hlt
      obtain ⟨b4, o4, rfl, d4⟩ := HB.out.1.cell k hlt
      have y3 := (HA.out.1.by_ k hlt).below hb
      have y4 := (HB.out.1.by_ k hlt).below hb
      have q3 := HA.out.2 k hlt
      have q4 := HB.out.2 k hlt
      have f3 := (hb.cell (World.block_lt_of_cell? _ _ d3)).trans d3
      have f4 := (hb.cell (World.block_lt_of_cell? _ _ d4)).trans d4
      have g3 : b3 < wr.heap.size := World.block_lt_of_cell? _ _ f3
      have g4 : b4 < wr.heap.size := World.block_lt_of_cell? _ _ f4
      generalize V k = z3 at *
      generalize U k = z4 at *
      obtain ⟨B3, e3, t3⟩ := z3
      obtain ⟨B4, e4, t4⟩ := z4
      dsimp only at f3 f4 y3 y4 q3 q4
      subst q3 q4
      generalize ps.getD k [] = y at *
      have hl3 : ∀ x : Later wr.heap.size wr, (convert 24 9 (.slice B3 y.length e3)).run Tryd.prog x.wd = .ok (.string (strT y)) x.wd := fun x => convT (y3.below x.below)
      have hl4 : ∀ x : Later wr.heap.size wr, (convert 24 9 (.slice B4 y.length e4)).run Tryd.prog x.wd = .ok (.string (strT y)) x.wd := fun x => convT (y4.below x.below)
      generalize strT y = sy at *
      clear d3 d4 hb y3 y4
      go_upto_region 6 with fail
      refine region_quiet (by kernel_rfl) (by kernel_rfl) ?_
      repeat (go_big_quiet_step (fail))
      refine wpQuiet_nil ?_
      intro w5 hb5
      have HB5 := Lib.hid (bthen HBL.out hb5)
      clear hb5 hl3 hl4 f3 f4 HBL
      go_wp2_with fail
      go_roundw
      case rel => exact ⟨k + 1, by omega, by go_num, HB5.out⟩
      case measure => simp [intOf]; omega
    · obtain rfl : k = ps.length := by omega
      clear hb
      go_wp2_with fail
      go_ret
      exact ⟨rfl, HBL.out⟩
theorem scan_nil : ScanIs [] 0 [] ∧ takeE (([] : List UInt8).drop 0) = 3 := ⟨⟨0, rfl, by decide⟩, by decide⟩
set_option maxHeartbeats 4000000 in
theorem awake12 (w : World) (hN : Nib w) : Calls Tryd.prog 9 #[] w fun e w' => e = .returned (.bool true) ∧ Below w.heap.size w w' := by
  have HN := Lib.hid hN
  clear hN
  have HSF : Hid (ScanIs (putL [97, 98] ++ [49, 50, 51, 52, 53]) 10 [[97, 98]] ∧ takeE ((putL [97, 98] ++ [49, 50, 51, 52, 53]).drop 10) = 3 ∧ (putL [97, 98] ++ [49, 50, 51, 52, 53]).take 10 = putL [97, 98]) := Lib.hid (by
    have h := scan_flat [[97, 98]] [49, 50, 51, 52, 53] (fun p hp => by obtain rfl := List.mem_singleton.1 hp; decide) (by rw [take_short (by decide)]; decide)
    have e : flatP [[97, 98]] = putL [97, 98] := by simp [flatP]
    have hl : (putL [97, 98]).length = 10 := putL_len _
    rw [e, hl] at h
    refine ⟨h, ?_, ?_⟩
    · rw [List.drop_left' hl]
      exact take_short (by decide)
    · exact List.take_left' hl)
  go_enter Tryd.func9, Tryd.ntmps9
  go_wp2_with fail
  refine (dnew_any 10 (by decide) (by decide) w).mono ?_
  rintro e w1 ⟨p, rfl, hd, hp, hb⟩
  have HB1 := Lib.hid hb
  have HD1 := Lib.hid hd
  have HN1 := Lib.hid (HN.out.below hb)
  clear hd hb
  go_wp2_with fail
  refine (wopen_ok (base := w.heap.size) HD1.out HN1.out (by decide) scan_nil.1 scan_nil.2 hp HB1.out.size).mono ?_
  rintro e w2 ⟨q, rfl, hg, hb, hbt, _⟩
  have HB2 := Lib.hid (HB1.out.trans hb)
  have HN2 := Lib.hid (HN.out.below HB2.out)
  have HG2 := Lib.hid hg
  clear hg hb hbt
  have hcv := Lib.run_convert_bytes_const w2 24 5 #[.int .u8 97, .int .u8 98] 2 2 Tryd.underlying24 Tryd.underlying5
  go_wp2_with fail
  clear hcv
  obtain ⟨W, hW⟩ : ∃ W, w2.alloc (.cells #[.int .u8 97, .int .u8 98] 5 (2, 3)) = W := ⟨_, rfl⟩
  have hb1 : Below w2.heap.size w2 W := by rw [← hW]; exact (Below.refl _ _).alloc (Nat.le_refl _) _
  have HI3 : Hid (IsBy W (some ⟨w2.heap.size, 0, none⟩) [97, 98]) := Lib.hid (by rw [← hW]; exact isBy_marked w2 [97, 98] _ _)
  have HB3 := Lib.hid (bthen HB2.out hb1)
  have HN3 := Lib.hid (HN2.out.below hb1)
  have HG3 := Lib.hid (HG2.out.below hb1)
  rw [hW]
  clear hW hb1
  refine (wappend_ok (t := [97, 98]) HG3.out HN3.out HI3.out (c := 2) (by decide) (fun h => by cases h) (by decide) (by decide) (by decide) (by decide) (by decide) (by decide) HB3.out.size).mono ?_
  rintro e w4 ⟨rfl, hg, hb⟩
  have HB4 := Lib.hid (HB3.out.trans hb)
  have HN4 := Lib.hid (HN.out.below HB4.out)
  have HD4 := Lib.hid hg.dk
  clear hg hb
  have hcv := Lib.run_convert_bytes_const w4 24 5 #[.int .u8 49, .int .u8 50, .int .u8 51, .int .u8 52, .int .u8 53] 5 5 Tryd.underlying24 Tryd.underlying5
  go_wp2_with fail
  clear hcv
  obtain ⟨W5, hW⟩ : ∃ W5, w4.alloc (.cells #[.int .u8 49, .int .u8 50, .int .u8 51, .int .u8 52, .int .u8 53] 5 (5, 6)) = W5 := ⟨_, rfl⟩
  have hb1 : Below w4.heap.size w4 W5 := by rw [← hW]; exact (Below.refl _ _).alloc (Nat.le_refl _) _
  have HI5 : Hid (IsBy W5 (some ⟨w4.heap.size, 0, none⟩) [49, 50, 51, 52, 53]) := Lib.hid (by rw [← hW]; exact isBy_marked w4 [49, 50, 51, 52, 53] _ _)
  have HB5 := Lib.hid (bthen HB4.out hb1)
  have HD5 := Lib.hid (HD4.out.below hb1)
  rw [hW]
  clear hW hb1
  have hpl : (putL [97, 98]).length = 10 := putL_len _
  refine (dappend_ok (t := [49, 50, 51, 52, 53]) HD5.out (by decide) (by decide) (by simp [putL_len]) HI5.out (fun h => by cases h) (by simp [putL_len])).mono ?_
  rintro e w6 ⟨rfl, hd, hb⟩
  have HB6 := Lib.hid (HB5.out.trans (hb.below hp HB5.out.size))
  have HN6 := Lib.hid (HN.out.below HB6.out)
  have hd' : DK w6 p (10 * 64) (putL [97, 98] ++ [49, 50, 51, 52, 53]) ((([] : List UInt8) ++ putL [97, 98]).length : Nat) := by simpa using hd
  have HD6 := Lib.hid hd'
  clear hd hb hd'
  go_wp2_with fail
  refine (wopen_ok (base := w.heap.size) HD6.out HN6.out (by simp [putL_len]) HSF.out.1 HSF.out.2.1 hp HB6.out.size).mono ?_
  rintro e w7 ⟨q2, rfl, hg, hb, _, _⟩
  rw [HSF.out.2.2] at hg
  have HB7 := Lib.hid (HB6.out.trans hb)
  have HG7 := Lib.hid hg
  clear hg hb
  go_wp2_with fail
  refine (wlast_any HG7.out (by decide) (by decide) (fun t ht => by obtain rfl := List.mem_singleton.1 ht; decide)).mono ?_
  rintro e w8 ⟨v, rfl, hown, hb⟩
  obtain ⟨A8, c8, rfl, i1, _, _, _⟩ := (show OwnBy w8 w7.heap.size v [97, 98] from hown).isBy
  have HB8 := Lib.hid (bthen HB7.out hb)
  have HG8 := Lib.hid (HG7.out.below hb)
  have i1' : IsBy w8 A8 [97, 98] := i1
  have hcv : (convert 24 9 (.slice A8 2 c8)).run Tryd.prog w8 = .ok (.string (strT [97, 98])) w8 := convT' i1' rfl
  have hst : strT [97, 98] = { data := #[97, 98] } := rfl
  rw [hst] at hcv
  clear hown hb i1 i1' hst
  go_wp2_with fail
  refine (wlen_any HG8.out).mono ?_
  rintro e _ ⟨rfl, rfl⟩
  go_wp2_with fail
  refine (dbytes_any HG8.out.dk (by rw [hpl]; decide)).mono ?_
  rintro e w9 ⟨g, rfl, _, _, hb⟩
  rw [hpl]
  have HB9 := Lib.hid (bthen HB8.out hb)
  clear hb hpl
  go_wp2_with fail
  go_ret
  exact ⟨rfl, HB9.out⟩
end Go.Proofs.YtfnbcafilbafgaaDoor
