/-
  Layer 12 (wlog): a log is opened, and made short.
-/
import Derived.Test.YtfnbcafilbafgaaDoorWlog
namespace Go.Proofs.YtfnbcafilbafgaaDoor
open Go.RowKit
set_option linter.unusedSimpArgs false
set_option linter.unusedVariables false
theorem OwnTx.one {w : World} {base g c : Nat} {A : Option Addr} {t : List UInt8} (hr : rowAt w g = some (#[.slice A t.length c], 24)) (hg : base ≤ g) (ht : IsBy w A t) (hc : t.length ≤ c) (hA : A = none → c = 0) (hap : t ≠ [] → ∀ x, A = some x → x.block ≠ g) :
    OwnTx w base (.slice (some ⟨g, 0, none⟩) 1 1) [t] := by
  refine ⟨fun _ => (A, c), ⟨rfl, .inr ⟨g, 1, _, rfl, hg, rowAt_iff.1 hr, Nat.le_refl _, by unfold maxLen; omega, rfl, rfl⟩⟩, fun i hi => ?_⟩
  obtain rfl : i = 0 := by simpa using hi
  refine ⟨ht, hc, hA, fun hn x hx e => ?_⟩
  simp only [Value.ownBlock, Option.some.injEq] at e
  exact hap hn x hx e.symm
theorem wcompact_none {base : Nat} {w : World} {q p : Nat} {s f : Int} {b : List UInt8} (h : LG base w q p s b f []) :
    Calls Tryd.prog 20 #[.pointer (some ⟨q, 0, none⟩)] w fun e w' => e = .returned (.int .i64 0) ∧ w = w' := by
  have H := Lib.hid h
  clear h
  go_enter Tryd.func20, Tryd.ntmps20
  go_wp2_with fail
  refine (wlast_none H.out).mono ?_
  rintro e _ ⟨rfl, rfl⟩
  go_wp2_with fail
  go_ret
  exact ⟨rfl, rfl⟩
set_option maxHeartbeats 2000000 in
theorem wcompact_ok {base : Nat} {w : World} {q p : Nat} {s f : Int} {b : List UInt8} {ps : List (List UInt8)} (h : LG base w q p s b f ps) (hN : Nib w) (hn : ps ≠ []) (hlen : ps.length ≤ 1000000) (hl : ∀ t, t ∈ ps → t.length ≤ 32768) (hs : ((putL (ps.getD (ps.length - 1) [])).length : Int) ≤ s) (hbase : base ≤ w.heap.size) :
    Calls Tryd.prog 20 #[.pointer (some ⟨q, 0, none⟩)] w fun e w' => e = .returned (.int .i64 0) ∧ LG base w' q p s (putL (ps.getD (ps.length - 1) [])) ((putL (ps.getD (ps.length - 1) [])).length : Nat) [ps.getD (ps.length - 1) []] ∧ Below base w w' := by
  have H := Lib.hid h
  have HN := Lib.hid hN
  have HLA := Lib.hid (wlast_any h hn hlen (fun t ht => by have := hl t ht; omega))
  have hpos := List.length_pos_iff.2 hn
  have hmem : ps.getD (ps.length - 1) [] ∈ ps := by simp [List.getD, List.getElem?_eq_getElem (show ps.length - 1 < ps.length by omega)]
  have hle := hl _ hmem
  generalize ps.getD (ps.length - 1) [] = t at *
  clear h hN hl hmem hpos hn
  go_enter Tryd.func20, Tryd.ntmps20
  go_wp2_with fail
  refine HLA.out.mono ?_
  rintro e w1 ⟨v1, rfl, hown, hb⟩
  obtain ⟨A1, c1, rfl, i1, i2, i3, i4⟩ := hown.isBy
  have HB1 := Lib.hid (hb.mono hbase)
  have H1 := Lib.hid (H.out.below hb)
  have HN1 := Lib.hid (HN.out.below hb)
  have HI1 := Lib.hid i1
  have I2 := Lib.hid i2
  clear hown hb i1 i2 i4
  go_wp2_with fail
  refine (fput_any A1 t c1 w1 HN1.out HI1.out i3 I2.out hle).mono ?_
  rintro e w2 ⟨v2, rfl, hown, hb⟩
  obtain ⟨A2, c2, rfl, j1, j2, j3, j4⟩ := hown.isBy
  have hpl := putL_len t
  have HB2 := Lib.hid (HB1.out.trans (hb.mono (Nat.le_trans hbase HB1.out.size)))
  have H2 := Lib.hid (H1.out.below hb)
  have HI2 := Lib.hid (HI1.out.below hb)
  have HJ2 := Lib.hid j1
  obtain ⟨v0, r1, r2, r3, r4, r5⟩ := H2.out
  have d0 : w2.cell? ⟨q, 0, none⟩ = some (.pointer (some ⟨p, 0, none⟩)) := by rw [cell_of_rowAt r1]; rfl
  obtain ⟨m, hm⟩ : ∃ m, (putL t).length = m := ⟨_, rfl⟩
  have HF := Lib.hid (dswap_okX (Y := fun _ => True) (t := putL t) (B := A2) (c' := c2) r3 (fun _ _ => trivial) HJ2.out j3 (by omega) hs)
  rw [hm] at HF
  rw [hm]
  have HM := Lib.hid hm
  clear hown hb j1 j2 r1 r2 r3 hm hs hpl
  go_wp2_with fail
  refine HF.out.mono ?_
  rintro e w3 ⟨rfl, hd3, hb3⟩
  have hne := H2.out.ne
  obtain ⟨v0, r1, r2, r3, _⟩ := H2.out
  have k1 := (hb3.row (rowAt_lt r1) hne).trans r1
  have HB3 := Lib.hid (HB2.out.trans (hb3.below r5 (Nat.le_trans hbase HB2.out.size)))
  have HI3 := Lib.hid (isBy_off HI2.out r3.dk.noBy hb3)
  have hv0 : ∃ A0 n0 c0, v0 = .slice A0 n0 c0 := by
    obtain ⟨A, c, V, hv, _⟩ := r2.texts
    exact ⟨A, _, c, hv⟩
  obtain ⟨A0, n0, c0, rfl⟩ := hv0
  have hq3 := rowAt_lt k1
  have hqp : q ≠ w3.heap.size := by omega
  have d1 : w3.cell? ⟨q, 1, none⟩ = some (.slice A0 n0 c0) := by rw [cell_of_rowAt k1]; rfl
  have k4 : rowAt (w3.alloc (.cells #[.slice A1 t.length c1] 24)) q = some (#[.pointer (some ⟨p, 0, none⟩), .slice A0 n0 c0], 67) := rowPast k1
  have d1' : (w3.alloc (.cells #[.slice A1 t.length c1] 24)).cell? ⟨q, 1, none⟩ = some (.slice A0 n0 c0) := by rw [cell_of_rowAt k4]; rfl
  have f1 : (w3.alloc (.cells #[.slice A1 t.length c1] 24)).frozen? ⟨q, 1, none⟩ = false := frozen_of_rowAt k4 1
  have hal : Below w3.heap.size w3 (w3.alloc (.cells #[.slice A1 t.length c1] 24)) := (Below.refl _ _).alloc (Nat.le_refl _) _
  have hrg : rowAt (w3.alloc (.cells #[.slice A1 t.length c1] 24)) w3.heap.size = some (#[.slice A1 t.length c1], 24) := rowAt_alloc_at _ _ _ _ rfl
  rw [← HM.out] at hd3
  have hd3' : DKX (ApartT (.slice (some ⟨w3.heap.size, 0, none⟩) 1 1) (putL t)) w3 p s (putL t) ((putL t).length : Nat) := hd3.mono (Y := ApartT (.slice (some ⟨w3.heap.size, 0, none⟩) 1 1) (putL t)) (fun A hA _ hl x hx e => by
    obtain ⟨b1, o1, g1, g2⟩ := hA 0 (List.length_pos_iff.2 hl)
    have hlt : b1 < w3.heap.size := World.block_lt_of_cell? _ _ g2
    rw [hx] at g1
    injection g1 with g1
    have hxb : x.block = b1 := by rw [g1]
    simp only [Value.ownBlock, Option.some.injEq] at e
    omega)
  have HD4 := Lib.hid (hd3'.below hal)
  have HI4 := Lib.hid (HI3.out.below hal)
  have HB4 := Lib.hid (HB3.out.trans (hal.mono (Nat.le_trans hbase HB3.out.size)))
  have K4 := Lib.hid k4
  have HRG := Lib.hid hrg
  have hsz : w3.heap.size < (w3.alloc (.cells #[.slice A1 t.length c1] 24)).heap.size := rowAt_lt hrg
  clear hd3 hd3' hb3 r1 r2 r3 k1 d1 k4 hal hrg HF d0
  go_wp2_with fail
  go_ret
  have hb3s := HB3.out.size
  have hw4 : (w3.setCell ⟨q, 1, none⟩ (.slice (some ⟨w3.heap.size, 0, none⟩) 1 1)).alloc (.cells #[.slice A1 t.length c1] 24) = (w3.alloc (.cells #[.slice A1 t.length c1] 24)).setCell ⟨q, 1, none⟩ (.slice (some ⟨w3.heap.size, 0, none⟩) 1 1) := by rw [setCell_alloc, if_neg hqp]
  rw [hw4]
  clear hw4
  generalize w3.alloc (.cells #[.slice A1 t.length c1] 24) = w4 at *
  have hbt : Bt q w4 (w4.setCell ⟨q, 1, none⟩ (.slice (some ⟨w3.heap.size, 0, none⟩) 1 1)) := Bt.setCell _ _ _ _
  have hno : NoBy w4 q := by
    intro j y
    rw [cell_of_rowAt K4.out]
    rcases j with _ | _ | j <;> simp [bc]
  have ho4 : OwnTx w4 base (.slice (some ⟨w3.heap.size, 0, none⟩) 1 1) [t] := OwnTx.one HRG.out (by omega) HI4.out i3 I2.out (fun hn x hx e => by
    obtain ⟨b1, o1, g1, g2⟩ := HI3.out 0 (List.length_pos_iff.2 hn)
    have := World.block_lt_of_cell? _ _ g2
    rw [hx] at g1
    injection g1 with g1
    have hxb : x.block = b1 := by rw [g1]
    dsimp only at this
    omega)
  refine ⟨rfl, ⟨_, rowAt_setCell_same 1 _ K4.out, ho4.off K4.out (by decide) hno hbt, HD4.out.off hno hbt hne.symm, r4, r5⟩, HB4.out.trans (hbt.below r4 (by omega))⟩
/-! A disk's log is opened. -/
theorem ftake_len (A : Option Addr) (l : List UInt8) (n c : Nat) (w : World) (hN : Nib w) (hl : IsBy w A l) (hn : l.length = n) (hlc : n ≤ c) (hlen : n ≤ 1099511627776) :
    Calls Tryd.prog 32 #[.slice A n c] w (TakeR l w) := by
  subst hn
  exact ftake_any A l c w hN hl hlc hlen
set_option maxHeartbeats 2000000 in
theorem wopen_bad {w : World} {p : Nat} {s f : Int} {b : List UInt8} {at_ : Nat} {ps : List (List UInt8)} (h : DK w p s b f) (hN : Nib w) (hlen : b.length ≤ 1000000) (hs : ScanIs b at_ ps) (ht : takeE (b.drop at_) ≠ 3) :
    Calls Tryd.prog 14 #[.pointer (some ⟨p, 0, none⟩)] w fun e w' => e = .returned (.tuple #[.pointer none, .int .i64 6]) ∧ Below w.heap.size w w' := by
  have H := Lib.hid h
  have HN := Lib.hid hN
  have HS := Lib.hid hs
  have hle := hs.le.1
  clear h hN hs
  go_enter Tryd.func14, Tryd.ntmps14
  go_wp2_with fail
  refine (dbytes_any H.out (by omega)).mono ?_
  rintro e w1 ⟨g, rfl, hr, hg, hb⟩
  have HI1 := Lib.hid (isBy_full hr)
  have HB1 := Lib.hid hb
  have HN1 := Lib.hid (HN.out.below hb)
  clear hr hb
  go_wp2_with fail
  refine (fscan_any (some ⟨g, 0, none⟩) b b.length w1 HN1.out HI1.out (Nat.le_refl _) (by omega)).mono ?_
  rintro e w2 ⟨v, a2, p2, rfl, hs2, hown, hb⟩
  obtain ⟨rfl, rfl⟩ := hs2.one HS.out
  have HB2 := Lib.hid (bthen HB1.out hb)
  have HN2 := Lib.hid (HN1.out.below hb)
  have HI2 := Lib.hid ((HI1.out.below hb).drop a2 (A' := some ⟨g, a2, none⟩) (fun _ => by simp [Addr.add_lit]))
  have hdl : (b.drop a2).length = b.length - a2 := by simp
  have hne : (takeE (b.drop a2) != 3) = true := bne_iff_ne.2 ht
  clear hb hown hs2 ht
  go_wp2_with (refine bytes_slice_from rfl _ _ rfl (some ⟨g, 0, none⟩) b.length b.length a2 rfl rfl hle ?_)
  intro A' hA1 hA2
  have HI3 : Hid (IsBy w2 A' (b.drop a2)) := Lib.hid (fun i hi => by
    have h1 : a2 < b.length := by omega
    rw [hA1 h1]
    have := HI2.out i hi
    simpa [Addr.add_lit] using this)
  clear hA1 hA2
  go_wp2_with fail
  refine (ftake_len A' (b.drop a2) _ _ w2 HN2.out HI3.out hdl (by omega) (by omega)).mono ?_
  rintro e w3 ⟨v3, rfl, _, hb⟩
  have HB3 := Lib.hid (bthen HB2.out hb)
  clear hb
  generalize takeE (b.drop a2) = te at *
  generalize takeN (b.drop a2) = tn at *
  go_wp2_with fail
  go_ret2
  exact ⟨rfl, HB3.out⟩
set_option maxHeartbeats 2000000 in
theorem wopen_ok {base : Nat} {w : World} {p : Nat} {s f : Int} {b : List UInt8} {at_ : Nat} {ps : List (List UInt8)} (h : DK w p s b f) (hN : Nib w) (hlen : b.length ≤ 1000000) (hs : ScanIs b at_ ps) (ht : takeE (b.drop at_) = 3) (hp : base ≤ p) (hbase : base ≤ w.heap.size) :
    Calls Tryd.prog 14 #[.pointer (some ⟨p, 0, none⟩)] w fun e w' => ∃ q, e = .returned (.tuple #[.pointer (some ⟨q, 0, none⟩), .int .i64 0]) ∧ LG base w' q p s (b.take at_) (at_ : Nat) ps ∧ Below base w w' ∧ Bt p w w' ∧ w.heap.size ≤ q := by
  have H := Lib.hid h
  have HN := Lib.hid hN
  have HS := Lib.hid hs
  have hle := hs.le.1
  clear h hN hs
  go_enter Tryd.func14, Tryd.ntmps14
  go_wp2_with fail
  refine (dbytes_any H.out (by omega)).mono ?_
  rintro e w1 ⟨g, rfl, hr, hg, hb⟩
  have HI1 := Lib.hid (isBy_full hr)
  have HB1 := Lib.hid hb
  have HN1 := Lib.hid (HN.out.below hb)
  have H1 := Lib.hid (H.out.below hb)
  clear hr hb
  go_wp2_with fail
  refine (fscan_any (some ⟨g, 0, none⟩) b b.length w1 HN1.out HI1.out (Nat.le_refl _) (by omega)).mono ?_
  rintro e w2 ⟨v, a2, p2, rfl, hs2, hown, hb⟩
  obtain ⟨rfl, rfl⟩ := hs2.one HS.out
  have HB2 := Lib.hid (bthen HB1.out hb)
  have HN2 := Lib.hid (HN1.out.below hb)
  have HI2 := Lib.hid ((HI1.out.below hb).drop a2 (A' := some ⟨g, a2, none⟩) (fun _ => by simp [Addr.add_lit]))
  have hd2 : DKX (ApartT v (b.take a2)) w2 p s b f := (H1.out.dkx.mono (Y := ApartT v (b.take a2)) (fun A hA _ hl x hx e => by
    obtain ⟨b1, o1, g1, g2⟩ := hA 0 (by rcases b with _ | ⟨y, ys⟩ <;> simp_all)
    have hlt : b1 < w1.heap.size := World.block_lt_of_cell? _ _ g2
    rw [hx] at g1
    injection g1 with g1
    have hxb : x.block = b1 := by rw [g1]
    obtain ⟨V, h1, _⟩ := hown
    have := (World.ownsRow.lt h1 _ e).1
    omega)).below hb
  have HD2 := Lib.hid hd2
  have HO2 := Lib.hid hown
  obtain ⟨Av, cv, Vv, rfl, _⟩ := hown.texts
  have hdl : (b.drop a2).length = b.length - a2 := by simp
  clear hb hown hs2 hd2
  go_wp2_with (refine bytes_slice_from rfl _ _ rfl (some ⟨g, 0, none⟩) b.length b.length a2 rfl rfl hle ?_)
  intro A' hA1 hA2
  have HI3 : Hid (IsBy w2 A' (b.drop a2)) := Lib.hid (fun i hi => by
    have h1 : a2 < b.length := by omega
    rw [hA1 h1]
    have := HI2.out i hi
    simpa [Addr.add_lit] using this)
  clear hA1 hA2
  go_wp2_with fail
  refine (ftake_len A' (b.drop a2) _ _ w2 HN2.out HI3.out hdl (by omega) (by omega)).mono ?_
  rintro e w3 ⟨v3, rfl, _, hb⟩
  rw [ht]
  have HB3 := Lib.hid (bthen HB2.out hb)
  have HD3 := Lib.hid (HD2.out.below hb)
  have HO3 := Lib.hid ((HO2.out.below hb).mono (base' := base) (Nat.le_trans hbase HB1.out.size))
  clear hb HD2 HO2 HI3 HI2
  generalize takeN (b.drop a2) = tn at *
  have HC := Lib.hid (dcut_okX HD3.out a2 hle)
  go_wp2_with fail
  refine HC.out.mono ?_
  rintro e w4 ⟨rfl, hd4, hb4⟩
  obtain ⟨cc, r6⟩ := HD3.out.dk.row
  have HO4 := Lib.hid (HO3.out.off r6 (by decide) HD3.out.dk.noBy hb4)
  have HD4 := Lib.hid hd4
  have HBT4 := Lib.hid ((Bt.of (p := p) HB3.out).trans hb4)
  clear hd4 hb4 r6 HC
  go_wp2_with fail
  refine (dsync_anyX HD4.out).mono ?_
  rintro e w5 ⟨rfl, hd5, hb5⟩
  obtain ⟨cc, r6⟩ := HD4.out.dk.row
  have HO5 := Lib.hid (HO4.out.off r6 (by decide) HD4.out.dk.noBy hb5)
  have hla : (b.take a2).length = a2 := by rw [List.length_take]; omega
  rw [hla] at hd5
  have HD5 := Lib.hid hd5
  have HBT5 := Lib.hid (HBT4.out.trans hb5)
  have hs5 := HBT5.out.size
  clear hd5 hb5 r6 hla
  go_wp2_with fail
  go_ret2
  have hal : Below w5.heap.size w5 (w5.alloc (.cells #[.pointer (some ⟨p, 0, none⟩), .slice Av p2.length cv] 67)) := (Below.refl _ _).alloc (Nat.le_refl _) _
  have hbt := HBT5.out.then hal
  exact ⟨w5.heap.size, rfl, ⟨_, rowAt_alloc_at _ _ _ _ rfl, HO5.out.below hal, HD5.out.below hal, by omega, hp⟩, hbt.below hp hbase, hbt, hs5⟩
end Go.Proofs.YtfnbcafilbafgaaDoor
