/-
  Layer 9 (frame): Take in both.
-/
import Derived.Test.YtfnbcafilbafgaaDoorPut
namespace Go.Proofs.YtfnbcafilbafgaaDoor
open Go.RowKit
set_option linter.unusedSimpArgs false
set_option linter.unusedVariables false
attribute [local go_sem] Later.cell
/-- The payload that a frame tells of. -/
def payL (l : List UInt8) : List UInt8 := (l.drop 8).take (numL l)
/-- What Take tells: the error, the payload, how many bytes. -/
def takeE (l : List UInt8) : Int := if l.length < 8 then 3 else if 32768 < numL l then 2 else if l.length < 8 + numL l then 3 else if crc (payL l) ≠ numL (l.drop 4) then 6 else 0
def takeP (l : List UInt8) : List UInt8 := if takeE l = 0 then payL l else []
def takeN (l : List UInt8) : Nat := if takeE l = 0 then 8 + numL l else 0
theorem payL_len {l : List UInt8} (h : 8 + numL l ≤ l.length) : (payL l).length = numL l := by simp [payL]; omega
theorem take_bad {l : List UInt8} {e : Int} (h : takeE l = e) (he : e ≠ 0) : takeP l = [] ∧ takeN l = 0 := by
  unfold takeP takeN
  rw [h, if_neg he, if_neg he]
  exact ⟨rfl, rfl⟩
theorem take_good {l : List UInt8} (h : takeE l = 0) : takeP l = payL l ∧ takeN l = 8 + numL l ∧ 8 + numL l ≤ l.length ∧ numL l ≤ 32768 ∧ crc (payL l) = numL (l.drop 4) := by
  refine ⟨by unfold takeP; rw [if_pos h], by unfold takeN; rw [if_pos h], ?_⟩
  unfold takeE at h
  split at h
  · exact absurd h (by decide)
  split at h
  · exact absurd h (by decide)
  split at h
  · exact absurd h (by decide)
  split at h
  · exact absurd h (by decide)
  next h1 h2 h3 h4 => exact ⟨by omega, by omega, by simpa using h4⟩
/-- What a Take gives back. -/
def TakeR (l : List UInt8) (w : World) (e : Ending) (w' : World) : Prop :=
  ∃ v, e = .returned (.tuple #[v, .int .i64 (takeN l : Nat), .int .i64 (takeE l)]) ∧ OwnBy w' w.heap.size v (takeP l) ∧ Below w.heap.size w w'
theorem TakeR.bad {l : List UInt8} {w w' : World} {e : Ending} {r : Int} (h : takeE l = r) (hr : r ≠ 0) (he : e = .returned (.tuple #[.slice none 0 0, .int .i64 0, .int .i64 r])) (hb : Below w.heap.size w w') : TakeR l w e w' := by
  obtain ⟨h1, h2⟩ := take_bad h hr
  exact ⟨_, by rw [he, h2, h]; rfl, by rw [h1]; exact OwnBy.nil _ _, hb⟩
theorem TakeR.good {l : List UInt8} {w w' : World} {e : Ending} {v : Value} (h : takeE l = 0) (he : e = .returned (.tuple #[v, .int .i64 (8 + (numL l : Int)), .int .i64 0])) (ho : OwnBy w' w.heap.size v (payL l)) (hb : Below w.heap.size w w') : TakeR l w e w' := by
  obtain ⟨h1, h2, _⟩ := take_good h
  exact ⟨v, by rw [he, h2, h]; rfl, by rw [h1]; exact ho, hb⟩
theorem fnumber_at (A : Option Addr) (l : List UInt8) (n c : Nat) (w : World) (hl : IsBy w A l) (hn : l.length = n) (h4 : 4 ≤ n) :
    Calls Tryd.prog 41 #[.slice A n c] w fun e w' => e = .returned (.int .u32 (numL l : Nat)) ∧ Below w.heap.size w w' := by
  subst hn
  exact fnumber_any A l c w hl h4
theorem rnumber_at (A : Option Addr) (l : List UInt8) (n c : Nat) (w : World) (hl : IsBy w A l) (hn : l.length = n) (h4 : 4 ≤ n) :
    Calls Tryd.prog 28 #[.slice A n c] w fun e w' => e = .returned (.int .i64 (numL l : Nat)) ∧ Below w.heap.size w w' := by
  subst hn
  exact rnumber_any A l c w hl h4
theorem fsum_at (A : Option Addr) (l : List UInt8) (n c : Nat) (w : World) (hN : Nib w) (hl : IsBy w A l) (hn : l.length = n) (hlen : n ≤ 70368744177664) :
    Calls Tryd.prog 42 #[.slice A n c] w fun e w' => e = .returned (.int .u32 (crc l : Nat)) ∧ w = w' := by
  subst hn
  exact fsum_any A l c w hN hl hlen
theorem rsum_at (A : Option Addr) (l : List UInt8) (n c : Nat) (w : World) (hl : IsBy w A l) (hn : l.length = n) (hlen : n ≤ 70368744177664) :
    Calls Tryd.prog 29 #[.slice A n c] w fun e w' => e = .returned (.int .u32 (crc l : Nat)) ∧ w = w' := by
  subst hn
  exact rsum_any A l c w hl hlen
theorem clone_at (A : Option Addr) (l : List UInt8) (n c : Nat) (w : World) (hl : IsBy w A l) (hA : A = none → c = 0) (hn : l.length = n) (hlen : n ≤ 70368744177664) :
    Calls Tryd.prog 36 #[.slice A n c] w fun e w' => ∃ v, e = .returned v ∧ OwnBy w' w.heap.size v l ∧ Below w.heap.size w w' := by
  subst hn
  exact clone_bytes A l c w hl hA hlen
set_option maxHeartbeats 4000000 in
theorem ftake_any (A : Option Addr) (l : List UInt8) (c : Nat) (w : World) (hN : Nib w) (hl : IsBy w A l) (hlc : l.length ≤ c) (hlen : l.length ≤ 1099511627776) :
    Calls Tryd.prog 32 #[.slice A l.length c] w (TakeR l w) := by
  have HN := Lib.hid hN
  have HL := Lib.hid hl
  clear hN
  by_cases h8 : l.length < 8
  · have h8' : decide ((l.length : Int) < 8) = true := decide_eq_true (by omega)
    have he : takeE l = 3 := by unfold takeE; rw [if_pos h8]
    have HE := Lib.hid he
    clear he hl
    go_enter Tryd.func32, Tryd.ntmps32
    go_wp2_with fail
    go_ret3
    exact TakeR.bad HE.out (by decide) rfl (Below.refl _ _)
  · have h8' : decide ((l.length : Int) < 8) = false := decide_eq_false (by omega)
    obtain ⟨b, o, rfl, _⟩ := hl 0 (by omega)
    have hnl := numL_lt l
    clear hl
    by_cases hbig : 32768 < numL l
    · have hbig' : decide ((32768 : Int) < (numL l : Nat)) = true := decide_eq_true (by omega)
      have he : takeE l = 2 := by unfold takeE; rw [if_neg h8, if_pos hbig]
      have HE := Lib.hid he
      clear he
      go_enter Tryd.func32, Tryd.ntmps32
      go_wp2_with fail
      refine (fnumber_any (some ⟨b, o, none⟩) l c w HL.out (by omega)).mono ?_
      rintro e w1 ⟨rfl, hb⟩
      have HB := Lib.hid hb
      clear hb
      go_wp2_with fail
      go_ret3
      exact TakeR.bad HE.out (by decide) rfl HB.out
    · have hbig' : decide ((32768 : Int) < (numL l : Nat)) = false := decide_eq_false (by omega)
      by_cases hsh : l.length < 8 + numL l
      · have hsh' : decide ((l.length : Int) < 8 + (numL l : Nat)) = true := decide_eq_true (by omega)
        have he : takeE l = 3 := by unfold takeE; rw [if_neg h8, if_neg hbig, if_pos hsh]
        have HE := Lib.hid he
        clear he
        go_enter Tryd.func32, Tryd.ntmps32
        go_wp2_with fail
        refine (fnumber_any (some ⟨b, o, none⟩) l c w HL.out (by omega)).mono ?_
        rintro e w1 ⟨rfl, hb⟩
        have HB := Lib.hid hb
        clear hb
        go_wp2_with fail
        go_ret3
        exact TakeR.bad HE.out (by decide) rfl HB.out
      · have hsh' : decide ((l.length : Int) < 8 + (numL l : Nat)) = false := decide_eq_false (by omega)
        have HP : Hid (takeE l = if crc (payL l) ≠ numL (l.drop 4) then 6 else 0) := Lib.hid (by unfold takeE; rw [if_neg h8, if_neg hbig, if_neg hsh])
        have hpl := payL_len (l := l) (by omega)
        go_enter Tryd.func32, Tryd.ntmps32
        go_wp2_with fail
        refine (fnumber_any (some ⟨b, o, none⟩) l c w HL.out (by omega)).mono ?_
        rintro e w1 ⟨rfl, hb⟩
        have HB := Lib.hid hb
        have HN1 := Lib.hid (HN.out.below hb)
        have HL1 := Lib.hid (HL.out.below hb)
        clear hb
        go_upto_region 9 with (refine bytes_slice_two rfl _ _ _ rfl (some ⟨b, o, none⟩) l.length c 8 (8 + numL l) rfl rfl rfl (by omega) (by omega) ?_)
        intro A' hA1 hA2
        have HPAY : Hid (IsBy w1 A' (payL l)) := Lib.hid ((HL1.out.drop 8 (fun h => hA1 (by omega))).take _)
        have HD4 : Hid (IsBy w1 (some ⟨b, o + 4, none⟩) (l.drop 4)) := Lib.hid (HL1.out.drop 4 (fun h => by simp [Addr.add_lit]))
        have hd4 : (l.drop 4).length = l.length - 4 := by simp
        have hn4 := numL_lt (l.drop 4)
        have hcr := crc_lt (payL l)
        have hA' : A' = none → c - 8 = 0 := fun h => by cases hA2 h
        have HA' := Lib.hid hA'
        clear hA1 hA2 hA'
        go_upto_region 9 with fail
        by_cases hcs : crc (payL l) = numL (l.drop 4)
        · have hE : takeE l = 0 := by rw [HP.out, if_neg (by simpa using hcs)]
          have HE := Lib.hid hE
          have HPL := Lib.hid hpl
          clear hE hpl HP
          refine region_quiet (by kernel_rfl) (by kernel_rfl) ?_
          repeat (go_big_quiet_step ((first
            | (go_at_call 42; exact quiet_call_same (fsum_at _ (payL l) _ _ _ (HN1.out.below (Later.below _)) (HPAY.out.below (Later.below _)) HPL.out (by omega)))
            | (go_at_call 41; exact quiet_call (by simp) (fnumber_at _ (l.drop 4) _ _ _ (HD4.out.below (Later.below _)) hd4 (by omega))))))
          refine wpQuiet_nil ?_
          intro w4 hb4
          have HB4 := Lib.hid (bthen HB.out hb4)
          have HPAY4 := Lib.hid (HPAY.out.below hb4)
          clear hb4
          go_wp2_with fail
          refine (clone_at A' (payL l) _ _ w4 HPAY4.out HA'.out HPL.out (by omega)).mono ?_
          rintro e w5 ⟨v, rfl, hown, hb⟩
          have HO5 := Lib.hid (hown.mono (base' := w.heap.size) HB4.out.size)
          have HB5 := Lib.hid (bthen HB4.out hb)
          clear hown hb
          go_wp2_with fail
          go_ret3
          exact TakeR.good HE.out rfl HO5.out HB5.out
        · have hE : takeE l = 6 := by rw [HP.out, if_pos (by simpa using hcs)]
          have HE := Lib.hid hE
          have HPL := Lib.hid hpl
          clear hE hpl HP
          refine region_quiet (by kernel_rfl) (by kernel_rfl) ?_
          repeat (go_big_quiet_step ((first
            | (go_at_call 42; exact quiet_call_same (fsum_at _ (payL l) _ _ _ (HN1.out.below (Later.below _)) (HPAY.out.below (Later.below _)) HPL.out (by omega)))
            | (go_at_call 41; exact quiet_call (by simp) (fnumber_at _ (l.drop 4) _ _ _ (HD4.out.below (Later.below _)) hd4 (by omega))))))
          refine wpQuiet_nil ?_
          intro w4 hb4
          have HB4 := Lib.hid (bthen HB.out hb4)
          clear hb4
          go_wp2_with fail
          go_ret3
          exact TakeR.bad HE.out (by decide) rfl HB4.out
theorem numL_take4 (l : List UInt8) : numL (l.take 4) = numL l := by
  unfold numL
  simp only [List.getD_eq_getElem?_getD, List.getElem?_take]
  simp
set_option maxHeartbeats 4000000 in
theorem rtake_any (A : Option Addr) (l : List UInt8) (c : Nat) (w : World) (hl : IsBy w A l) (hlc : l.length ≤ c) (hlen : l.length ≤ 1099511627776) :
    Calls Tryd.prog 11 #[.slice A l.length c] w (TakeR l w) := by
  have HL := Lib.hid hl
  by_cases h8 : l.length < 8
  · have h8' : decide ((l.length : Int) < 8) = true := decide_eq_true (by omega)
    have he : takeE l = 3 := by unfold takeE; rw [if_pos h8]
    have HE := Lib.hid he
    clear he hl
    go_enter Tryd.func11, Tryd.ntmps11
    go_wp2_with fail
    go_ret3
    exact TakeR.bad HE.out (by decide) rfl (Below.refl _ _)
  · have h8' : decide ((l.length : Int) < 8) = false := decide_eq_false (by omega)
    obtain ⟨b, o, rfl, _⟩ := hl 0 (by omega)
    have hnl := numL_lt l
    clear hl
    by_cases hbig : 32768 < numL l
    · have hbig' : decide ((32768 : Int) < (numL l : Nat)) = true := decide_eq_true (by omega)
      have he : takeE l = 2 := by unfold takeE; rw [if_neg h8, if_pos hbig]
      have HE := Lib.hid he
      clear he
      go_enter Tryd.func11, Tryd.ntmps11
      go_wp2_with fail
      refine (rnumber_any (some ⟨b, o, none⟩) l c w HL.out (by omega)).mono ?_
      rintro e w1 ⟨rfl, hb⟩
      have HB := Lib.hid hb
      clear hb
      go_wp2_with fail
      go_ret3
      exact TakeR.bad HE.out (by decide) rfl HB.out
    · have hbig' : decide ((32768 : Int) < (numL l : Nat)) = false := decide_eq_false (by omega)
      by_cases hsh : l.length < 8 + numL l
      · have hsh' : decide ((l.length : Int) < (numL l : Nat) + 8) = true := decide_eq_true (by omega)
        have he : takeE l = 3 := by unfold takeE; rw [if_neg h8, if_neg hbig, if_pos hsh]
        have HE := Lib.hid he
        clear he
        go_enter Tryd.func11, Tryd.ntmps11
        go_wp2_with fail
        refine (rnumber_any (some ⟨b, o, none⟩) l c w HL.out (by omega)).mono ?_
        rintro e w1 ⟨rfl, hb⟩
        have HB := Lib.hid hb
        clear hb
        go_wp2_with fail
        go_ret3
        exact TakeR.bad HE.out (by decide) rfl HB.out
      · have hsh' : decide ((l.length : Int) < (numL l : Nat) + 8) = false := decide_eq_false (by omega)
        have HP : Hid (takeE l = if crc (payL l) ≠ numL (l.drop 4) then 6 else 0) := Lib.hid (by unfold takeE; rw [if_neg h8, if_neg hbig, if_neg hsh])
        have hpl := payL_len (l := l) (by omega)
        go_enter Tryd.func11, Tryd.ntmps11
        go_wp2_with fail
        refine (rnumber_any (some ⟨b, o, none⟩) l c w HL.out (by omega)).mono ?_
        rintro e w1 ⟨rfl, hb⟩
        have HB := Lib.hid hb
        have HL1 := Lib.hid (HL.out.below hb)
        clear hb
        go_upto_region 9 with (refine bytes_slice_two rfl _ _ _ rfl (some ⟨b, o, none⟩) l.length c 8 (8 + numL l) rfl rfl rfl (by omega) (by omega) ?_)
        intro A' hA1 hA2
        have HO1 : Hid (OwnBy (w1.alloc (.cells #[] 5)) w1.heap.size (.slice (some ⟨w1.heap.size, 0, none⟩) 0 0) []) := Lib.hid (OwnBy.row (xs := []) (rowAt_alloc_at _ _ _ _ rfl) (by simp))
        have HPAY : Hid (IsBy w1 A' (payL l)) := Lib.hid ((HL1.out.drop 8 (fun h => hA1 (by omega))).take _)
        have hA' : A' = none → c - 8 = 0 := fun h => by cases hA2 h
        have HA' := Lib.hid hA'
        clear hA1 hA2 hA'
        have HPL := Lib.hid hpl
        obtain ⟨y, hy⟩ : ∃ y, payL l = y := ⟨_, rfl⟩
        have HYL : Hid (y.length = numL l) := Lib.hid (by rw [← hy]; exact hpl)
        rw [hy] at HPAY HP
        have HY := Lib.hid hy
        clear hy hpl
        go_upto_region 9 with (at_builtin; refine wl_append_bytes rfl _ _ rfl w1.heap.size _ [] y A' (c - 8) rfl HO1.out (by rw [HYL.out]; rfl) (HPAY.out.alloc _) HA'.out ?c1 (by simp) ?_)
        case c1 => have := HYL.out; simp; omega
        intro v w2 hown hb
        obtain ⟨Av, cv, rfl, i1, i2, _, _⟩ := hown.isBy
        have hb2 : Below w1.heap.size w1 w2 := ((Below.refl _ _).alloc (Nat.le_refl _) _).trans hb
        have HO2 := Lib.hid (hown.mono (base' := w.heap.size) HB.out.size)
        have HB2 := Lib.hid (bthen HB.out hb2)
        have HD4 : Hid (IsBy w2 (some ⟨b, o + 4, none⟩) ((l.drop 4).take 4)) := Lib.hid (((HL1.out.below hb2).drop 4 (fun h => by simp [Addr.add_lit])).take 4)
        have hd4 : ((l.drop 4).take 4).length = 4 := by simp; omega
        have h48 : (8 : Int) ≤ c := by omega
        have hn4 := numL_lt (l.drop 4)
        have hcr := crc_lt y
        have HI1 := Lib.hid i1
        clear i1 hown hb hb2
        have HD := Lib.hid hd4
        clear hd4
        go_upto_region 9 with fail
        by_cases hcs : crc y = numL (l.drop 4)
        · have hE : takeE l = 0 := by rw [HP.out, if_neg (by simpa using hcs)]
          have HE := Lib.hid hE
          clear hE HP
          rw [← numL_take4] at hcs hn4
          refine region_quiet (by kernel_rfl) (by kernel_rfl) ?_
          repeat (go_big_quiet_step ((first
            | (go_at_call 29; exact quiet_call_same (rsum_at _ y _ _ _ (HI1.out.below (Later.below _)) rfl (by have := HYL.out; omega)))
            | (go_at_call 28; exact quiet_call (by simp) (rnumber_at _ ((l.drop 4).take 4) _ _ _ (HD4.out.below (Later.below _)) HD.out (by decide))))))
          refine wpQuiet_nil ?_
          intro w4 hb4
          have HB4 := Lib.hid (bthen HB2.out hb4)
          have HO4 := Lib.hid (HO2.out.below hb4)
          clear hb4
          go_wp2_with fail
          go_ret3
          exact TakeR.good HE.out (by rw [Int.add_comm]; rfl) (by rw [HY.out]; exact HO4.out) HB4.out
        · have hE : takeE l = 6 := by rw [HP.out, if_pos (by simpa using hcs)]
          have HE := Lib.hid hE
          clear hE HP
          rw [← numL_take4] at hcs hn4
          refine region_quiet (by kernel_rfl) (by kernel_rfl) ?_
          repeat (go_big_quiet_step ((first
            | (go_at_call 29; exact quiet_call_same (rsum_at _ y _ _ _ (HI1.out.below (Later.below _)) rfl (by have := HYL.out; omega)))
            | (go_at_call 28; exact quiet_call (by simp) (rnumber_at _ ((l.drop 4).take 4) _ _ _ (HD4.out.below (Later.below _)) HD.out (by decide))))))
          refine wpQuiet_nil ?_
          intro w4 hb4
          have HB4 := Lib.hid (bthen HB2.out hb4)
          have HO4 := Lib.hid (HO2.out.below hb4)
          clear hb4
          go_wp2_with fail
          go_ret3
          exact TakeR.bad HE.out (by decide) rfl HB4.out
end Go.Proofs.YtfnbcafilbafgaaDoor
