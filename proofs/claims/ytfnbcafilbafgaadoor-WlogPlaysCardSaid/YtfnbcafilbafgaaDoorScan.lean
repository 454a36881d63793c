/-
  Layer 9 (frame): Scan in both.
-/
import Derived.Test.YtfnbcafilbafgaaDoorTake
import Derived.Test.YtfnbcafilbafgaaDoorTexts
namespace Go.Proofs.YtfnbcafilbafgaaDoor
open Go.RowKit
set_option linter.unusedSimpArgs false
set_option linter.unusedVariables false
/-- How far one is, and what was found, behind k frames. -/
def stA (b : List UInt8) : Nat → Nat × List (List UInt8)
  | 0 => (0, [])
  | k + 1 => if takeE (b.drop (stA b k).1) = 0 then ((stA b k).1 + (8 + numL (b.drop (stA b k).1)), (stA b k).2 ++ [payL (b.drop (stA b k).1)]) else stA b k
theorem stA_le (b : List UInt8) : ∀ k, (stA b k).1 ≤ b.length ∧ 8 * (stA b k).2.length ≤ (stA b k).1
  | 0 => ⟨Nat.zero_le _, Nat.zero_le _⟩
  | k + 1 => by
    obtain ⟨h1, h2⟩ := stA_le b k
    unfold stA
    split
    · next h =>
      obtain ⟨_, _, h3, _⟩ := take_good h
      rw [List.length_drop] at h3
      simp only [List.length_append, List.length_singleton]
      omega
    · exact ⟨h1, h2⟩
/-- What a Scan finds. -/
def ScanIs (b : List UInt8) (at_ : Nat) (ps : List (List UInt8)) : Prop := ∃ k, stA b k = (at_, ps) ∧ takeE (b.drop at_) ≠ 0
theorem stA_stop {b : List UInt8} {k : Nat} (h : takeE (b.drop (stA b k).1) ≠ 0) : ∀ m, stA b (k + m) = stA b k
  | 0 => rfl
  | m + 1 => by
    have ih := stA_stop h m
    have e : stA b (k + (m + 1)) = if takeE (b.drop (stA b (k + m)).1) = 0 then ((stA b (k + m)).1 + (8 + numL (b.drop (stA b (k + m)).1)), (stA b (k + m)).2 ++ [payL (b.drop (stA b (k + m)).1)]) else stA b (k + m) := rfl
    rw [e, ih, if_neg h]
theorem ScanIs.one {b : List UInt8} {at1 at2 : Nat} {p1 p2 : List (List UInt8)} (h1 : ScanIs b at1 p1) (h2 : ScanIs b at2 p2) : at1 = at2 ∧ p1 = p2 := by
  obtain ⟨k1, e1, f1⟩ := h1
  obtain ⟨k2, e2, f2⟩ := h2
  have key : (at1, p1) = (at2, p2) := by
    rcases Nat.le_total k1 k2 with h | h
    · obtain ⟨m, rfl⟩ := Nat.le.dest h
      rw [← e1, ← e2]
      exact (stA_stop (by rw [e1]; exact f1) m).symm
    · obtain ⟨m, rfl⟩ := Nat.le.dest h
      rw [← e1, ← e2]
      exact stA_stop (by rw [e2]; exact f2) m
  injection key with a b
  exact ⟨a, b⟩
/-- What a Scan gives back. -/
def ScanR (l : List UInt8) (w : World) (e : Ending) (w' : World) : Prop :=
  ∃ v at_ ps, e = .returned (.tuple #[v, .int .i64 (at_ : Nat)]) ∧ ScanIs l at_ ps ∧ OwnTx w' w.heap.size v ps ∧ Below w.heap.size w w'
theorem ScanR.mk {l : List UInt8} {w w' : World} {e : Ending} {v : Value} {k : Nat} (he : e = .returned (.tuple #[v, .int .i64 ((stA l k).1 : Nat)])) (hs : takeE (l.drop (stA l k).1) ≠ 0) (ho : OwnTx w' w.heap.size v (stA l k).2) (hb : Below w.heap.size w w') : ScanR l w e w' :=
  ⟨v, _, _, he, ⟨k, rfl, hs⟩, ho, hb⟩
theorem OwnTx.lt {w : World} {base : Nat} {v : Value} {ps : List (List UInt8)} (h : OwnTx w base v ps) : ∀ k, v.ownBlock = some k → k < w.heap.size := by
  obtain ⟨V, h1, _⟩ := h
  exact fun k hk => (World.ownsRow.lt h1 k hk).2
theorem ftake_at (A : Option Addr) (l : List UInt8) (n c : Nat) (w : World) (hN : Nib w) (hl : IsBy w A l) (hn : l.length = n) (hlc : n ≤ c) (hlen : n ≤ 1099511627776) :
    Calls Tryd.prog 32 #[.slice A n c] w (TakeR l w) := by
  subst hn
  exact ftake_any A l c w hN hl hlc hlen
theorem rtake_at (A : Option Addr) (l : List UInt8) (n c : Nat) (w : World) (hl : IsBy w A l) (hn : l.length = n) (hlc : n ≤ c) (hlen : n ≤ 1099511627776) :
    Calls Tryd.prog 11 #[.slice A n c] w (TakeR l w) := by
  subst hn
  exact rtake_any A l c w hl hlc hlen
set_option maxHeartbeats 4000000 in
theorem fscan_any (A : Option Addr) (l : List UInt8) (c : Nat) (w : World) (hN : Nib w) (hl : IsBy w A l) (hlc : l.length ≤ c) (hlen : l.length ≤ 1000000) :
    Calls Tryd.prog 31 #[.slice A l.length c] w (ScanR l w) := by
  have HN := Lib.hid hN
  have HL := Lib.hid hl
  clear hN hl
  go_enter Tryd.func31, Tryd.ntmps31
  go_wp2_with fail
  go_step3
  go_wp2_with fail
  go_step3
  go_wp2_with fail
  go_loopw [4, 5] (fun v i w' => ∃ (k : Nat) (v' : Value), v' = v ∧ i = .int .i64 ((stA l k).1 : Nat) ∧ OwnTx w' w.heap.size v' (stA l k).2 ∧ Below w.heap.size w w') (fun _ i _ => l.length - (intOf i).toNat)
  case atStart => exact ⟨0, _, rfl, rfl, OwnTx.nil _ _, Below.refl _ _⟩
  case round =>
    rename World => wr
    obtain ⟨k, v, rfl, rfl, hown, hb⟩ := hrel
    obtain ⟨hk1, hk2⟩ := stA_le l k
    have HO := Lib.hid hown
    have HB := Lib.hid hb
    have HN2 := Lib.hid (HN.out.below hb)
    have HL2 := Lib.hid (HL.out.below hb)
    have hlt := hown.lt
    have HLT := Lib.hid hlt
    clear hown hb hlt
    have HS : Hid (stA l (k + 1) = if takeE (l.drop (stA l k).1) = 0 then ((stA l k).1 + (8 + numL (l.drop (stA l k).1)), (stA l k).2 ++ [payL (l.drop (stA l k).1)]) else stA l k) := Lib.hid rfl
    have HM := @ScanR.mk l w
    have HMK := Lib.hid (fun w' e v => @ScanR.mk l w w' e v k)
    clear HM
    generalize (stA l k).1 = at_ at *
    generalize (stA l k).2 = ps at *
    go_wp2_with (refine bytes_slice_from rfl _ _ rfl A l.length c at_ rfl rfl hk1 ?_)
    intro A' hA1 hA2
    have HD := Lib.hid (HL2.out.drop at_ (fun h => hA1 (by omega)))
    have hdl : (l.drop at_).length = l.length - at_ := by simp
    clear hA1 hA2
    go_wp2_with fail
    refine (ftake_at A' (l.drop at_) _ _ wr HN2.out HD.out hdl (by omega) (by omega)).mono ?_
    rintro e w2 ⟨v2, rfl, hown, hb⟩
    have HB2 := Lib.hid (bthen HB.out hb)
    have HO2 := Lib.hid (HO.out.below hb)
    by_cases htk : takeE (l.drop at_) = 0
    · obtain ⟨t1, t2, t3, _⟩ := take_good htk
      rw [t2, htk]
      rw [t1] at hown
      have HS2 := Lib.hid (HS.out.trans (if_pos htk))
      obtain ⟨A2, c2, rfl, i1, i2, i3, i4⟩ := hown.isBy
      have HI := Lib.hid i1
      have hap : payL (l.drop at_) ≠ [] → ∀ y, A2 = some y → v.ownBlock ≠ some y.block := fun _ y hy e => by
        have h1 := HLT.out _ e
        have h2 := i4 y hy
        omega
      have HAP := Lib.hid hap
      have HI3 := Lib.hid i3
      rw [hdl] at t3
      clear hap hown hb i1 i4 i3 t1 t2 htk HS HMK HLT
      generalize payL (l.drop at_) = y at *
      generalize numL (l.drop at_) = m at *
      go_wp2_with (at_builtin; refine wl_append_text rfl _ _ rfl w.heap.size _ ps y A2 y.length c2 HO2.out rfl rfl rfl HI.out rfl HI3.out i2 HAP.out ?c1 HB2.out.size ?_)
      case c1 => omega
      intro v3 w3 hown hb
      have HO3 := Lib.hid hown
      have HB3 := Lib.hid (HB2.out.trans hb)
      clear hown hb
      go_wp2_with fail
      go_roundw
      case rel => exact ⟨k + 1, _, rfl, by rw [HS2.out]; go_num, by rw [HS2.out]; exact HO3.out, HB3.out⟩
      case measure => simp [intOf]; omega
    · have hne : takeE (l.drop at_) ≠ 0 := htk
      have HNE := Lib.hid htk
      clear hown hb
      generalize takeE (l.drop at_) = r at *
      go_wp2_with fail
      rw [Exit.noGoto_ret]
      go_ret2
      exact HMK.out _ _ _ rfl HNE.out HO2.out HB2.out
end Go.Proofs.YtfnbcafilbafgaaDoor
