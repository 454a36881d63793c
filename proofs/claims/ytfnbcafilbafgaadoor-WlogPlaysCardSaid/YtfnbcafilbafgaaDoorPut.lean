/-
  Layer 9 (frame): Put in both; what the document fixes.
-/
import Derived.Test.YtfnbcafilbafgaaDoorConcat
namespace Go.Proofs.YtfnbcafilbafgaaDoor
open Go.RowKit
set_option linter.unusedSimpArgs false
set_option linter.unusedVariables false
/-- A payload's frame. -/
def putL (l : List UInt8) : List UInt8 := fourL l.length ++ (fourL (crc l) ++ l)
theorem putL_len (l : List UInt8) : (putL l).length = l.length + 8 := by simp [putL, fourL_len]; omega
/-- Three texts. -/
def three (x y z : Option Addr × Nat × List UInt8) : Nat → Option Addr × Nat × List UInt8
  | 0 => x
  | 1 => y
  | _ => z
theorem catV_three (x y z : Option Addr × Nat × List UInt8) : catV (three x y z) 3 = x.2.2 ++ (y.2.2 ++ z.2.2) := by
  simp [catV, List.range_succ, three]
theorem texts_three {W : World} {g : Nat} {T : TypeId} {x y z : Option Addr × Nat × List UInt8} (hr : rowAt W g = some (#[.slice x.1 x.2.2.length x.2.1, .slice y.1 y.2.2.length y.2.1, .slice z.1 z.2.2.length z.2.1], T))
    (hx : IsBy W x.1 x.2.2 ∧ x.2.2.length ≤ x.2.1 ∧ (x.1 = none → x.2.1 = 0)) (hy : IsBy W y.1 y.2.2 ∧ y.2.2.length ≤ y.2.1 ∧ (y.1 = none → y.2.1 = 0)) (hz : IsBy W z.1 z.2.2 ∧ z.2.2.length ≤ z.2.1 ∧ (z.1 = none → z.2.1 = 0)) :
    Texts W (some ⟨g, 0, none⟩) 3 (three x y z) := by
  refine ⟨fun i hi => ⟨g, 0, rfl, ?_⟩, fun i hi => ?_, fun i hi => ?_, fun i hi => ?_⟩
  · rw [cell_of_rowAt hr, Nat.zero_add]
    rcases i with _ | _ | _ | i <;> first | rfl | omega
  · rcases i with _ | _ | _ | i <;> first | exact hx.1 | exact hy.1 | exact hz.1 | omega
  · rcases i with _ | _ | _ | i <;> first | exact hx.2.1 | exact hy.2.1 | exact hz.2.1 | omega
  · rcases i with _ | _ | _ | i <;> first | exact hx.2.2 | exact hy.2.2 | exact hz.2.2 | omega
theorem fput_big (A : Option Addr) (l : List UInt8) (c : Nat) (w : World) (h : 32768 < l.length) :
    Calls Tryd.prog 37 #[.slice A l.length c] w fun e w' => e = .returned (.tuple #[.slice none 0 0, .int .i64 2]) ∧ w = w' := by
  have h1 : decide ((32768 : Int) < (l.length : Int)) = true := decide_eq_true (by omega)
  go_enter Tryd.func37, Tryd.ntmps37
  go_wp2_with fail
  go_ret2
  exact ⟨rfl, rfl⟩
set_option maxHeartbeats 1000000 in
theorem fput_any (A : Option Addr) (l : List UInt8) (c : Nat) (w : World) (hN : Nib w) (hl : IsBy w A l) (hlc : l.length ≤ c) (hA : A = none → c = 0) (h : l.length ≤ 32768) :
    Calls Tryd.prog 37 #[.slice A l.length c] w fun e w' => ∃ v, e = .returned (.tuple #[v, .int .i64 0]) ∧ OwnBy w' w.heap.size v (putL l) ∧ Below w.heap.size w w' := by
  have h1 : decide ((32768 : Int) < (l.length : Int)) = false := decide_eq_false (by omega)
  have HN := Lib.hid hN
  have HL := Lib.hid hl
  clear hN hl
  go_enter Tryd.func37, Tryd.ntmps37
  go_wp2_with fail
  refine (ffour_any l.length (by omega) w).mono ?_
  rintro e w1 ⟨g1, rfl, hr1, hg1, hb1⟩
  have HR1 := Lib.hid hr1
  have HB1 := Lib.hid hb1
  clear hr1 hb1
  go_wp2_with fail
  refine (fsum_any A l c w1 (HN.out.below HB1.out) (HL.out.below HB1.out) (by omega)).mono ?_
  rintro e _ ⟨rfl, rfl⟩
  have hcl := crc_lt l
  have HC : Hid (putL l = fourL l.length ++ (fourL (crc l) ++ l)) := Lib.hid rfl
  generalize crc l = q at *
  go_wp2_with fail
  refine (ffour_any q hcl w1).mono ?_
  rintro e w2 ⟨g2, rfl, hr2, hg2, hb2⟩
  have HR2 := Lib.hid hr2
  have HB2 := Lib.hid (bthen HB1.out hb2)
  have HR12 := Lib.hid (rowKeep hb2 HR1.out)
  have HL2 := Lib.hid (HL.out.below HB2.out)
  clear hr2 hb2
  go_wp2_with fail
  refine (concat_any (some ⟨w2.heap.size, 0, none⟩) 3 3 (three (some ⟨g1, 0, none⟩, 4, fourL l.length) (some ⟨g2, 0, none⟩, 4, fourL q) (A, c, l)) _ (texts_three (rowAt_alloc_at _ _ _ _ rfl)
    ⟨(isBy_full HR12.out).alloc _, Nat.le_refl _, fun h => by cases h⟩ ⟨(isBy_full HR2.out).alloc _, Nat.le_refl _, fun h => by cases h⟩ ⟨HL2.out.alloc _, hlc, hA⟩) (by decide) (by rw [catV_three]; simp [fourL_len]; omega) (by rw [catV_three]; simp [fourL_len]; omega)).mono ?_
  rintro e w5 ⟨v, rfl, hown, hb⟩
  rw [catV_three] at hown
  have HB5 := Lib.hid (((Below.refl w2.heap.size w2).alloc (Nat.le_refl _) (.cells #[.slice (some ⟨g1, 0, none⟩) 4 4, .slice (some ⟨g2, 0, none⟩) 4 4, .slice A l.length c] 24)).trans (hb.mono (by simp)))
  have HO5 := Lib.hid (hown.mono (base' := w.heap.size) (by have := HB2.out.size; simp; omega))
  clear hown hb
  go_wp2_with fail
  go_ret2
  exact ⟨_, rfl, by rw [HC.out]; exact HO5.out, bthen HB2.out HB5.out⟩
theorem rput_big (A : Option Addr) (l : List UInt8) (c : Nat) (w : World) (h : 32768 < l.length) :
    Calls Tryd.prog 27 #[.slice A l.length c] w fun e w' => e = .returned (.slice none 0 0) ∧ w = w' := by
  have h1 : decide ((32768 : Int) < (l.length : Int)) = true := decide_eq_true (by omega)
  go_enter Tryd.func27, Tryd.ntmps27
  go_wp2_with fail
  go_ret
  exact ⟨rfl, rfl⟩
set_option maxHeartbeats 1000000 in
theorem rput_any (A : Option Addr) (l : List UInt8) (c : Nat) (w : World) (hl : IsBy w A l) (hA : A = none → c = 0) (h : l.length ≤ 32768) :
    Calls Tryd.prog 27 #[.slice A l.length c] w fun e w' => ∃ v, e = .returned v ∧ OwnBy w' w.heap.size v (putL l) ∧ Below w.heap.size w w' := by
  have h1 : decide ((32768 : Int) < (l.length : Int)) = false := decide_eq_false (by omega)
  have HL := Lib.hid hl
  clear hl
  go_enter Tryd.func27, Tryd.ntmps27
  go_wp2_with fail
  refine (rfour_any l.length (by omega) w).mono ?_
  rintro e w1 ⟨v1, rfl, ho1, hb1⟩
  have HO1 := Lib.hid ho1
  have HB1 := Lib.hid hb1
  clear ho1 hb1
  go_wp2_with fail
  refine (rsum_any A l c w1 (HL.out.below HB1.out) (by omega)).mono ?_
  rintro e _ ⟨rfl, rfl⟩
  have hcl := crc_lt l
  have HC : Hid (putL l = fourL l.length ++ (fourL (crc l) ++ l)) := Lib.hid rfl
  generalize crc l = q at *
  go_wp2_with fail
  refine (rfour_any q hcl w1).mono ?_
  rintro e w2 ⟨v2, rfl, ho2, hb2⟩
  obtain ⟨A2, c2, rfl, i1, i2, _, _⟩ := ho2.isBy
  have HI2 := Lib.hid i1
  have HB2 := Lib.hid (bthen HB1.out hb2)
  have HO2 := Lib.hid (HO1.out.below hb2)
  have HL2 := Lib.hid (HL.out.below HB2.out)
  clear ho2 hb2 i1 HO1
  obtain ⟨f2, hf2⟩ : ∃ f2, fourL q = f2 := ⟨_, rfl⟩
  rw [hf2] at HI2 HC
  have HF4 : Hid (f2.length = 4) := Lib.hid (by rw [← hf2]; rfl)
  rw [hf2]
  clear hf2
  go_wp2_with (at_builtin; refine wl_append_bytes rfl _ _ rfl w.heap.size _ _ f2 A2 c2 rfl HO2.out rfl HI2.out i2 ?c1 HB2.out.size ?_)
  case c1 => have := HF4.out; simp [fourL_len]; omega
  intro v3 w3 ho3 hb3
  have HO3 := Lib.hid ho3
  have HB3 := Lib.hid (HB2.out.trans hb3)
  have HL3 := Lib.hid (HL.out.below HB3.out)
  clear ho3 hb3
  go_wp2_with (at_builtin; refine wl_append_bytes rfl _ _ rfl w.heap.size _ _ l A c rfl HO3.out rfl HL3.out hA ?c2 HB3.out.size ?_)
  case c2 => have := HF4.out; simp [fourL_len]; omega
  intro v4 w4 ho4 hb4
  have HO4 := Lib.hid ho4
  have HB4 := Lib.hid (HB3.out.trans hb4)
  clear ho4 hb4
  go_wp2_with fail
  go_ret
  exact ⟨_, rfl, by rw [HC.out, ← List.append_assoc]; exact HO4.out, HB4.out⟩
end Go.Proofs.YtfnbcafilbafgaaDoor
