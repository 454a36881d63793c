/-
  The walk of OctetsOne.
-/
import Derived.Test.YtaflbcckoiiddaaOctBack
namespace Go.Proofs.Ytaflbcckoiiddaa
open Go.RowKit
set_option linter.unusedSimpArgs false
attribute [local go_sem] rowAt_setRow rowAt_setCell Later.cell Later.frozen
/-- The bytes of a number, told by themselves. -/
def canon : List UInt8 → Prop
  | [] => False
  | b :: t => if t = [] then b.toNat < 128 else 128 ≤ b.toNat ∧ canon t ∧ valB t ≠ 0
theorem byt_of (b : UInt8) : byt b.toNat = b := by simp [byt]
theorem uB_val : ∀ m, canon m → uB (valB m) = m
  | [], h => h.elim
  | b :: t, h => by
    unfold canon at h
    split at h
    · rename_i ht
      subst ht
      rw [valB, valB, show b.toNat % 128 + 128 * 0 = b.toNat by omega, uB_less h, byt_of]
    · obtain ⟨h1, h2, h3⟩ := h
      have hlt := b.toNat_lt
      have e1 : valB (b :: t) = b.toNat % 128 + 128 * valB t := rfl
      rw [uB_more (by omega), e1, show (b.toNat % 128 + 128 * valB t) / 128 = valB t by omega, uB_val t h2, show 128 + (b.toNat % 128 + 128 * valB t) % 128 = b.toNat by omega, byt_of]
theorem canon_of : ∀ (l : List UInt8) (K : Nat), fstB l = K → K < l.length → (0 < K → (l.getD K 0).toNat ≠ 0) → canon (l.take (K + 1)) ∧ ((l.getD K 0).toNat ≠ 0 → valB (l.take (K + 1)) ≠ 0)
  | [], K, _, h, _ => by simp at h
  | b :: t, K, hK, h, h0 => by
    rw [fstB] at hK
    split at hK
    · rename_i hb
      subst hK
      refine ⟨?_, fun hn => ?_⟩
      · show canon [b]
        unfold canon
        rw [if_pos rfl]; exact hb
      · have hn' : b.toNat ≠ 0 := by simpa using hn
        show b.toNat % 128 + 128 * 0 ≠ 0
        omega
    · rename_i hb
      obtain ⟨k, rfl⟩ : ∃ k, K = k + 1 := ⟨fstB t, hK.symm⟩
      have hk : fstB t = k := by omega
      have hkl : k < t.length := by simpa using h
      have hz : (t.getD k 0).toNat ≠ 0 := by simpa using h0 (by omega)
      obtain ⟨c1, c2⟩ := canon_of t k hk hkl (fun _ => hz)
      have hne : t.take (k + 1) ≠ [] := by
        intro hn
        rw [hn] at c1
        exact c1
      refine ⟨?_, fun _ => ?_⟩
      · rw [List.take_succ_cons]
        unfold canon
        rw [if_neg hne]
        exact ⟨by omega, c1, c2 hz⟩
      · rw [List.take_succ_cons, valB]
        have := c2 hz
        omega
theorem zig_unzig {u : Nat} (h : isB (unzig u) = true) : zig (unzig u) = u := by
  unfold zig
  rw [h]
  simp only [if_true]
  unfold unzig
  by_cases hp : u % 2 = 1
  · rw [if_pos hp, if_pos (by omega)]; omega
  · rw [if_neg hp, if_neg (by omega)]; omega
/-- What is read without an error was put so. -/
theorem rd_back {l rest : List UInt8} {n e : Int} (h : rd l 0 = (n, e, rest)) : (e ≠ 0 → n = 0) ∧ (e = 0 → l = numB n ++ rest ∧ rest.length ≤ l.length) := by
  rw [rd, if_pos rfl, rdNum] at h
  split at h
  · rename_i hf
    split at h
    · cases h; exact ⟨fun _ => rfl, fun h => absurd h (by decide)⟩
    · split at h
      · cases h; exact ⟨fun _ => rfl, fun h => absurd h (by decide)⟩
      · rename_i h6 h0
        split at h
        · rename_i hb
          cases h
          refine ⟨fun h => absurd rfl h, fun _ => ⟨?_, by simp⟩⟩
          obtain ⟨c1, _⟩ := canon_of l (fstB l) rfl hf (fun hp hz => h0 ⟨hp, hz⟩)
          rw [numB, zig_unzig hb, uB_val _ c1, List.take_append_drop]
        · cases h; exact ⟨fun _ => rfl, fun h => absurd h (by decide)⟩
  · split at h
    · cases h; exact ⟨fun _ => rfl, fun h => absurd h (by decide)⟩
    · cases h; exact ⟨fun _ => rfl, fun h => absurd h (by decide)⟩
set_option maxRecDepth 10000 in
set_option maxHeartbeats 4000000 in
theorem octetsOne_walk (A : Option Addr) (c : Nat) (l : List UInt8) (hm : l.length ≤ 9223372036854775807 ∧ (A = none → c = 0 ∧ l = []) ∧ l.length ≤ c) (w : World) (hl : IsBy w A l) :
    Calls Try.prog 3 #[.slice A l.length c] w fun e w' => e = .returned (.bool true) ∧ Below w.heap.size w w' := by
  obtain ⟨hm1, hm2, hm3⟩ := hm
  have HL := Lib.hid hl
  have HA : Hid (A = none → c = 0) := Lib.hid fun h => (hm2 h).1
  clear hl hm2
  go_enter Try.func3, Try.ntmps3
  by_cases hL : l.length ≤ 20
  · have hL' : (l.length : Int) ≤ 20 := by omega
    obtain ⟨n, e, rest, hrd⟩ : ∃ n e rest, rd l 0 = (n, e, rest) := ⟨_, _, _, rfl⟩
    obtain ⟨hb1, hb2⟩ := rd_back hrd
    have HRD := Lib.hid hrd
    clear hrd
    go_wp2_with fail
    refine (new_any A c l w HL.out HA.out (by omega)).mono ?_
    rintro e1 w1 ⟨p, rfl, hr, hp, hb⟩
    have HR := Lib.hid hr
    have HB := Lib.hid hb
    have HL1 := Lib.hid (HL.out.below hb)
    have I0 : Hid (∀ x, A = some x → l ≠ [] → x.block < p) := Lib.hid fun x hx hn => by
      obtain ⟨b, o, h1, h2⟩ := HL.out 0 (by cases l with | nil => exact absurd rfl hn | cons y ys => simp)
      rw [hx] at h1
      injection h1 with h1
      subst h1
      exact Nat.lt_of_lt_of_le (World.block_lt_of_cell? _ _ h2) hp
    clear hr hb
    go_wp2_with fail
    refine (rnum_is HR.out (by omega) HRD.out).mono ?_
    rintro e2 w2 ⟨rfl, hr, hb⟩
    have HR2 := Lib.hid hr
    have HB2 := Lib.hid (HB.out.trans (hb.mono hp))
    have HL2 : Hid (IsBy w2 A l) := Lib.hid fun i hi => by
      obtain ⟨b, o, h1, h2⟩ := HL1.out i hi
      exact ⟨b, o, h1, (hb.cell (p := ⟨b, o + i, none⟩) (show b < p from I0.out ⟨b, o, none⟩ h1 (by intro hn; rw [hn] at hi; simp at hi))).trans h2⟩
    clear hr hb HB HR HL1
    by_cases he : e = 0
    · obtain ⟨heq, hrl⟩ := hb2 he
      subst he
      have HEQ := Lib.hid heq
      have hnl := numB_len n
      have hxl : (numB n).length ≤ l.length := by rw [heq, List.length_append]; omega
      have htk : l.take (numB n).length = numB n := by rw [heq]; simp
      have hll : l.length = (numB n).length + rest.length := by rw [heq, List.length_append]
      have HTK := Lib.hid htk
      have HLL := Lib.hid hll
      clear hb1 hb2 heq htk hll
      go_wp2_with (go_at_call 11; refine (err_any HR2.out).mono ?_; rintro e w' ⟨rfl, rfl⟩)
      refine (number_any none 0 [] n w2 (IsBy.nil _ _) (fun _ => rfl) (by decide)).mono ?_
      rintro e3 w3 ⟨v, rfl, hown, hb⟩
      rw [List.nil_append] at hown
      obtain ⟨A1, c1, rfl, i1, i2, _, _⟩ := hown.isBy
      have HB3 := Lib.hid (bthen HB2.out hb)
      have HL3 := Lib.hid (HL2.out.below hb)
      have HR3 := Lib.hid (HR2.out.below hb HR2.out.lt)
      have hcv1 : ∀ x : Later w3.heap.size w3, (convert 22 9 (.slice A1 (numB n).length c1)).run Try.prog x.wd = .ok (.string (strB (numB n))) x.wd := fun x => conv_bytes (i1.below x.below)
      have hcv2 : ∀ x : Later w3.heap.size w3, (convert 22 9 (.slice A (numB n).length c)).run Try.prog x.wd = .ok (.string (strB (numB n))) x.wd := fun x => by
        have := conv_bytes (c := c) ((HL3.out.below x.below).take (numB n).length)
        rwa [HTK.out] at this
      have hre : rdEnd rest 0 = if 0 < rest.length then 5 else 0 := rfl
      generalize numB n = X at *
      have hxc : X.length ≤ c := by omega
      have g1 : decide ((l.length : Int) < (X.length : Int)) = false := decide_eq_false (by omega)
      have g2 : decide (l.length < X.length) = false := decide_eq_false (by omega)
      clear hown hb i1 HB2 HL2 HR2
      go_upto_region 8 with fail
      refine region_quiet (by kernel_rfl) (by kernel_rfl) ?_
      repeat (go_big_quiet_step (fail))
      refine wpQuiet_nil ?_
      intro w4 hb4
      have HR4 := Lib.hid (HR3.out.below hb4 HR3.out.lt)
      have HB4 := Lib.hid (bthen HB3.out hb4)
      clear hb4 HB3 HL3 HR3 hcv1 hcv2
      by_cases hz : 0 < rest.length
      · rw [if_pos hz] at hre
        have g3 : decide ((X.length : Int) = (l.length : Int)) = false := decide_eq_false (by have := HLL.out; omega)
        have g4 : ((X.length : Int) == (l.length : Int)) = false := beq_eq_false_iff_ne.2 (by have := HLL.out; omega)
        have g5 : decide (X.length = l.length) = false := decide_eq_false (by have := HLL.out; omega)
        have HRE := Lib.hid hre
        clear hre
        go_wp2_with fail
        refine (end_is HR4.out HRE.out).mono ?_
        rintro e4 _ ⟨rfl, rfl⟩
        go_wp2_with fail
        refine (awake8 _).mono ?_
        rintro e w9 ⟨rfl, hb9⟩
        have HB9 := Lib.hid (bthen HB4.out hb9)
        clear hb9
        go_wp2_with fail
        go_ret
        exact ⟨rfl, HB9.out⟩
      · rw [if_neg hz] at hre
        have hxe : X.length = l.length := by have := HLL.out; omega
        have HRE := Lib.hid hre
        clear hre
        rw [hxe]
        go_wp2_with fail
        refine (end_is HR4.out HRE.out).mono ?_
        rintro e4 _ ⟨rfl, rfl⟩
        go_wp2_with fail
        refine (awake8 _).mono ?_
        rintro e w9 ⟨rfl, hb9⟩
        have HB9 := Lib.hid (bthen HB4.out hb9)
        clear hb9
        go_wp2_with fail
        go_ret
        exact ⟨rfl, HB9.out⟩
    · obtain rfl := hb1 he
      have e1 : (e == 0) = false := beq_eq_false_iff_ne.2 he
      have e2 : decide (e = 0) = false := decide_eq_false he
      clear hb1 hb2
      go_wp2_with (go_at_call 11; refine (err_any HR2.out).mono ?_; rintro e w' ⟨rfl, rfl⟩)
      refine (awake8 _).mono ?_
      rintro e w9 ⟨rfl, hb9⟩
      have HB9 := Lib.hid (bthen HB2.out hb9)
      clear hb9
      go_wp2_with fail
      go_ret
      exact ⟨rfl, HB9.out⟩
  · have hL' : ¬ (l.length : Int) ≤ 20 := by omega
    go_wp2_with fail
    refine (awake8 _).mono ?_
    rintro e w9 ⟨rfl, hb9⟩
    have HB9 := Lib.hid hb9
    clear hb9
    go_wp2_with fail
    go_ret
    exact ⟨rfl, HB9.out⟩
end Go.Proofs.Ytaflbcckoiiddaa
