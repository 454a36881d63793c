/-
  Layer 8 (octets): the reader's Number.
-/
import Derived.Test.YtpjichkigccfnaaOctRead
import Derived.Test.YtpjichkigccfnaaTail
namespace Go.Proofs.Ytpjichkigccfnaa
set_option maxRecDepth 20000
open Go.RowKit
set_option linter.unusedSimpArgs false
attribute [local go_sem] rowAt_setRow rowAt_setCell Later.cell Later.frozen
/-- The number whose bits are these. -/
def valB : List UInt8 → Nat
  | [] => 0
  | b :: t => b.toNat % 128 + 128 * valB t
theorem valB_lt : ∀ l, valB l < 128 ^ l.length
  | [] => by simp [valB]
  | b :: t => by
    have := valB_lt t
    rw [valB, List.length_cons, Nat.pow_succ]
    omega
theorem valB_small {l : List UInt8} (h : l.length ≤ 6) : valB l < 4398046511104 := Nat.lt_of_lt_of_le (valB_lt l) (Nat.pow_le_pow_right (by decide) h)
def unzig (u : Nat) : Int := if u % 2 = 1 then -((u / 2 : Nat) : Int) - 1 else ((u / 2 : Nat) : Int)
/-- What is read, the error, what is left. -/
def rdNum (l : List UInt8) : Int × Int × List UInt8 :=
  if fstB l < l.length then
    if 6 ≤ fstB l then (0, 4, l)
    else if 0 < fstB l ∧ (l.getD (fstB l) 0).toNat = 0 then (0, 4, l)
    else if isB (unzig (valB (l.take (fstB l + 1)))) then (unzig (valB (l.take (fstB l + 1))), 0, l.drop (fstB l + 1)) else (0, 2, l)
  else if 6 < l.length then (0, 4, l) else (0, 3, l)
def rd (l : List UInt8) (e : Int) : Int × Int × List UInt8 := if e = 0 then rdNum l else (0, e, l)
theorem rd_err {l : List UInt8} {e : Int} (h : e ≠ 0) : rd l e = (0, e, l) := by rw [rd, if_neg h]
theorem rd_long {l : List UInt8} {K : Nat} (hK : fstB l = K) (hf : K < l.length) (h6 : 6 ≤ K) : rd l 0 = (0, 4, l) := by rw [rd, if_pos rfl, rdNum, hK, if_pos hf, if_pos h6]
theorem rd_none {l : List UInt8} (hf : ¬ fstB l < l.length) (h6 : 6 < l.length) : rd l 0 = (0, 4, l) := by rw [rd, if_pos rfl, rdNum, if_neg hf, if_pos h6]
theorem rd_short {l : List UInt8} (hf : ¬ fstB l < l.length) (h6 : ¬ 6 < l.length) : rd l 0 = (0, 3, l) := by rw [rd, if_pos rfl, rdNum, if_neg hf, if_neg h6]
theorem rd_zero {l : List UInt8} {K : Nat} (hK : fstB l = K) (hf : K < l.length) (h6 : ¬ 6 ≤ K) (h0 : 0 < K ∧ (l.getD K 0).toNat = 0) : rd l 0 = (0, 4, l) := by rw [rd, if_pos rfl, rdNum, hK, if_pos hf, if_neg h6, if_pos h0]
theorem rd_range {l : List UInt8} {K : Nat} {N : Int} (hK : fstB l = K) (hf : K < l.length) (h6 : ¬ 6 ≤ K) (h0 : ¬ (0 < K ∧ (l.getD K 0).toNat = 0)) (hN : unzig (valB (l.take (K + 1))) = N) (hB : isB N = false) : rd l 0 = (0, 2, l) := by
  rw [rd, if_pos rfl, rdNum, hK, if_pos hf, if_neg h6, if_neg h0, hN, hB]; rfl
theorem rd_ok {l : List UInt8} {K : Nat} {N : Int} (hK : fstB l = K) (hf : K < l.length) (h6 : ¬ 6 ≤ K) (h0 : ¬ (0 < K ∧ (l.getD K 0).toNat = 0)) (hN : unzig (valB (l.take (K + 1))) = N) (hB : isB N = true) : rd l 0 = (N, 0, l.drop (K + 1)) := by
  rw [rd, if_pos rfl, rdNum, hK, if_pos hf, if_neg h6, if_neg h0, hN, hB]; rfl
theorem index_is {A : Option Addr} {c : Nat} {l : List UInt8} {w : World} (hl : IsBy w A l) (hlen : l.length ≤ 70368744177664) {n : Int} (hn : idxB l = n) :
    Calls Try.prog 62 #[.slice A l.length c, .func (.func 63) #[] #[]] w fun e w2 => e = .returned (.int .i64 n) ∧ w = w2 := by
  rw [← hn]
  exact index_any A c l w hl hlen
theorem low7b {u : Nat} (h : u < 256) : bits .and .u8 (u : Int) 127 = ((u % 128 : Nat) : Int) := by
  show IntKind.wrap .u8 ((BitVec.ofInt 8 u &&& BitVec.ofInt 8 127).toNat : Int) = _
  have e : (BitVec.ofInt 8 (u : Int) &&& BitVec.ofInt 8 127).toNat = u % 128 := by
    rw [BitVec.toNat_and, BitVec.ofInt_natCast, BitVec.toNat_ofNat, Nat.mod_eq_of_lt (by omega), show (BitVec.ofInt 8 127).toNat = 2 ^ 7 - 1 by decide, Nat.and_two_pow_sub_one_eq_mod]
  rw [e, IntWalk.u8_in _ (by omega)]
theorem low1 {u : Nat} (h : u < 9223372036854775808) : bits .and .i64 (u : Int) 1 = ((u % 2 : Nat) : Int) := by
  show IntKind.wrap .i64 ((BitVec.ofInt 64 u &&& BitVec.ofInt 64 1).toNat : Int) = _
  have e : (BitVec.ofInt 64 (u : Int) &&& BitVec.ofInt 64 1).toNat = u % 2 := by
    rw [BitVec.toNat_and, BitVec.ofInt_natCast, BitVec.toNat_ofNat, Nat.mod_eq_of_lt (by omega), show (BitVec.ofInt 64 1).toNat = 2 ^ 1 - 1 by decide, Nat.and_two_pow_sub_one_eq_mod]
  rw [e, IntWalk.i64_in _ (by omega)]
theorem join7 {u x : Nat} (h : u < 4398046511104) (hx : x < 128) : bits .or .i64 ((u : Int) * 128) (x : Int) = ((x + 128 * u : Nat) : Int) := by
  show IntKind.wrap .i64 ((BitVec.ofInt 64 ((u : Int) * 128) ||| BitVec.ofInt 64 x).toNat : Int) = _
  have e : (BitVec.ofInt 64 ((u : Int) * 128) ||| BitVec.ofInt 64 (x : Int)).toNat = x + 128 * u := by
    rw [show (u : Int) * 128 = ((2 ^ 7 * u : Nat) : Int) by omega, BitVec.toNat_or, BitVec.ofInt_natCast, BitVec.ofInt_natCast, BitVec.toNat_ofNat, BitVec.toNat_ofNat, Nat.mod_eq_of_lt (by omega), Nat.mod_eq_of_lt (by omega), ← Nat.two_pow_add_eq_or_of_lt (by omega : x < 2 ^ 7)]
    omega
  rw [e, IntWalk.i64_in _ (by omega)]
theorem val_step {l : List UInt8} {i m : Nat} (h : i < m) (hm : m ≤ l.length) : valB ((l.take m).drop i) = (l.getD i 0).toNat % 128 + 128 * valB ((l.take m).drop (i + 1)) := by
  rw [List.drop_eq_getElem_cons (by simp; omega), valB]
  simp [List.getD, List.getElem?_eq_getElem (show i < l.length by omega)]
theorem is_is {n N : Int} (h : n = N) {b : Bool} (hB : isB N = b) (w : World) : Calls Try.prog 43 #[.int .i64 n] w fun e w' => e = .returned (.bool b) ∧ w = w' := by
  subst h
  rw [← hB]
  exact is_any _ _
theorem rd_store {w : World} {p b o c' : Nat} {l : List UInt8} {v : Value} {A' : Option Addr} {e : Int} {m : Nat} (h : rowAt w p = some (#[v, .int .i64 e], 112)) (hl : IsBy w (some ⟨b, o, none⟩) l) (n : Nat) (hb : b < p)
    (hA : n < l.length → A' = some ⟨b, o + n, none⟩) (hm : m = l.length - n) (hc : l.length - n ≤ c') (hA' : ∃ o', A' = some ⟨b, o', none⟩) : Rd (w.setCell ⟨p, 0, none⟩ (.slice A' m c')) p (l.drop n) e := by
  subst hm
  obtain ⟨o', ho'⟩ := hA'
  refine ⟨A', c', by rw [rowAt_setCell, if_pos rfl, h, List.length_drop]; rfl, fun i hi => ?_, by rw [List.length_drop]; exact hc, fun hn => (by rw [ho'] at hn; cases hn), fun x2 h2 => ?_⟩
  · have hd := hl.drop n (A' := some ⟨b, o + n, none⟩) (fun _ => by simp [Addr.add_lit])
    obtain ⟨b1, o1, g1, g2⟩ := hd i hi
    injection g1 with g1
    injection g1 with g3 g4
    subst g3 g4
    have hlen : n < l.length := by simp at hi; omega
    exact ⟨b, o + n, hA hlen, ((below_setCell' (Below.refl p w) (Nat.le_refl _)).cell (p := ⟨b, o + n + i, none⟩) hb).trans g2⟩
  · rw [ho'] at h2
    injection h2 with h2
    subst h2
    exact hb
set_option maxRecDepth 10000 in
set_option maxHeartbeats 20000000 in
theorem rnum_only {w : World} {p : Nat} {l : List UInt8} {e : Int} (h : Rd w p l e) (hlen : l.length ≤ 70368744177664) :
    Calls Try.prog 36 #[.pointer (some ⟨p, 0, none⟩)] w fun x w' => x = .returned (.int .i64 (rd l e).1) ∧ Rd w' p (rd l e).2.2 (rd l e).2.1 ∧ Only p w w' := by
  have HR := Lib.hid h
  obtain ⟨A, c, h1, h2, h3, h4, h5⟩ := h
  by_cases he : e = 0
  · subst he
    have d0 : w.cell? ⟨p, 0, none⟩ = some (.slice A l.length c) := by rw [cell_of_rowAt h1]; rfl
    have HL := Lib.hid h2
    have H1 := Lib.hid h1
    have hpl := rowAt_lt h1
    have H4 := Lib.hid h4
    clear h1 h2 h4
    by_cases hf : fstB l < l.length
    · obtain ⟨K, hK⟩ : ∃ K, fstB l = K := ⟨_, rfl⟩
      rw [hK] at hf
      have HI : Hid (idxB l = (K : Int)) := Lib.hid (by rw [idxB, hK, if_pos hf])
      have HK := Lib.hid hK
      have HF := Lib.hid hf
      clear hK
      by_cases h6 : 6 ≤ K
      · go_enter Try.func36, Try.ntmps36
        go_wp2_with (first | (go_at_call 61; refine (err_any HR.out).mono ?_; rintro e w' ⟨rfl, rfl⟩) | (go_at_call 62; refine (index_is HL.out hlen HI.out).mono ?_; rintro e w' ⟨rfl, rfl⟩))
        refine (fail_only 4 HR.out).mono ?_
        rintro e w1 ⟨rfl, hr, hb⟩
        have HR1 := Lib.hid hr
        have HB1 := Lib.hid hb
        clear hr hb
        go_wp2_with fail
        go_ret
        rw [show rd l 0 = (0, 4, l) from rd_long HK.out HF.out h6]
        exact ⟨rfl, HR1.out, HB1.out⟩
      · obtain ⟨x, hx⟩ : ∃ x, (l.getD K 0).toNat = x := ⟨_, rfl⟩
        obtain ⟨b, o, rfl, hc⟩ := HL.out K hf
        have dK : w.cell? ⟨b, o + K, none⟩ = some (.int .u8 (x : Int)) := by rw [← hx]; exact hc
        have HX := Lib.hid hx
        clear hc hx
        go_enter Try.func36, Try.ntmps36
        go_wp2_with (first | (go_at_call 61; refine (err_any HR.out).mono ?_; rintro e w' ⟨rfl, rfl⟩) | (go_at_call 62; refine (index_is HL.out hlen HI.out).mono ?_; rintro e w' ⟨rfl, rfl⟩))
        go_loop [4, 5] (fun u k => ∃ j : Nat, j ≤ K + 1 ∧ k = .int .i64 ((j : Int) - 1) ∧ u = .int .i64 (valB ((l.take (K + 1)).drop j) : Int)) (fun _ k => (intOf k + 1).toNat)
        case atStart => exact ⟨K + 1, Nat.le_refl _, congrArg (Value.int .i64) (by omega), by rw [List.drop_eq_nil_of_le (by simp; omega)]; rfl⟩
        case round =>
          obtain ⟨j, hj, rfl, rfl⟩ := hrel
          cases j with
          | zero =>
            obtain ⟨V, hV⟩ : ∃ V, valB (l.take (K + 1)) = V := ⟨_, rfl⟩
            have hV2 : V < 4398046511104 := by rw [← hV]; exact valB_small (by simp; omega)
            rw [List.drop_zero, hV]
            obtain ⟨N, hN⟩ : ∃ N, unzig V = N := ⟨_, rfl⟩
            have HN : Hid (unzig (valB (l.take (K + 1))) = N) := Lib.hid (by rw [hV]; exact hN)
            by_cases hp : V % 2 = 1
            · rw [unzig, if_pos hp] at hN
              have hp1 := low1 (u := V) (by omega)
              rw [hp] at hp1
              have HNE := Lib.hid hN
              have HE : Hid (-((V : Int) / 2) - 1 = N) := Lib.hid (by omega)
              clear hV hN
              by_cases hk0 : 0 < K
              · by_cases hx0 : x = 0
                · subst hx0
                  go_wp2_with fail
                  refine (fail_only 4 HR.out).mono ?_
                  rintro e w1 ⟨rfl, hr, hb⟩
                  have HR1 := Lib.hid hr
                  have HB1 := Lib.hid hb
                  clear hr hb
                  go_wp2_with fail
                  go_ret
                  rw [show rd l 0 = (0, 4, l) from (rd_zero HK.out HF.out h6 ⟨hk0, HX.out.trans rfl⟩)]
                  exact ⟨rfl, HR1.out, HB1.out⟩
                · have NZ : Hid (¬ (0 < K ∧ (l.getD K 0).toNat = 0)) := Lib.hid fun h => hx0 (HX.out.symm.trans h.2)
                  have hx1 : decide ((x : Int) = 0) = false := decide_eq_false (by omega)
                  have hx2 : ((x : Int) == 0) = false := beq_eq_false_iff_ne.2 (by omega)
                  cases hB : isB N
                  · have hB2 := hB
                    go_wp2_with (go_at_call 43; refine (is_is (by have := HNE.out; omega) hB _).mono ?_; rintro e w' ⟨rfl, rfl⟩)
                    refine (fail_only 2 HR.out).mono ?_
                    rintro e w1 ⟨rfl, hr, hb⟩
                    have HR1 := Lib.hid hr
                    have HB1 := Lib.hid hb
                    clear hr hb
                    go_wp2_with fail
                    go_ret
                    rw [show rd l 0 = (0, 2, l) from rd_range HK.out HF.out h6 NZ.out HN.out hB]
                    exact ⟨rfl, HR1.out, HB1.out⟩
                  · have hB2 := hB
                    go_wp2_with (go_at_call 43; refine (is_is (by have := HNE.out; omega) hB _).mono ?_; rintro e w' ⟨rfl, rfl⟩)
                    go_wp2_with fail
                    refine region_quiet_tail 20 (by kernel_rfl) (by kernel_rfl) ?_
                    simp only [List.take_succ_cons, List.take_zero, List.drop_succ_cons, List.drop_zero]
                    repeat (go_big_quiet_step (fail))
                    refine wpQuiet_nil ?_
                    intro w3 hb3
                    have e0 : w3.cell? ⟨p, 0, none⟩ = some (.slice (some ⟨b, o, none⟩) l.length c) := (hb3.cell (p := ⟨p, 0, none⟩) hpl).trans d0
                    have H3 := Lib.hid (rowKeep hb3 H1.out)
                    have f0 : w3.frozen? ⟨p, 0, none⟩ = false := frozen_of_rowAt H3.out 0
                    have HB3 := Lib.hid hb3
                    clear hb3
                    have HL3 := Lib.hid (HL.out.below HB3.out)
                    have HO := Lib.hid (show rd l 0 = (N, 0, l.drop (K + 1)) from rd_ok HK.out HF.out h6 NZ.out HN.out hB)
                    go_wp2_with fail
                    all_goals
                      go_ret
                      rw [HO.out]
                      refine ⟨?z1, ?z2, ?z3⟩
                      case z1 => exact congrArg (fun n => Ending.returned (Value.int .i64 n)) HE.out
                      case z3 => exact (Only.of_below HB3.out (Nat.le_of_lt hpl)).trans (Only.setCell _)
                      case z2 => exact rd_store (b := b) (o := o) H3.out HL3.out (K + 1) (h5 _ rfl) (fun h => (by first | rfl | omega)) (by omega) (by omega) ⟨_, rfl⟩
              · have NZ : Hid (¬ (0 < K ∧ (l.getD K 0).toNat = 0)) := Lib.hid fun h => hk0 h.1
                have hk1 : decide ((0 : Int) < (K : Int)) = false := decide_eq_false (by omega)
                have hk2 : decide (0 < K) = false := decide_eq_false hk0
                have hk3 : K = 0 := by omega
                have HK3 := Lib.hid hk3
                clear hk3
                cases hB : isB N
                · have hB2 := hB
                  go_wp2_with (go_at_call 43; refine (is_is (by have := HNE.out; omega) hB _).mono ?_; rintro e w' ⟨rfl, rfl⟩)
                  refine (fail_only 2 HR.out).mono ?_
                  rintro e w1 ⟨rfl, hr, hb⟩
                  have HR1 := Lib.hid hr
                  have HB1 := Lib.hid hb
                  clear hr hb
                  go_wp2_with fail
                  go_ret
                  rw [show rd l 0 = (0, 2, l) from rd_range HK.out HF.out h6 NZ.out HN.out hB]
                  exact ⟨rfl, HR1.out, HB1.out⟩
                · have hB2 := hB
                  go_wp2_with (go_at_call 43; refine (is_is (by have := HNE.out; omega) hB _).mono ?_; rintro e w' ⟨rfl, rfl⟩)
                  go_wp2_with fail
                  refine region_quiet_tail 20 (by kernel_rfl) (by kernel_rfl) ?_
                  simp only [List.take_succ_cons, List.take_zero, List.drop_succ_cons, List.drop_zero]
                  repeat (go_big_quiet_step (fail))
                  refine wpQuiet_nil ?_
                  intro w3 hb3
                  have e0 : w3.cell? ⟨p, 0, none⟩ = some (.slice (some ⟨b, o, none⟩) l.length c) := (hb3.cell (p := ⟨p, 0, none⟩) hpl).trans d0
                  have H3 := Lib.hid (rowKeep hb3 H1.out)
                  have f0 : w3.frozen? ⟨p, 0, none⟩ = false := frozen_of_rowAt H3.out 0
                  have HB3 := Lib.hid hb3
                  clear hb3
                  have HL3 := Lib.hid (HL.out.below HB3.out)
                  have HO := Lib.hid (show rd l 0 = (N, 0, l.drop (K + 1)) from rd_ok HK.out HF.out h6 NZ.out HN.out hB)
                  go_wp2_with fail
                  all_goals
                    go_ret
                    rw [HO.out]
                    refine ⟨?z1, ?z2, ?z3⟩
                    case z1 => exact congrArg (fun n => Ending.returned (Value.int .i64 n)) HE.out
                    case z3 => exact (Only.of_below HB3.out (Nat.le_of_lt hpl)).trans (Only.setCell _)
                    case z2 => exact rd_store (b := b) (o := o) H3.out HL3.out (K + 1) (h5 _ rfl) (fun h => (by first | rfl | omega)) (by omega) (by omega) ⟨_, rfl⟩
            · rw [unzig, if_neg hp] at hN
              have hp1 := low1 (u := V) (by omega)
              rw [show V % 2 = 0 by omega] at hp1
              have HNE := Lib.hid hN
              have HE : Hid ((V : Int) / 2 = N) := Lib.hid (by omega)
              clear hV hN
              by_cases hk0 : 0 < K
              · by_cases hx0 : x = 0
                · subst hx0
                  go_wp2_with fail
                  refine (fail_only 4 HR.out).mono ?_
                  rintro e w1 ⟨rfl, hr, hb⟩
                  have HR1 := Lib.hid hr
                  have HB1 := Lib.hid hb
                  clear hr hb
                  go_wp2_with fail
                  go_ret
                  rw [show rd l 0 = (0, 4, l) from (rd_zero HK.out HF.out h6 ⟨hk0, HX.out.trans rfl⟩)]
                  exact ⟨rfl, HR1.out, HB1.out⟩
                · have NZ : Hid (¬ (0 < K ∧ (l.getD K 0).toNat = 0)) := Lib.hid fun h => hx0 (HX.out.symm.trans h.2)
                  have hx1 : decide ((x : Int) = 0) = false := decide_eq_false (by omega)
                  have hx2 : ((x : Int) == 0) = false := beq_eq_false_iff_ne.2 (by omega)
                  cases hB : isB N
                  · have hB2 := hB
                    go_wp2_with (go_at_call 43; refine (is_is (by have := HNE.out; omega) hB _).mono ?_; rintro e w' ⟨rfl, rfl⟩)
                    refine (fail_only 2 HR.out).mono ?_
                    rintro e w1 ⟨rfl, hr, hb⟩
                    have HR1 := Lib.hid hr
                    have HB1 := Lib.hid hb
                    clear hr hb
                    go_wp2_with fail
                    go_ret
                    rw [show rd l 0 = (0, 2, l) from rd_range HK.out HF.out h6 NZ.out HN.out hB]
                    exact ⟨rfl, HR1.out, HB1.out⟩
                  · have hB2 := hB
                    go_wp2_with (go_at_call 43; refine (is_is (by have := HNE.out; omega) hB _).mono ?_; rintro e w' ⟨rfl, rfl⟩)
                    go_wp2_with fail
                    refine region_quiet_tail 20 (by kernel_rfl) (by kernel_rfl) ?_
                    simp only [List.take_succ_cons, List.take_zero, List.drop_succ_cons, List.drop_zero]
                    repeat (go_big_quiet_step (fail))
                    refine wpQuiet_nil ?_
                    intro w3 hb3
                    have e0 : w3.cell? ⟨p, 0, none⟩ = some (.slice (some ⟨b, o, none⟩) l.length c) := (hb3.cell (p := ⟨p, 0, none⟩) hpl).trans d0
                    have H3 := Lib.hid (rowKeep hb3 H1.out)
                    have f0 : w3.frozen? ⟨p, 0, none⟩ = false := frozen_of_rowAt H3.out 0
                    have HB3 := Lib.hid hb3
                    clear hb3
                    have HL3 := Lib.hid (HL.out.below HB3.out)
                    have HO := Lib.hid (show rd l 0 = (N, 0, l.drop (K + 1)) from rd_ok HK.out HF.out h6 NZ.out HN.out hB)
                    go_wp2_with fail
                    all_goals
                      go_ret
                      rw [HO.out]
                      refine ⟨?z1, ?z2, ?z3⟩
                      case z1 => exact congrArg (fun n => Ending.returned (Value.int .i64 n)) HE.out
                      case z3 => exact (Only.of_below HB3.out (Nat.le_of_lt hpl)).trans (Only.setCell _)
                      case z2 => exact rd_store (b := b) (o := o) H3.out HL3.out (K + 1) (h5 _ rfl) (fun h => (by first | rfl | omega)) (by omega) (by omega) ⟨_, rfl⟩
              · have NZ : Hid (¬ (0 < K ∧ (l.getD K 0).toNat = 0)) := Lib.hid fun h => hk0 h.1
                have hk1 : decide ((0 : Int) < (K : Int)) = false := decide_eq_false (by omega)
                have hk2 : decide (0 < K) = false := decide_eq_false hk0
                have hk3 : K = 0 := by omega
                have HK3 := Lib.hid hk3
                clear hk3
                cases hB : isB N
                · have hB2 := hB
                  go_wp2_with (go_at_call 43; refine (is_is (by have := HNE.out; omega) hB _).mono ?_; rintro e w' ⟨rfl, rfl⟩)
                  refine (fail_only 2 HR.out).mono ?_
                  rintro e w1 ⟨rfl, hr, hb⟩
                  have HR1 := Lib.hid hr
                  have HB1 := Lib.hid hb
                  clear hr hb
                  go_wp2_with fail
                  go_ret
                  rw [show rd l 0 = (0, 2, l) from rd_range HK.out HF.out h6 NZ.out HN.out hB]
                  exact ⟨rfl, HR1.out, HB1.out⟩
                · have hB2 := hB
                  go_wp2_with (go_at_call 43; refine (is_is (by have := HNE.out; omega) hB _).mono ?_; rintro e w' ⟨rfl, rfl⟩)
                  go_wp2_with fail
                  refine region_quiet_tail 20 (by kernel_rfl) (by kernel_rfl) ?_
                  simp only [List.take_succ_cons, List.take_zero, List.drop_succ_cons, List.drop_zero]
                  repeat (go_big_quiet_step (fail))
                  refine wpQuiet_nil ?_
                  intro w3 hb3
                  have e0 : w3.cell? ⟨p, 0, none⟩ = some (.slice (some ⟨b, o, none⟩) l.length c) := (hb3.cell (p := ⟨p, 0, none⟩) hpl).trans d0
                  have H3 := Lib.hid (rowKeep hb3 H1.out)
                  have f0 : w3.frozen? ⟨p, 0, none⟩ = false := frozen_of_rowAt H3.out 0
                  have HB3 := Lib.hid hb3
                  clear hb3
                  have HL3 := Lib.hid (HL.out.below HB3.out)
                  have HO := Lib.hid (show rd l 0 = (N, 0, l.drop (K + 1)) from rd_ok HK.out HF.out h6 NZ.out HN.out hB)
                  go_wp2_with fail
                  all_goals
                    go_ret
                    rw [HO.out]
                    refine ⟨?z1, ?z2, ?z3⟩
                    case z1 => exact congrArg (fun n => Ending.returned (Value.int .i64 n)) HE.out
                    case z3 => exact (Only.of_below HB3.out (Nat.le_of_lt hpl)).trans (Only.setCell _)
                    case z2 => exact rd_store (b := b) (o := o) H3.out HL3.out (K + 1) (h5 _ rfl) (fun h => (by first | rfl | omega)) (by omega) (by omega) ⟨_, rfl⟩
          | succ i =>
            have hi : i < l.length := by omega
            obtain ⟨b', o', hbo, hc⟩ := HL.out i hi
            injection hbo with hbo
            injection hbo with hb1 hb2
            subst hb1 hb2
            have hstep := val_step (l := l) (i := i) (m := K + 1) (by omega) (by omega)
            have hlt : valB ((l.take (K + 1)).drop (i + 1)) < 4398046511104 := valB_small (by simp; omega)
            have hlt2 : valB ((l.take (K + 1)).drop i) < 4398046511104 := valB_small (by simp; omega)
            have dI : w.cell? ⟨b, o + i, none⟩ = some (.int .u8 ((l.getD i 0).toNat : Int)) := hc
            have hx256 : (l.getD i 0).toNat < 256 := (l.getD i 0).toNat_lt
            clear hc
            generalize (l.getD i 0).toNat = y at *
            generalize valB ((l.take (K + 1)).drop (i + 1)) = U at *
            have HS := Lib.hid hstep
            clear hstep
            go_wp2_with fail
            go_round
            case rel =>
              refine ⟨i, by omega, ?_, ?_⟩
              · rfl
              · refine congrArg (Value.int .i64) ?_
                rw [low7b hx256, IntWalk.wrap64_in _ (by omega), join7 hlt (Nat.mod_lt _ (by decide)), HS.out]
            case measure => simp [intOf]
    · have HF := Lib.hid hf
      have HI : Hid (idxB l = -1) := Lib.hid (by rw [idxB, if_neg hf])
      clear hf
      by_cases h6 : 6 < l.length
      · have h6i : (6 : Int) < (l.length : Int) := by omega
        go_enter Try.func36, Try.ntmps36
        go_wp2_with (first | (go_at_call 61; refine (err_any HR.out).mono ?_; rintro e w' ⟨rfl, rfl⟩) | (go_at_call 62; refine (index_is HL.out hlen HI.out).mono ?_; rintro e w' ⟨rfl, rfl⟩))
        refine (fail_only 4 HR.out).mono ?_
        rintro e w1 ⟨rfl, hr, hb⟩
        have HR1 := Lib.hid hr
        have HB1 := Lib.hid hb
        clear hr hb
        go_wp2_with fail
        go_ret
        rw [show rd l 0 = (0, 4, l) from rd_none HF.out h6]
        exact ⟨rfl, HR1.out, HB1.out⟩
      · have h6i : decide ((6 : Int) < (l.length : Int)) = false := decide_eq_false (by omega)
        go_enter Try.func36, Try.ntmps36
        go_wp2_with (first | (go_at_call 61; refine (err_any HR.out).mono ?_; rintro e w' ⟨rfl, rfl⟩) | (go_at_call 62; refine (index_is HL.out hlen HI.out).mono ?_; rintro e w' ⟨rfl, rfl⟩))
        refine (fail_only 3 HR.out).mono ?_
        rintro e w1 ⟨rfl, hr, hb⟩
        have HR1 := Lib.hid hr
        have HB1 := Lib.hid hb
        clear hr hb
        go_wp2_with fail
        go_ret
        rw [show rd l 0 = (0, 3, l) from rd_short HF.out h6]
        exact ⟨rfl, HR1.out, HB1.out⟩
  · have e1 : (e == 0) = false := beq_eq_false_iff_ne.2 he
    have e2 : decide (e = 0) = false := decide_eq_false he
    rw [rd_err he]
    clear h1 h2 h3 h4 h5
    go_enter Try.func36, Try.ntmps36
    go_wp2_with (go_at_call 61; refine (err_any HR.out).mono ?_; rintro e w' ⟨rfl, rfl⟩)
    go_ret
    exact ⟨rfl, HR.out, Only.refl _ _⟩
theorem rnum_any {w : World} {p : Nat} {l : List UInt8} {e : Int} (h : Rd w p l e) (hlen : l.length ≤ 70368744177664) :
    Calls Try.prog 36 #[.pointer (some ⟨p, 0, none⟩)] w fun x w' => x = .returned (.int .i64 (rd l e).1) ∧ Rd w' p (rd l e).2.2 (rd l e).2.1 ∧ Below p w w' :=
  (rnum_only h hlen).mono fun _ _ ⟨h1, h2, h3⟩ => ⟨h1, h2, h3.2.1⟩
end Go.Proofs.Ytpjichkigccfnaa
