/-
  Layer 8 (octets): the reader.
-/
import Derived.Test.YtpjichkigccfnaaOctNum
namespace Go.Proofs.Ytpjichkigccfnaa
set_option maxRecDepth 20000
open Go.RowKit
set_option linter.unusedSimpArgs false
/-- Block p is a reader of the bytes l, with the error e. -/
def Rd (w : World) (p : Nat) (l : List UInt8) (e : Int) : Prop :=
  ∃ A c, rowAt w p = some (#[.slice A l.length c, .int .i64 e], 112) ∧ IsBy w A l ∧ l.length ≤ c ∧ (A = none → c = 0) ∧ ∀ x, A = some x → x.block < p
theorem Rd.lt {w : World} {p : Nat} {l : List UInt8} {e : Int} (h : Rd w p l e) : p < w.heap.size := by
  obtain ⟨A, c, h1, _⟩ := h
  exact rowAt_lt h1
theorem Rd.below {w w' : World} {p B : Nat} {l : List UInt8} {e : Int} (h : Rd w p l e) (hb : Below B w w') (hp : p < B) : Rd w' p l e := by
  obtain ⟨A, c, h1, h2, h3, h4, h5⟩ := h
  refine ⟨A, c, (rowAt_below hb p hp).trans h1, fun i hi => ?_, h3, h4, h5⟩
  obtain ⟨b, o, g1, g2⟩ := h2 i hi
  have : b < p := h5 _ g1
  exact ⟨b, o, g1, (hb.cell (p := ⟨b, o + i, none⟩) (by show b < B; omega)).trans g2⟩
theorem err_any {w : World} {p : Nat} {l : List UInt8} {e : Int} (h : Rd w p l e) :
    Calls Try.prog 61 #[.pointer (some ⟨p, 0, none⟩)] w fun x w' => x = .returned (.int .i64 e) ∧ w = w' := by
  obtain ⟨A, c, h1, _⟩ := h
  have d1 : w.cell? ⟨p, 1, none⟩ = some (.int .i64 e) := by rw [cell_of_rowAt h1]; rfl
  clear h1
  go_enter Try.func61, Try.ntmps61
  go_wp2_with fail
  go_ret
  exact ⟨rfl, rfl⟩
theorem fail_only {w : World} {p : Nat} {l : List UInt8} {e : Int} (k : Int) (h : Rd w p l e) :
    Calls Try.prog 64 #[.pointer (some ⟨p, 0, none⟩), .int .i64 k] w fun x w' => x = .returned (.int .i64 0) ∧ Rd w' p l k ∧ Only p w w' := by
  obtain ⟨A, c, h1, h2, h3, h4, h5⟩ := h
  have d1 : w.cell? ⟨p, 1, none⟩ = some (.int .i64 e) := by rw [cell_of_rowAt h1]; rfl
  have d2 : w.frozen? ⟨p, 1, none⟩ = false := frozen_of_rowAt h1 1
  have H1 := Lib.hid h1
  have H2 := Lib.hid h2
  clear h1 h2
  go_enter Try.func64, Try.ntmps64
  go_wp2_with fail
  go_ret
  refine ⟨rfl, ⟨A, c, by rw [rowAt_setCell, if_pos rfl, H1.out]; rfl, fun i hi => ?_, h3, h4, h5⟩, Only.setCell _⟩
  obtain ⟨b, o, g1, g2⟩ := H2.out i hi
  have : b < p := h5 _ g1
  exact ⟨b, o, g1, ((below_setCell' (Below.refl p w) (Nat.le_refl _)).cell (p := ⟨b, o + i, none⟩) this).trans g2⟩
theorem fail_any {w : World} {p : Nat} {l : List UInt8} {e : Int} (k : Int) (h : Rd w p l e) :
    Calls Try.prog 64 #[.pointer (some ⟨p, 0, none⟩), .int .i64 k] w fun x w' => x = .returned (.int .i64 0) ∧ Rd w' p l k ∧ Below p w w' :=
  (fail_only k h).mono fun _ _ ⟨h1, h2, h3⟩ => ⟨h1, h2, h3.2.1⟩
theorem new_any (A : Option Addr) (c : Nat) (l : List UInt8) (w : World) (hl : IsBy w A l) (hA : A = none → c = 0) (hlen : l.length ≤ 70368744177664) :
    Calls Try.prog 35 #[.slice A l.length c] w fun e w' => ∃ p, e = .returned (.pointer (some ⟨p, 0, none⟩)) ∧ Rd w' p l 0 ∧ w.heap.size ≤ p ∧ Below w.heap.size w w' := by
  go_enter Try.func35, Try.ntmps35
  go_wp2_with fail
  refine (clone_any A c l _ hl hA hlen).mono ?_
  rintro e w1 ⟨v, rfl, hown, hb⟩
  obtain ⟨A', c', rfl, i1, i2, i3, i4⟩ := hown.isBy
  have HI := Lib.hid i1
  have HB := Lib.hid hb
  have H4 := Lib.hid i4
  clear hl hA hown hb i1 i4
  go_wp2_with fail
  go_ret
  refine ⟨w1.heap.size, rfl, ⟨A', c', rowAt_alloc_at _ _ _ _ rfl, HI.out.alloc _, i3, i2, fun x h => (H4.out x h).2⟩, HB.out.size, below_allocS HB.out _⟩
/-- Where the first byte below 128 stands. -/
def fstB : List UInt8 → Nat
  | [] => 0
  | b :: t => if b.toNat < 128 then 0 else fstB t + 1
theorem fstB_le : ∀ l, fstB l ≤ l.length
  | [] => Nat.le_refl _
  | b :: t => by
    have := fstB_le t
    rw [fstB, List.length_cons]
    split <;> omega
theorem fstB_is : ∀ (l : List UInt8) (k : Nat), k ≤ l.length → (∀ i, i < k → 128 ≤ (l.getD i 0).toNat) → (k = l.length ∨ (l.getD k 0).toNat < 128) → fstB l = k
  | [], k, h1, _, _ => by simp at h1; rw [h1]; rfl
  | b :: t, 0, _, _, h3 => by
    rcases h3 with h | h
    · simp at h
    · rw [fstB, if_pos (by simpa using h)]
  | b :: t, k + 1, h1, h2, h3 => by
    have hb := h2 0 (by omega)
    rw [fstB, if_neg (by simp at hb; omega), fstB_is t k (by simpa using h1) (fun i hi => by simpa using h2 (i + 1) (by omega)) (by simpa using h3)]
theorem low_any (n : Int) (w : World) : Calls Try.prog 63 #[.int .u8 n] w fun e w' => e = .returned (.bool (decide (n < 128))) ∧ w = w' := by
  go_enter Try.func63, Try.ntmps63
  go_wp2
  go_ret
  exact ⟨rfl, rfl⟩
/-- Where it stands, or -1. -/
def idxB (l : List UInt8) : Int := if fstB l < l.length then (fstB l : Int) else -1
theorem index_any (A : Option Addr) (c : Nat) (l : List UInt8) (w : World) (hl : IsBy w A l) (hlen : l.length ≤ 70368744177664) :
    Calls Try.prog 62 #[.slice A l.length c, .func (.func 63) #[] #[]] w fun e w' => e = .returned (.int .i64 (idxB l)) ∧ w = w' := by
  have HL := Lib.hid hl
  clear hl
  go_enter Try.func62, Try.ntmps62
  go_wp2_with fail
  go_loop [8] (fun i => ∃ k : Nat, k ≤ l.length ∧ i = .int .i64 k ∧ ∀ j, j < k → 128 ≤ (l.getD j 0).toNat) (fun i => l.length - (intOf i).toNat)
  case atStart => exact ⟨0, Nat.zero_le _, rfl, fun j hj => by omega⟩
  case round =>
    obtain ⟨k, hk, rfl, hall⟩ := hrel
    have HA := Lib.hid hall
    clear hall
    by_cases hlt : k < l.length
    · obtain ⟨b, o, rfl, hc⟩ := HL.out k hlt
      have hc' : w.cell? ⟨b, o + k, none⟩ = some (.int .u8 ((l.getD k 0).toNat : Int)) := hc
      clear hc
      generalize hx : (l.getD k 0).toNat = x at hc'
      by_cases h1 : x < 128
      · have h2 : (x : Int) < 128 := by omega
        go_wp2_with (go_at_call 63; refine (low_any _ _).mono ?_; rintro e w' ⟨rfl, rfl⟩)
        go_ret
        exact ⟨by rw [idxB, fstB_is l k hk HA.out (Or.inr (by omega)), if_pos hlt]; rfl, rfl⟩
      · have h2 : decide ((x : Int) < 128) = false := decide_eq_false (by omega)
        have h3 := Lib.hid h1
        clear h1
        have HX := Lib.hid hx
        clear hx
        go_wp2_with (go_at_call 63; refine (low_any _ _).mono ?_; rintro e w' ⟨rfl, rfl⟩)
        go_round
        case rel =>
          refine ⟨k + 1, by omega, by go_num, fun j hj => ?_⟩
          by_cases hjk : j = k
          · have := h3.out; rw [hjk, HX.out]; omega
          · exact HA.out j (by omega)
        case measure => simp [intOf]; omega
    · have hf : idxB l = -1 := by rw [idxB, fstB_is l k hk HA.out (Or.inl (by omega)), if_neg hlt]
      have HF := Lib.hid hf
      clear hf HA
      go_wp2
      go_ret
      exact ⟨by rw [HF.out]; rfl, rfl⟩
end Go.Proofs.Ytpjichkigccfnaa
