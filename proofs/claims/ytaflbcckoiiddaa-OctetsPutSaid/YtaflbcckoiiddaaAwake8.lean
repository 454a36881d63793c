/-
  Layer 8 (octets): what is awake.
-/
import Derived.Test.YtaflbcckoiiddaaOctEnd
namespace Go.Proofs.Ytaflbcckoiiddaa
open Go.RowKit
set_option linter.unusedSimpArgs false
/-- The text of bytes. -/
def strB (l : List UInt8) : ByteArray := ⟨l.toArray⟩
theorem strB_inj {l r : List UInt8} : strB l = strB r ↔ l = r := by
  constructor
  · intro h
    have := congrArg (fun b : ByteArray => b.data.toList) h
    simpa [strB] using this
  · intro h; rw [h]
theorem conv_bytes {w : World} {A : Option Addr} {c : Nat} {l : List UInt8} (h : IsBy w A l) : (convert 22 9 (.slice A l.length c)).run Try.prog w = .ok (.string (strB l)) w := by
  cases A with
  | none =>
    have : l = [] := by
      cases l with
      | nil => rfl
      | cons y ys => obtain ⟨b, o, h1, _⟩ := h 0 (by simp); cases h1
    subst this
    rw [List.length_nil, run_convert_bytes_string w _ _ _ none 0 c Try.underlying22 Try.underlying5 Try.underlying9]
    rfl
  | some a =>
    refine run_convert_bytes_back w _ _ _ a c l Try.underlying22 Try.underlying5 Try.underlying9 fun j hj => ?_
    obtain ⟨b, o, h1, h2⟩ := h j hj
    injection h1 with h1
    subst h1
    rw [Addr.add_lit, h2]
    simp [bc, List.getD, List.getElem?_eq_getElem hj]
def aw8 : List UInt8 := [byt 1, byt 128, byt 1]
theorem aw8_1 : numB (-1) = [byt 1] := by
  rw [numB, show zig (-1) = 1 by decide, uB_less (by decide)]
theorem aw8_2 : [byt 1] ++ numB 64 = aw8 := by
  rw [numB, show zig 64 = 128 by decide, uB_more (by decide), uB_less (by decide)]; rfl
theorem new_is (A : Option Addr) (c : Nat) (l : List UInt8) (w : World) (hl : IsBy w A l) (hA : A = none → c = 0) (hlen : l.length ≤ 70368744177664) {n : Nat} (hn : n = l.length) :
    Calls Try.prog 9 #[.slice A n c] w fun e w' => ∃ p, e = .returned (.pointer (some ⟨p, 0, none⟩)) ∧ Rd w' p l 0 ∧ w.heap.size ≤ p ∧ Below w.heap.size w w' := by
  subst hn
  exact new_any A c l w hl hA hlen
theorem rnum_is {w : World} {p : Nat} {l l' : List UInt8} {e n e' : Int} (h : Rd w p l e) (hlen : l.length ≤ 70368744177664) (hr : rd l e = (n, e', l')) :
    Calls Try.prog 10 #[.pointer (some ⟨p, 0, none⟩)] w fun x w' => x = .returned (.int .i64 n) ∧ Rd w' p l' e' ∧ Below p w w' := by
  have := rnum_any h hlen
  rwa [hr] at this
theorem end_is {w : World} {p : Nat} {l : List UInt8} {e n : Int} (h : Rd w p l e) (hr : rdEnd l e = n) :
    Calls Try.prog 13 #[.pointer (some ⟨p, 0, none⟩)] w fun x w' => x = .returned (.int .i64 n) ∧ w = w' := by
  rw [← hr]
  exact end_any h
theorem awake8 (w : World) : Calls Try.prog 8 #[] w fun e w' => e = .returned (.bool true) ∧ Below w.heap.size w w' := by
  go_enter Try.func8, Try.ntmps8
  go_wp2_with fail
  refine (number_any none 0 [] (-1) w (IsBy.nil _ _) (fun _ => rfl) (by decide)).mono ?_
  rintro e w1 ⟨v, rfl, hown, hb1⟩
  rw [aw8_1] at hown
  obtain ⟨A1, c1, rfl, i1, i2, _⟩ := hown.isBy
  have I1 := Lib.hid i1
  have HB1 := Lib.hid hb1
  clear hown hb1 i1
  go_wp2_with fail
  refine (number_any A1 c1 [byt 1] 64 w1 I1.out i2 (by decide)).mono ?_
  rintro e w2 ⟨v, rfl, hown, hb2⟩
  rw [aw8_2] at hown
  obtain ⟨A2, c2, rfl, i1, i3, _⟩ := hown.isBy
  have I2 := Lib.hid i1
  have HB2 := Lib.hid (bthen HB1.out hb2)
  clear hown hb2 i1 I1 i2 HB1
  go_wp2_with fail
  refine (new_any A2 c2 aw8 w2 I2.out i3 (by decide)).mono ?_
  rintro e w3 ⟨p, rfl, hr, hp, hb3⟩
  have hcv : (convert 22 9 (.slice A2 aw8.length c2)).run Try.prog w3 = .ok (.string ⟨#[1, 128, 1]⟩) w3 := conv_bytes (I2.out.below hb3)
  have HR := Lib.hid hr
  have HB3 := Lib.hid (bthen HB2.out hb3)
  have hp2 : w.heap.size ≤ p := Nat.le_trans HB2.out.size hp
  clear hr hb3 I2 HB2 hp
  go_wp2_with fail
  refine (rnum_is (n := -1) (e' := 0) (l' := [byt 128, byt 1]) HR.out (by decide) (by decide +kernel)).mono ?_
  rintro e w4 ⟨rfl, hr, hb4⟩
  have HR4 := Lib.hid hr
  have HB4 := Lib.hid (HB3.out.trans (hb4.mono hp2))
  clear hr hb4 HB3 HR hcv
  go_wp2_with fail
  refine (rnum_is (n := 64) (e' := 0) (l' := []) HR4.out (by decide) (by decide +kernel)).mono ?_
  rintro e w5 ⟨rfl, hr, hb5⟩
  have HR5 := Lib.hid hr
  have HB5 := Lib.hid (HB4.out.trans (hb5.mono hp2))
  clear hr hb5 HB4 HR4
  go_wp2_with fail
  refine (end_is (n := 0) HR5.out (by decide)).mono ?_
  rintro e _ ⟨rfl, rfl⟩
  go_wp2_with fail
  go_ret
  exact ⟨rfl, HB5.out⟩
end Go.Proofs.Ytaflbcckoiiddaa
