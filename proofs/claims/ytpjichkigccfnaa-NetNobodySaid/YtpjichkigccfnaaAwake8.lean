/-
  Layer 8 (octets): what is awake.
-/
import Derived.Test.YtpjichkigccfnaaOctEnd
namespace Go.Proofs.Ytpjichkigccfnaa
set_option maxRecDepth 20000
open Go.RowKit
set_option linter.unusedSimpArgs false
/-- The text of bytes. -/
def strB (l : List UInt8) : ByteArray := ⟨l.toArray⟩
theorem strB_inj {l r : List UInt8} : strB l = strB r ↔ l = r := by
  constructor
  · intro h
    have := congrArg (fun b : ByteArray => b.data.toList) h
    simpa [strB] using this
  · intro h; rw [h]
theorem conv_bytes {w : World} {A : Option Addr} {c : Nat} {l : List UInt8} (h : IsBy w A l) : (convert 29 9 (.slice A l.length c)).run Try.prog w = .ok (.string (strB l)) w := by
  cases A with
  | none =>
    have : l = [] := by
      cases l with
      | nil => rfl
      | cons y ys => obtain ⟨b, o, h1, _⟩ := h 0 (by simp); cases h1
    subst this
    rw [List.length_nil, run_convert_bytes_string w _ _ _ none 0 c Try.underlying29 Try.underlying5 Try.underlying9]
    rfl
  | some a =>
    refine run_convert_bytes_back w _ _ _ a c l Try.underlying29 Try.underlying5 Try.underlying9 fun j hj => ?_
    obtain ⟨b, o, h1, h2⟩ := h j hj
    injection h1 with h1
    subst h1
    rw [Addr.add_lit, h2]
    simp [bc, List.getD, List.getElem?_eq_getElem hj]
def aw8 : List UInt8 := [byt 1, byt 128, byt 1]
theorem aw8_1 : numB (-1) = [byt 1] := by
  rw [numB, show zig (-1) = 1 by decide, uB_less (by decide)]
theorem aw8_2 : [byt 1] ++ numB 64 = aw8 := by
  rw [numB, show zig 64 = 128 by decide, uB_more (by decide), uB_less (by decide)]; rfl
theorem new_is (A : Option Addr) (c : Nat) (l : List UInt8) (w : World) (hl : IsBy w A l) (hA : A = none → c = 0) (hlen : l.length ≤ 70368744177664) {n : Nat} (hn : n = l.length) :
    Calls Try.prog 35 #[.slice A n c] w fun e w' => ∃ p, e = .returned (.pointer (some ⟨p, 0, none⟩)) ∧ Rd w' p l 0 ∧ w.heap.size ≤ p ∧ Below w.heap.size w w' := by
  subst hn
  exact new_any A c l w hl hA hlen
theorem rnum_is {w : World} {p : Nat} {l l' : List UInt8} {e n e' : Int} (h : Rd w p l e) (hlen : l.length ≤ 70368744177664) (hr : rd l e = (n, e', l')) :
    Calls Try.prog 36 #[.pointer (some ⟨p, 0, none⟩)] w fun x w' => x = .returned (.int .i64 n) ∧ Rd w' p l' e' ∧ Below p w w' := by
  have := rnum_any h hlen
  rwa [hr] at this
theorem rnum_iso {w : World} {p : Nat} {l l' : List UInt8} {e n e' : Int} (h : Rd w p l e) (hlen : l.length ≤ 70368744177664) (hr : rd l e = (n, e', l')) :
    Calls Try.prog 36 #[.pointer (some ⟨p, 0, none⟩)] w fun x w' => x = .returned (.int .i64 n) ∧ Rd w' p l' e' ∧ Only p w w' := by
  have := rnum_only h hlen
  rwa [hr] at this
theorem end_is {w : World} {p : Nat} {l : List UInt8} {e n : Int} (h : Rd w p l e) (hr : rdEnd l e = n) :
    Calls Try.prog 40 #[.pointer (some ⟨p, 0, none⟩)] w fun x w' => x = .returned (.int .i64 n) ∧ w = w' := by
  rw [← hr]
  exact end_any h
end Go.Proofs.Ytpjichkigccfnaa
