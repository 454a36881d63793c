/-
  Layer 8 (octets): the reader's Count, Text and End.
-/
import Derived.Test.YtpjichkigccfnaaOctRNum
namespace Go.Proofs.Ytpjichkigccfnaa
set_option maxRecDepth 20000
open Go.RowKit
set_option linter.unusedSimpArgs false
attribute [local go_sem] rowAt_setRow rowAt_setCell Later.cell Later.frozen
/-- What End tells. -/
def rdEnd (l : List UInt8) (e : Int) : Int := if e = 0 then (if 0 < l.length then 5 else 0) else e
theorem end_any {w : World} {p : Nat} {l : List UInt8} {e : Int} (h : Rd w p l e) :
    Calls Try.prog 40 #[.pointer (some ⟨p, 0, none⟩)] w fun x w' => x = .returned (.int .i64 (rdEnd l e)) ∧ w = w' := by
  have HR := Lib.hid h
  obtain ⟨A, c, h1, _⟩ := h
  have d0 : w.cell? ⟨p, 0, none⟩ = some (.slice A l.length c) := by rw [cell_of_rowAt h1]; rfl
  clear h1
  by_cases he : e = 0
  · subst he
    by_cases hl : 0 < l.length
    · have hl1 : decide ((0 : Int) < (l.length : Int)) = true := decide_eq_true (by omega)
      go_enter Try.func40, Try.ntmps40
      go_wp2_with (go_at_call 61; refine (err_any HR.out).mono ?_; rintro e w' ⟨rfl, rfl⟩)
      go_ret
      exact ⟨by rw [rdEnd, if_pos rfl, if_pos hl]; rfl, rfl⟩
    · have hl1 : decide ((0 : Int) < (l.length : Int)) = false := decide_eq_false (by omega)
      have hl2 : decide (0 < l.length) = false := decide_eq_false (by omega)
      go_enter Try.func40, Try.ntmps40
      go_wp2_with (go_at_call 61; refine (err_any HR.out).mono ?_; rintro e w' ⟨rfl, rfl⟩)
      go_ret
      exact ⟨by rw [rdEnd, if_pos rfl, if_neg hl]; rfl, rfl⟩
  · have e1 : (e == 0) = false := beq_eq_false_iff_ne.2 he
    have e2 : decide (e = 0) = false := decide_eq_false he
    have HE := Lib.hid (show rdEnd l e = e from if_neg he)
    go_enter Try.func40, Try.ntmps40
    go_wp2_with (go_at_call 61; refine (err_any HR.out).mono ?_; rintro e w' ⟨rfl, rfl⟩)
    go_ret
    exact ⟨by rw [HE.out]; rfl, rfl⟩
end Go.Proofs.Ytpjichkigccfnaa
