/-
  Slices of messages.
-/
import Derived.Test.YtlocoieknabiaaaGreatZGD
namespace Go.Proofs.YtlocoieknabiaaaGreat
set_option maxRecDepth 20000
open Go.RowKit
set_option linter.unusedSimpArgs false
set_option linter.unusedVariables false
theorem Msg.size (m : Msg) : m.cells.size = 12 := by simp [Msg.cells]
/-- A slice of messages. -/
structure MsgsIs (w : World) (A : Option Addr) (n : Nat) (M : Nat → Msg) : Prop where
  cell : ∀ i, i < n → ∃ b o, A = some ⟨b, o, none⟩ ∧ ∀ j, j < 12 → w.cell? ⟨b, o + i * 12 + j, none⟩ = (M i).cells[j]?
  ok : ∀ i, i < n → MsgOk w (M i)
theorem MsgsIs.below {w w' : World} {A : Option Addr} {n : Nat} {M : Nat → Msg} (h : MsgsIs w A n M) (hb : Below w.heap.size w w') : MsgsIs w' A n M :=
  ⟨fun i hi => by
    obtain ⟨b, o, h1, h2⟩ := h.cell i hi
    refine ⟨b, o, h1, fun j hj => ?_⟩
    have h3 := h2 j hj
    have hs : (M i).cells[j]? = some ((M i).cells[j]'(by rw [Msg.size]; exact hj)) := Array.getElem?_eq_getElem _
    rw [hs] at h3 ⊢
    exact (hb.cell (World.block_lt_of_cell? _ _ h3)).trans h3, fun i hi => (h.ok i hi).below hb⟩
end Go.Proofs.YtlocoieknabiaaaGreat
