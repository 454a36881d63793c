/-
  Layer 9 (frame): what the document fixes; the row of a laid table.
-/
import Derived.Test.YtfnbcafilbafgaaDoorScan
import Derived.Lib.SlBytesConst
import Derived.Laws.IdiomStrings
namespace Go.Proofs.YtfnbcafilbafgaaDoor
open Go.RowKit
set_option linter.unusedSimpArgs false
set_option linter.unusedVariables false
/-- The text of bytes. -/
def strT (l : List UInt8) : ByteArray := ⟨l.toArray⟩
theorem convT {w : World} {A : Option Addr} {c : Nat} {l : List UInt8} (h : IsBy w A l) : (convert 24 9 (.slice A l.length c)).run Tryd.prog w = .ok (.string (strT l)) w := by
  cases A with
  | none =>
    have : l = [] := by
      cases l with
      | nil => rfl
      | cons y ys => obtain ⟨b, o, h1, _⟩ := h 0 (by simp); cases h1
    subst this
    rw [List.length_nil, run_convert_bytes_string w _ _ _ none 0 c Tryd.underlying24 Tryd.underlying5 Tryd.underlying9]
    rfl
  | some a =>
    refine run_convert_bytes_back w _ _ _ a c l Tryd.underlying24 Tryd.underlying5 Tryd.underlying9 fun j hj => ?_
    obtain ⟨b, o, h1, h2⟩ := h j hj
    injection h1 with h1
    subst h1
    rw [Addr.add_lit, h2]
    simp [bc, List.getD, List.getElem?_eq_getElem hj]
theorem convT' {w : World} {A : Option Addr} {c n : Nat} {l : List UInt8} (h : IsBy w A l) (hn : l.length = n) : (convert 24 9 (.slice A n c)).run Tryd.prog w = .ok (.string (strT l)) w := by
  subst hn
  exact convT h
theorem crc_fixed : crc [49, 50, 51, 52, 53, 54, 55, 56, 57] = 3421780262 := by decide +kernel
theorem isBy_marked (w : World) (l : List UInt8) (T : TypeId) (fr : Nat × Nat) : IsBy (w.alloc (.cells (l.map bc).toArray T fr)) (some ⟨w.heap.size, 0, none⟩) l := by
  intro i hi
  refine ⟨w.heap.size, 0, rfl, ?_⟩
  rw [Nat.zero_add]
  have e : (w.alloc (.cells (l.map bc).toArray T fr)).heap[w.heap.size]? = some (.cells (l.map bc).toArray T fr) := by
    show (w.heap.push (.cells (l.map bc).toArray T fr))[w.heap.size]? = _
    simp
  unfold World.cell?
  simp only [e]
  simp [List.getElem?_eq_getElem hi, List.getD]
end Go.Proofs.YtfnbcafilbafgaaDoor
