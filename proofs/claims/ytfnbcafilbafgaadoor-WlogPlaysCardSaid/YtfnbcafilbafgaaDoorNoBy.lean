/-
  Blocks that hold no bytes; what is one's own when another block is written.
-/
import Derived.Test.YtfnbcafilbafgaaDoorDisk
namespace Go.Proofs.YtfnbcafilbafgaaDoor
open Go.RowKit
set_option linter.unusedSimpArgs false
set_option linter.unusedVariables false
/-- Block g holds no bytes. -/
def NoBy (w : World) (g : Nat) : Prop := ∀ j y, w.cell? ⟨g, j, none⟩ ≠ some (bc y)
theorem noBy3 {w : World} {g : Nat} {a b : Int} {A : Option Addr} {n c : Nat} {T : TypeId} (h : rowAt w g = some (#[.int .i64 a, .int .i64 b, .slice A n c], T)) : NoBy w g := by
  intro j y
  rw [cell_of_rowAt h]
  rcases j with _ | _ | _ | j <;> simp [bc]
theorem isBy_off {w w' : World} {g : Nat} {A : Option Addr} {t : List UInt8} (ht : IsBy w A t) (hg : NoBy w g) (hb : Bt g w w') : IsBy w' A t := by
  intro i hi
  obtain ⟨b, o, g1, g2⟩ := ht i hi
  have hne : b ≠ g := by rintro rfl; exact hg _ _ g2
  exact ⟨b, o, g1, (hb.cell (World.block_lt_of_cell? _ _ g2) hne).trans g2⟩
theorem dk_off {w w' : World} {p g : Nat} {s f : Int} {l : List UInt8} (h : DK w p s l f) (hg : NoBy w g) (hb : Bt g w w') (hp : p ≠ g) : DK w' p s l f := by
  obtain ⟨A, c, h1, h2, h3, h4⟩ := h
  exact ⟨A, c, (hb.row (rowAt_lt h1) hp).trans h1, isBy_off h2 hg hb, h3, h4⟩
theorem Bt.setRow (g : Nat) (w : World) (cs : Array Value) : Bt g w (w.setRow g cs) :=
  ⟨rfl, rfl, rfl, by simp [World.setRow], fun k _ hn => setRow_other w g k cs hn⟩
theorem Bt.late {p g : Nat} {w w1 w2 : World} (h : Bt p w w1) (hb : Bt g w1 w2) (hg : w.heap.size ≤ g) : Bt p w w2 :=
  ⟨hb.os.trans h.os, hb.tape.trans h.tape, hb.output.trans h.output, Nat.le_trans h.size hb.size, fun k hk hn => (hb.block k (Nat.lt_of_lt_of_le hk h.size) (by omega)).trans (h.block k hk hn)⟩
theorem OwnBy.bt {w w' : World} {p base : Nat} {l xs : List UInt8} {s f : Int} {v : Value} (ho : OwnBy w base v xs) (h : DK w p s l f) (hb : Bt p w w') : OwnBy w' base v xs := by
  refine ⟨ho.1, ho.2.imp id ?_⟩
  rintro ⟨g, cap, cur, h1, h2, h3, h4⟩
  refine ⟨g, cap, cur, h1, h2, (hb.block g (Array.getElem?_eq_some_iff.1 h3).1 ?_).trans h3, h4⟩
  rintro rfl
  obtain ⟨A, c, k1, _⟩ := h
  have k2 := rowAt_iff.1 k1
  rw [h3] at k2
  injection k2 with k2
  injection k2 with _ k3
  exact absurd k3 (by decide)
end Go.Proofs.YtfnbcafilbafgaaDoor
