/-
  Whole variables read in a later world.
-/
import Derived.Test.YtpjichkigccfnaaBase
import Derived.Deep.Cut
namespace Go.Proofs.Ytpjichkigccfnaa
set_option maxRecDepth 20000
open Go.RowKit
section
variable {P : Program} {w : World}
/-- A load that is not told. -/
def stuckLoad (P : Program) (w : World) (ty : TypeId) (g o : Nat) : Result Next := loadAgg P w ty (.pointer (some ⟨g, o, none⟩))
/-- A whole variable of what lay below, read in a later world. -/
theorem loadAgg_later {B g o n : Nat} {ty : TypeId} {d : TypeDesc} (x : Later B w) (hu : P.underlying ty = some d) (hd : isAggDesc d = true) (hi : (P.info? ty).map (·.size) = some n) (hg : g < B) :
    loadAgg P x.wd ty (.pointer (some ⟨g, o, none⟩)) = if (rowAt w g).isSome = true ∧ o + n ≤ (rowCells w g).size then .ok (.value (.agg ((rowCells w g).extract o (o + n)))) x.wd else stuckLoad P x.wd ty g o := by
  have e : rowCells x.wd g = rowCells w g := by unfold rowCells; rw [Later.row x g hg]
  split
  · rename_i h
    rw [loadAgg_row hu hd hi (by rw [Later.row x g hg]; exact h.1) (by rw [e]; exact h.2), e]
  · rfl
end
/-- The quiet walk serves a region of one forced order too. -/
theorem wpList_of_quiet {P : Program} {ops : Array Oper} {C : World → Prop} {Q : Exit → Act → World → Prop} : ∀ (l : List Oper) (a : Act) (w : World), C w → wpQuiet P ops C (fun a' => ∀ w', C w' → Q .normal a' w') l a → wpList P ops Q l a w
  | [], a, w, hC, h => h w hC
  | o :: rest, a, w, hC, h => by
    unfold wpQuiet at h
    unfold wpList
    split
    · rename_i hw
      rw [if_pos hw] at h
      obtain ⟨v, hv, hK⟩ := h
      left
      have hq := hv w hC
      unfold Oper.quietAt at hq
      unfold Oper.wp
      cases hr : (execOp a.eval o).run P w with
      | halt x w' => rw [hr] at hq; exact hq.elim
      | ok n w' =>
        rw [hr] at hq
        cases n with
        | value u => obtain ⟨rfl, rfl⟩ := hq; exact wpList_of_quiet rest _ _ hC hK
        | skip => obtain ⟨rfl, rfl⟩ := hq; exact wpList_of_quiet rest _ _ hC hK
        | enter f args =>
          obtain ⟨rfl, hc⟩ := hq
          refine hc.mono fun e w'' he => ?_
          obtain ⟨rfl, hC'⟩ := he
          exact wpList_of_quiet rest _ _ hC' hK
        | _ => exact hq.elim
    · rename_i hw
      rw [if_neg hw] at h
      exact wpList_of_quiet rest _ _ hC h
theorem region_seq {P : Program} {Q : Exit → Act → World → Prop} {a : Act} {w : World} {id : Nat} {l : List Oper}
    (h : wpQuiet P l.toArray (fun w' => ∃ x : Later w.heap.size w, w' = x.wd) (fun a' => ∀ w', Below w.heap.size w w' → Q .normal a' w') l a) : (Code.region id l.toArray false).wp P Q a w := by
  refine wp_region_lit (wpList_of_quiet (C := fun w' => ∃ x : Later w.heap.size w, w' = x.wd) l a w ⟨⟨w, Below.refl _ _⟩, rfl⟩ ?_)
  have e : (fun a' => ∀ w', (∃ x : Later w.heap.size w, w' = x.wd) → Q .normal a' w') = (fun a' => ∀ w', Below w.heap.size w w' → Q .normal a' w') := by
    funext a'
    apply propext
    constructor
    · exact fun h w' hb => h w' ⟨⟨w', hb⟩, rfl⟩
    · rintro h w' ⟨x, rfl⟩
      exact h _ x.below
  rw [e]
  exact h
theorem rowAt_setRow (w : World) (k g : Nat) (cs : Array Value) : rowAt (w.setRow k cs) g = if g = k then (rowAt w k).map (fun x => (cs, x.2)) else rowAt w g := by
  by_cases h : g = k
  · subst h
    rw [if_pos rfl]
    cases hr : rowAt w g with
    | some x =>
      obtain ⟨c, t⟩ := x
      exact rowAt_setRow_same cs hr
    | none =>
      rw [Option.map_none]
      unfold rowAt at hr ⊢
      simp only [World.setRow, Array.getElem?_modify]
      revert hr
      cases w.heap[g]? with
      | none => simp
      | some o =>
        cases o with
        | cells c t fz => obtain ⟨a, b⟩ := fz; cases a <;> cases b <;> simp
        | _ => simp
  · rw [if_neg h, rowAt_setRow_other w k g cs h]
theorem rowAt_setCell (w : World) (k i g : Nat) (v : Value) : rowAt (w.setCell ⟨k, i, none⟩ v) g = if g = k then (rowAt w k).map (fun x => (x.1.setIfInBounds i v, x.2)) else rowAt w g := by
  by_cases h : g = k
  · subst h
    rw [if_pos rfl]
    cases hr : rowAt w g with
    | some x =>
      obtain ⟨c, t⟩ := x
      exact rowAt_setCell_same i v hr
    | none =>
      rw [Option.map_none]
      unfold rowAt at hr ⊢
      simp only [World.setCell, Array.getElem?_modify]
      revert hr
      cases w.heap[g]? with
      | none => simp
      | some o =>
        cases o with
        | cells c t fz => obtain ⟨a, b⟩ := fz; cases a <;> cases b <;> simp
        | _ => simp
  · rw [if_neg h, rowAt_setCell_other w ⟨k, i, none⟩ v g h]
theorem below_setCell' {B g i : Nat} {a w : World} {v : Value} (h : Below B a w) (hg : B ≤ g) : Below B a (w.setCell ⟨g, i, none⟩ v) :=
  ⟨h.os, h.tape, h.output, by rw [show (w.setCell ⟨g, i, none⟩ v).heap.size = w.heap.size by simp [World.setCell]]; exact h.size, fun k hk => (heap_setCell_other w ⟨g, i, none⟩ k v (by show k ≠ g; omega)).trans (h.block k hk)⟩
theorem rowKeep {W w' : World} (hb : Below W.heap.size W w') {g : Nat} {x : Array Value × TypeId} (h : rowAt W g = some x) : rowAt w' g = some x := (rowAt_below hb g (rowAt_lt h)).trans h
theorem rowPast {w : World} {o : Obj} {g : Nat} {x : Array Value × TypeId} (h : rowAt w g = some x) : rowAt (w.alloc o) g = some x := (rowAt_alloc_past w o g (rowAt_lt h)).trans h
theorem below_allocS {a w : World} (h : Below a.heap.size a w) (o : Obj) : Below a.heap.size a (w.alloc o) := h.alloc h.size o
/-- Of what lay there, only block p has changed. -/
def Only (p : Nat) (w w' : World) : Prop := w.heap.size ≤ w'.heap.size ∧ Below p w w' ∧ ∀ g, g ≠ p → g < w.heap.size → w'.heap[g]? = w.heap[g]?
theorem Only.refl (p : Nat) (w : World) : Only p w w := ⟨Nat.le_refl _, Below.refl _ _, fun _ _ _ => rfl⟩
theorem Only.trans {p : Nat} {a b c : World} (h : Only p a b) (k : Only p b c) : Only p a c :=
  ⟨Nat.le_trans h.1 k.1, h.2.1.trans k.2.1, fun g h1 h2 => (k.2.2 g h1 (by have := h.1; omega)).trans (h.2.2 g h1 h2)⟩
theorem Only.of_below {p : Nat} {w w' : World} (h : Below w.heap.size w w') (hp : p ≤ w.heap.size) : Only p w w' := ⟨h.size, h.mono hp, fun g _ h2 => h.block g h2⟩
theorem Only.row {p g : Nat} {w w' : World} (h : Only p w w') (hg : g ≠ p) {x : Array Value × TypeId} (hr : rowAt w g = some x) : rowAt w' g = some x := (rowAt_of_heap (h.2.2 g hg (rowAt_lt hr))).trans hr
theorem Only.cell {p b o : Nat} {w w' : World} (h : Only p w w') (hg : b ≠ p) {v : Value} (hc : w.cell? ⟨b, o, none⟩ = some v) : w'.cell? ⟨b, o, none⟩ = some v := by
  exact (World.cell?_of_block (w := w) (h.2.2 b hg (World.block_lt_of_cell? _ _ hc))).trans hc
theorem Only.setCell {p i : Nat} {w : World} (v : Value) : Only p w (w.setCell ⟨p, i, none⟩ v) :=
  ⟨(below_setCell' (Below.refl p w) (Nat.le_refl _)).size, below_setCell' (Below.refl p w) (Nat.le_refl _), fun g h1 _ => heap_setCell_other w ⟨p, i, none⟩ g v h1⟩
end Go.Proofs.Ytpjichkigccfnaa
