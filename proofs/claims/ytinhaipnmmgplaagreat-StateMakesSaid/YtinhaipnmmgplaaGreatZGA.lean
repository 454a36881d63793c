/-
  Small words for this seat's proofs: an aggregate of whole numbers as one function from its cells to numbers; blocks of memory told whole.
-/
import Derived.WalkKit
import Derived.WalkSpells
import Derived.WalkLawsBesides
import Derived.BigQuiet
import Derived.StillTailTactics
import Derived.Laws.Rows
import Derived.Lib.Hide
import Derived.Deep.Cut
import Derived.StillTail
import Derived.Deep.RegionHeld
namespace Go.Proofs.YtinhaipnmmgplaaGreat
set_option maxRecDepth 20000
open Go.RowKit

/-- n cells, each told by a function. -/
def cellsF (n : Nat) (F : Nat → Value) : Array Value := ((List.range n).map F).toArray
/-- n cells of the kind int. -/
def ints (n : Nat) (f : Nat → Int) : Array Value := cellsF n fun i => .int .i64 (f i)

theorem size_cellsF (n : Nat) (F : Nat → Value) : (cellsF n F).size = n := by simp [cellsF]
theorem size_ints (n : Nat) (f : Nat → Int) : (ints n f).size = n := size_cellsF n _
theorem get_cellsF (n : Nat) (F : Nat → Value) (i : Nat) (h : i < n) : (cellsF n F)[i]? = some (F i) := by simp [cellsF, h]
theorem get_ints (n : Nat) (f : Nat → Int) (i : Nat) (h : i < n) : (ints n f)[i]? = some (.int .i64 (f i)) := get_cellsF n _ i h
theorem getE_cellsF (n : Nat) (F : Nat → Value) (i : Nat) (h : i < (cellsF n F).size) : (cellsF n F)[i] = F i := by simp [cellsF]
theorem getE_ints (n : Nat) (f : Nat → Int) (i : Nat) (h : i < (ints n f).size) : (ints n f)[i] = .int .i64 (f i) := getE_cellsF n _ i h
theorem cellsF_congr {n : Nat} {F G : Nat → Value} (h : ∀ i, i < n → F i = G i) : cellsF n F = cellsF n G := by
  unfold cellsF
  congr 1
  exact List.map_congr_left fun i hi => h i (List.mem_range.1 hi)
theorem ints_congr {n : Nat} {f g : Nat → Int} (h : ∀ i, i < n → f i = g i) : ints n f = ints n g := cellsF_congr fun i hi => by rw [h i hi]
theorem eq_cellsF {n : Nat} {F : Nat → Value} {A : Array Value} (hs : A.size = n) (h : ∀ i, i < n → A[i]? = some (F i)) : A = cellsF n F := by
  apply Array.ext_getElem?
  intro i
  by_cases hi : i < n
  · rw [h i hi, get_cellsF n F i hi]
  · rw [Array.getElem?_eq_none (by omega), Array.getElem?_eq_none (by rw [size_cellsF]; omega)]
theorem set_cellsF (n : Nat) (F : Nat → Value) (i : Nat) (v : Value) : (cellsF n F).setIfInBounds i v = cellsF n fun j => if j = i then v else F j := by
  refine eq_cellsF (by simp [size_cellsF]) fun j hj => ?_
  rw [Array.getElem?_setIfInBounds]
  by_cases h : i = j
  · subst h; rw [if_pos rfl, if_pos (by rw [size_cellsF]; exact hj), if_pos rfl]
  · rw [if_neg h, if_neg (fun e => h e.symm), get_cellsF n F j hj]
theorem set_ints (n : Nat) (f : Nat → Int) (i : Nat) (x : Int) : (ints n f).setIfInBounds i (.int .i64 x) = ints n fun j => if j = i then x else f j := by
  unfold ints
  rw [set_cellsF]
  exact cellsF_congr fun j _ => by by_cases h : j = i <;> simp [h]
theorem extract_cellsF (n : Nat) (F : Nat → Value) (a m : Nat) (h : a + m ≤ n) : (cellsF n F).extract a (a + m) = cellsF m fun i => F (a + i) := by
  refine eq_cellsF (by simp [size_cellsF]; omega) fun i hi => ?_
  rw [Array.getElem?_extract, if_pos (by rw [size_cellsF]; omega), get_cellsF n F _ (by omega)]
theorem extract_ints (n : Nat) (f : Nat → Int) (a m : Nat) (h : a + m ≤ n) : (ints n f).extract a (a + m) = ints m fun i => f (a + i) := extract_cellsF n _ a m h

theorem ext_ints (n : Nat) (f : Nat → Int) (a b : Nat) (h : b ≤ n) (ha : a ≤ b) : (ints n f).extract a b = ints (b - a) fun i => f (a + i) := by
  obtain ⟨m, rfl⟩ : ∃ m, b = a + m := ⟨b - a, by omega⟩
  rw [Nat.add_sub_cancel_left]
  exact extract_ints n f a m h
theorem ext_ints0 (n : Nat) (f : Nat → Int) (b : Nat) (h : b ≤ n) : (ints n f).extract 0 b = ints b f := by
  rw [ext_ints n f 0 b h (Nat.zero_le _)]
  simp
theorem ints_inj {n : Nat} {f g : Nat → Int} (h : ints n f = ints n g) : ∀ i, i < n → f i = g i := by
  intro i hi
  have := get_ints n f i hi
  rw [h, get_ints n g i hi] at this
  injection this with this
  injection this with _ this
  exact this.symm


/-! Blocks told whole. -/
/-- What block g of w holds, if it is a plain row of cells. -/
def rowAt (w : World) (g : Nat) : Option (Array Value × TypeId) :=
  match w.heap[g]? with
  | some (.cells c t (0, 0)) => some (c, t)
  | _ => none

theorem rowAt_iff {w : World} {g : Nat} {c : Array Value} {t : TypeId} : rowAt w g = some (c, t) ↔ w.heap[g]? = some (.cells c t (0, 0)) := by
  unfold rowAt
  constructor
  · intro h
    split at h
    · rename_i c' t' he
      simp only [Option.some.injEq, Prod.mk.injEq] at h
      obtain ⟨rfl, rfl⟩ := h
      exact he
    · cases h
  · intro h
    simp only [h]
theorem rowAt_of_heap {w w' : World} {g : Nat} (h : w'.heap[g]? = w.heap[g]?) : rowAt w' g = rowAt w g := by unfold rowAt; rw [h]
theorem rowAt_lt {w : World} {g : Nat} {x : Array Value × TypeId} (h : rowAt w g = some x) : g < w.heap.size := by
  obtain ⟨c, t⟩ := x
  have := rowAt_iff.1 h
  exact (Array.getElem?_eq_some_iff.1 this).1
theorem rowAt_alloc_at (w : World) (c : Array Value) (t : TypeId) (g : Nat) (h : g = w.heap.size) : rowAt (w.alloc (.cells c t)) g = some (c, t) := by
  subst h
  exact rowAt_iff.2 (heap_alloc_new w _)
theorem rowAt_alloc_past (w : World) (o : Obj) (g : Nat) (h : g < w.heap.size) : rowAt (w.alloc o) g = rowAt w g := rowAt_of_heap (Below.heap_alloc w o g h)
theorem rowAt_drew (w : World) (g : Nat) : rowAt w.drew g = rowAt w g := rfl
theorem rowAt_drewN (w : World) (n g : Nat) : rowAt (w.drewN n) g = rowAt w g := rfl
theorem rowAt_setCell_other (w : World) (a : Addr) (v : Value) (g : Nat) (h : g ≠ a.block) : rowAt (w.setCell a v) g = rowAt w g := rowAt_of_heap (heap_setCell_other w a g v h)
theorem rowAt_setCell_same {w : World} {g : Nat} {c : Array Value} {t : TypeId} (i : Nat) (v : Value) (h : rowAt w g = some (c, t)) :
    rowAt (w.setCell ⟨g, i, none⟩ v) g = some (c.setIfInBounds i v, t) := rowAt_iff.2 (heap_setCell_same w g i c t v (rowAt_iff.1 h))
theorem rowAt_setRow_other (w : World) (k g : Nat) (cs : Array Value) (h : g ≠ k) : rowAt (w.setRow k cs) g = rowAt w g := rowAt_of_heap (setRow_other w k g cs h)
theorem rowAt_setRow_same {w : World} {g : Nat} {c : Array Value} {t : TypeId} (cs : Array Value) (h : rowAt w g = some (c, t)) :
    rowAt (w.setRow g cs) g = some (cs, t) := rowAt_iff.2 (setRow_heap w g c cs t _ (rowAt_iff.1 h))
theorem rowAt_below {B : Nat} {w w' : World} (h : Below B w w') (g : Nat) (hg : g < B) : rowAt w' g = rowAt w g := rowAt_of_heap (h.block g hg)
theorem cell_of_rowAt {w : World} {g : Nat} {c : Array Value} {t : TypeId} (h : rowAt w g = some (c, t)) (i : Nat) : w.cell? ⟨g, i, none⟩ = c[i]? := cell_of_row w g i c t _ (rowAt_iff.1 h)
theorem frozen_of_rowAt {w : World} {g : Nat} {c : Array Value} {t : TypeId} (h : rowAt w g = some (c, t)) (i : Nat) : w.frozen? ⟨g, i, none⟩ = false := frozen_of_row w g i c t (rowAt_iff.1 h)

theorem world_ext {a b : World} (h1 : a.heap = b.heap) (h2 : a.tape = b.tape) (h3 : a.drawn = b.drawn) (h4 : a.os = b.os) (h5 : a.output = b.output) : a = b := by
  cases a; cases b; simp only at h1 h2 h3 h4 h5; subst h1 h2 h3 h4 h5; rfl
theorem setRow_alloc_at (w : World) (c : Array Value) (t : TypeId) (g : Nat) (cs : Array Value) (h : g = w.heap.size) : (w.alloc (.cells c t)).setRow g cs = w.alloc (.cells cs t) := by
  subst h
  have e : (w.alloc (.cells c t)).heap = w.heap.push (.cells c t) := rfl
  have e' : (w.alloc (.cells cs t)).heap = w.heap.push (.cells cs t) := rfl
  have hh : ((w.alloc (.cells c t)).setRow w.heap.size cs).heap = (w.alloc (.cells cs t)).heap := by
    apply Array.ext_getElem?
    intro i
    by_cases hi : i = w.heap.size
    · subst hi
      rw [setRow_heap _ _ c cs t (0, 0) (heap_alloc_new w _), heap_alloc_new]
    · rw [setRow_other _ _ _ _ hi, e, e', Array.getElem?_push, Array.getElem?_push, if_neg hi, if_neg hi]
  exact world_ext hh rfl rfl rfl rfl
theorem setRow_alloc_past (w : World) (o : Obj) (g : Nat) (cs : Array Value) (h : g < w.heap.size) : (w.alloc o).setRow g cs = (w.setRow g cs).alloc o := by
  have hh : ((w.alloc o).setRow g cs).heap = ((w.setRow g cs).alloc o).heap := by
    apply Array.ext_getElem?
    intro i
    have e : ((w.setRow g cs).alloc o).heap = (w.setRow g cs).heap.push o := rfl
    have e2 : (w.alloc o).heap = w.heap.push o := rfl
    by_cases hi : i = g
    · subst hi
      rw [e, Array.getElem?_push, setRow_size, if_neg (Nat.ne_of_lt h)]
      simp only [World.setRow, Array.getElem?_modify, e2]
      rw [Array.getElem?_push, if_neg (Nat.ne_of_lt h)]
    · rw [setRow_other _ _ _ _ hi, e, e2, Array.getElem?_push, Array.getElem?_push, setRow_size, setRow_other _ _ _ _ hi]
  exact world_ext hh rfl rfl rfl rfl

theorem rowAt_none {w : World} {g : Nat} (h : w.heap.size ≤ g) : rowAt w g = none := by
  unfold rowAt
  rw [Array.getElem?_eq_none h]
theorem rowAt_alloc (w : World) (c : Array Value) (t : TypeId) (g : Nat) : rowAt (w.alloc (.cells c t)) g = if g = w.heap.size then some (c, t) else rowAt w g := by
  by_cases h : g = w.heap.size
  · rw [if_pos h, rowAt_alloc_at w c t g h]
  · rw [if_neg h]
    by_cases h2 : g < w.heap.size
    · exact rowAt_alloc_past w _ g h2
    · rw [rowAt_none (w := w) (by omega), rowAt_none (by rw [show (w.alloc (.cells c t)).heap.size = w.heap.size + 1 from by show (w.heap.push _).size = _; simp]; omega)]
theorem setRow_none (w : World) (g : Nat) (cs : Array Value) (h : w.heap.size ≤ g) : w.setRow g cs = w := by
  have hh : (w.setRow g cs).heap = w.heap := by
    apply Array.ext_getElem?
    intro i
    by_cases hi : i = g
    · subst hi
      rw [Array.getElem?_eq_none (by rw [setRow_size]; exact h), Array.getElem?_eq_none h]
    · exact setRow_other _ _ _ _ hi
  exact world_ext hh rfl rfl rfl rfl
theorem setRow_alloc (w : World) (c : Array Value) (t : TypeId) (g : Nat) (cs : Array Value) :
    (w.alloc (.cells c t)).setRow g cs = if g = w.heap.size then w.alloc (.cells cs t) else (w.setRow g cs).alloc (.cells c t) := by
  by_cases h : g = w.heap.size
  · rw [if_pos h, setRow_alloc_at w c t g cs h]
  · rw [if_neg h]
    by_cases h2 : g < w.heap.size
    · exact setRow_alloc_past w _ g cs h2
    · rw [setRow_none w g cs (by omega), setRow_none _ g cs (by rw [show (w.alloc (.cells c t)).heap.size = w.heap.size + 1 from by show (w.heap.push _).size = _; simp]; omega)]
theorem setRow_drewN (w : World) (n g : Nat) (cs : Array Value) : (w.drewN n).setRow g cs = (w.setRow g cs).drewN n := rfl
theorem setRow_drew (w : World) (g : Nat) (cs : Array Value) : w.drew.setRow g cs = (w.setRow g cs).drew := rfl

theorem setCell_none (w : World) (g i : Nat) (v : Value) (h : w.heap.size ≤ g) : w.setCell ⟨g, i, none⟩ v = w := by
  have hh : (w.setCell ⟨g, i, none⟩ v).heap = w.heap := by
    apply Array.ext_getElem?
    intro j
    by_cases hj : j = g
    · subst hj
      rw [Array.getElem?_eq_none (by simp [World.setCell]; exact h), Array.getElem?_eq_none h]
    · exact heap_setCell_other _ _ _ _ hj
  exact world_ext hh rfl rfl rfl rfl
theorem setCell_alloc (w : World) (c : Array Value) (t : TypeId) (g i : Nat) (v : Value) :
    (w.alloc (.cells c t)).setCell ⟨g, i, none⟩ v = if g = w.heap.size then w.alloc (.cells (c.setIfInBounds i v) t) else (w.setCell ⟨g, i, none⟩ v).alloc (.cells c t) := by
  by_cases h : g = w.heap.size
  · rw [if_pos h]
    exact World.setCell_alloc_at c t g i v h
  · rw [if_neg h]
    by_cases h2 : g < w.heap.size
    · exact World.setCell_alloc_past _ g i v h2
    · rw [setCell_none w g i v (by omega), setCell_none _ g i v (by rw [show (w.alloc (.cells c t)).heap.size = w.heap.size + 1 from by show (w.heap.push _).size = _; simp]; omega)]
theorem setCell_drewN (w : World) (n : Nat) (a : Addr) (v : Value) : (w.drewN n).setCell a v = (w.setCell a v).drewN n := rfl

/-! A whole variable that is an aggregate: read, written. -/
def isAggDesc : TypeDesc → Bool
  | .struct _ => true
  | .array _ _ => true
  | _ => false

section
variable {P : Program}
theorem run_loadVar_agg {w : World} {g o n : Nat} {c : Array Value} {t ty : TypeId} {d : TypeDesc} (hu : P.underlying ty = some d) (hd : isAggDesc d = true)
    (hi : (P.info? ty).map (·.size) = some n) (hr : rowAt w g = some (c, t)) (hn : o + n ≤ c.size) :
    (loadVar ty ⟨g, o, none⟩).run P w = .ok (.agg (c.extract o (o + n))) w := by
  have hl : (loadCells ⟨g, o, none⟩ n).run P w = .ok (c.extract o (o + n)) w := by
    rw [run_loadCells w ⟨g, o, none⟩ n (fun j => (c[o + j]?).getD undef) (fun j hj => by
      rw [Addr.add_lit, cell_of_rowAt hr, Array.getElem?_eq_getElem (by omega)]; rfl)]
    congr 1
    apply Array.ext_getElem?
    intro i
    by_cases hi : i < n
    · rw [Array.getElem?_extract, if_pos (by omega)]
      simp [hi, Array.getElem?_eq_getElem (show o + i < c.size by omega)]
    · rw [Array.getElem?_eq_none (by simp; omega), Array.getElem?_eq_none (by simp; omega)]
  cases hq : P.info? ty with
  | none => simp [hq] at hi
  | some i =>
    have hs : i.size = n := by simpa [hq] using hi
    have hagg : (isAgg ty).run P w = .ok true w := by
      unfold isAgg
      rw [Sem.run_bind, run_underlying hu w]
      cases d <;> simp_all [isAggDesc]
    simp [loadVar, Sem.run_bind, hagg, sizeOf, typeInfo, hq, hs, hl]

/-- c, of which the cells from o on are those of V. -/
def splice (c : Array Value) (o : Nat) (V : Array Value) : Array Value := (c.toList.take o ++ V.toList ++ c.toList.drop (o + V.size)).toArray

theorem size_splice {c : Array Value} {o : Nat} {V : Array Value} (h : o + V.size ≤ c.size) : (splice c o V).size = c.size := by
  simp [splice]; omega
theorem get_splice {c : Array Value} {o : Nat} {V : Array Value} (h : o + V.size ≤ c.size) (i : Nat) :
    (splice c o V)[i]? = if o ≤ i ∧ i < o + V.size then V[i - o]? else c[i]? := by
  unfold splice
  rw [List.getElem?_toArray]
  have hl : (c.toList.take o).length = o := by simp; omega
  by_cases h1 : i < o
  · rw [if_neg (by omega), List.append_assoc, List.getElem?_append_left (by omega), List.getElem?_take, if_pos h1]
    simp
  · by_cases h2 : i < o + V.size
    · rw [if_pos ⟨by omega, h2⟩, List.getElem?_append_left (by simp; omega), List.getElem?_append_right (by omega), hl]
      simp
    · rw [if_neg (by omega), List.getElem?_append_right (by simp; omega)]
      simp only [List.length_append, hl, Array.length_toList, List.getElem?_drop]
      rw [show o + V.size + (i - (o + V.size)) = i by omega]
      simp

theorem run_storeVar_agg {w : World} {g o : Nat} {c V : Array Value} {t ty : TypeId} (hi : (P.info? ty).map (·.size) = some V.size) (hr : rowAt w g = some (c, t))
    (hn : o + V.size ≤ c.size) (h1 : V.all (fun v => v.oneCell') = true) :
    (storeVar ty ⟨g, o, none⟩ (.agg V)).run P w = .ok () (w.setRow g (splice c o V)) := by
  have := run_storeCells_at P g o t V.toList 0 c w (rowAt_iff.1 hr) (by simpa using hn) (fun v hv => (Array.all_eq_true_iff_forall_mem.1 h1) v (by simpa using hv))
  simp only [Nat.add_zero, Array.length_toList] at this
  cases hq : P.info? ty with
  | none => simp [hq] at hi
  | some i =>
    have hs : i.size = V.size := by simpa [hq] using hi
    simp [storeVar, sizeOf, typeInfo, hq, Value.cells, hs, this, splice]
end

theorem one_cellsF {n : Nat} {F : Nat → Value} (h : ∀ i, i < n → (F i).oneCell' = true) : (cellsF n F).all (fun v => v.oneCell') = true := by
  rw [Array.all_eq_true_iff_forall_mem]
  intro v hv
  simp only [cellsF, List.mem_toArray, List.mem_map, List.mem_range] at hv
  obtain ⟨i, hi, rfl⟩ := hv
  exact h i hi
theorem one_ints (n : Nat) (f : Nat → Int) : (ints n f).all (fun v => v.oneCell') = true := one_cellsF fun _ _ => rfl
theorem splice_cellsF (n m o : Nat) (F G : Nat → Value) (h : o + m ≤ n) : splice (cellsF n F) o (cellsF m G) = cellsF n fun i => if o ≤ i ∧ i < o + m then G (i - o) else F i := by
  have hs : o + (cellsF m G).size ≤ (cellsF n F).size := by rw [size_cellsF, size_cellsF]; exact h
  refine eq_cellsF (by rw [size_splice hs, size_cellsF]) fun i hi => ?_
  rw [get_splice hs, size_cellsF]
  by_cases hc : o ≤ i ∧ i < o + m
  · rw [if_pos hc, if_pos hc, get_cellsF m G _ (by omega)]
  · rw [if_neg hc, if_neg hc, get_cellsF n F _ hi]
theorem splice_ints (n m o : Nat) (f g : Nat → Int) (h : o + m ≤ n) : splice (ints n f) o (ints m g) = ints n fun i => if o ≤ i ∧ i < o + m then g (i - o) else f i := by
  unfold ints
  rw [splice_cellsF n m o _ _ h]
  exact cellsF_congr fun i _ => by by_cases hc : o ≤ i ∧ i < o + m <;> simp [hc]
theorem splice_all (n : Nat) (c : Array Value) (f : Nat → Int) (h : c.size = n) : splice c 0 (ints n f) = ints n f := by
  have hs : 0 + (ints n f).size ≤ c.size := by rw [size_ints]; omega
  refine eq_cellsF (by rw [size_splice hs, h]) fun i hi => ?_
  rw [get_splice hs, size_ints, if_pos (by omega), Nat.sub_zero, get_ints n f i hi]

/-! Regions that draw their order. -/
/-- A world that is as w was below block B. -/
def Later (B : Nat) (w : World) : Type := { w' : World // Below B w w' }
def Later.wd {B : Nat} {w : World} (x : Later B w) : World := x.val
instance (B : Nat) (w : World) : Nonempty (Later B w) := ⟨⟨w, Below.refl B w⟩⟩
theorem Later.below {B : Nat} {w : World} (x : Later B w) : Below B w x.wd := x.property
theorem Later.size {B : Nat} {w : World} (x : Later B w) : w.heap.size ≤ x.wd.heap.size := x.below.size
theorem Later.cell {B : Nat} {w : World} (x : Later B w) (b i : Nat) (h : b < B) : x.wd.cell? ⟨b, i, none⟩ = w.cell? ⟨b, i, none⟩ := x.below.cell (p := ⟨b, i, none⟩) h
theorem Later.frozen {B : Nat} {w : World} (x : Later B w) (b i : Nat) (h : b < B) : x.wd.frozen? ⟨b, i, none⟩ = w.frozen? ⟨b, i, none⟩ := x.below.frozen (p := ⟨b, i, none⟩) h
theorem Later.row {B : Nat} {w : World} (x : Later B w) (b : Nat) (h : b < B) : rowAt x.wd b = rowAt w b := rowAt_below x.below b h

section
variable {P : Program} {Q : Exit → Act → World → Prop} {a : Act} {w : World}
/-- A region whose operations read, and whose calls leave what was there as it was: one walk, in the order of the text. -/
theorem region_quiet {id : Nat} {l : List Oper} (hm : P.follows .mixedOrders = true) (hB : Region.lexB .any l.toArray = true)
    (h : wpQuiet P l.toArray (fun w' => ∃ x : Later w.heap.size w, w' = x.wd) (fun a' => ∀ w', Below w.heap.size w w' → Q .normal a' w') l a) : (Code.region id l.toArray true).wp P Q a w := by
  refine wp_region_quiet (C := fun w' => ∃ x : Later w.heap.size w, w' = x.wd) hm hB ⟨⟨w.drew, (Below.refl _ _).drew⟩, rfl⟩ ?_
  have e : (fun a' => ∀ w', (∃ x : Later w.heap.size w, w' = x.wd) → Q .normal a' w') = (fun a' => ∀ w', Below w.heap.size w w' → Q .normal a' w') := by
    funext a'
    apply propext
    constructor
    · exact fun h w' hb => h w' ⟨⟨w', hb⟩, rfl⟩
    · rintro h w' ⟨x, rfl⟩
      exact h _ x.below
  rw [e]
  simpa using h
/-- A callee met inside such a region. -/
theorem quiet_call {f : FuncId} {args : Array Value} {B : Nat} {x : Later B w} {v : Value} (hB : B ≤ w.heap.size)
    (h : Calls P f args x.wd fun e w' => e = .returned v ∧ Below x.wd.heap.size x.wd w') : Calls P f args x.wd fun e w'' => e = .returned v ∧ ∃ y : Later B w, w'' = y.wd :=
  h.mono fun _ w' ⟨he, hb⟩ => ⟨he, ⟨w', x.below.trans (hb.mono (Nat.le_trans hB x.size))⟩, rfl⟩
theorem quiet_call_same {f : FuncId} {args : Array Value} {B : Nat} {x : Later B w} {v : Value}
    (h : Calls P f args x.wd fun e w' => e = .returned v ∧ x.wd = w') : Calls P f args x.wd fun e w'' => e = .returned v ∧ ∃ y : Later B w, w'' = y.wd :=
  h.mono fun _ _ ⟨he, hb⟩ => ⟨he, x, hb.symm⟩
/-- Reads, then what writes in one forced order. -/
theorem region_tail {id : Nat} {l : List Oper} (n : Nat) (hm : P.follows .mixedOrders = true) (hB : Region.lexTailB .any l.toArray n = true)
    (h : wpStill P l.toArray w.drew (fun a' => wpList P l.toArray Q (l.drop n) a' w.drew) (l.take n) a) : (Code.region id l.toArray true).wp P Q a w :=
  wp_region_still_tail n hm hB h
end

/-- What a call leaves of the cells that were there. -/
theorem bcell {B : Nat} {W w1 : World} (hb : Below B W w1) : (∀ b o, b < B → w1.cell? ⟨b, o, none⟩ = W.cell? ⟨b, o, none⟩) ∧ (∀ b o, b < B → w1.frozen? ⟨b, o, none⟩ = W.frozen? ⟨b, o, none⟩) ∧ (∀ b, b < B → rowAt w1 b = rowAt W b) :=
  ⟨fun b o h => hb.cell (p := ⟨b, o, none⟩) h, fun b o h => hb.frozen (p := ⟨b, o, none⟩) h, fun b h => rowAt_below hb b h⟩
theorem bthen {a b c : World} (h : Below a.heap.size a b) (k : Below b.heap.size b c) : Below a.heap.size a c := h.trans (k.mono h.size)
theorem below_drewN {B : Nat} {a w : World} (h : Below B a w) (n : Nat) : Below B a (w.drewN n) := ⟨h.os, h.tape, h.output, h.size, h.block⟩
theorem below_setRow' {B g : Nat} {a w : World} (h : Below B a w) (hg : B ≤ g) (cs : Array Value) : Below B a (w.setRow g cs) :=
  ⟨h.os, h.tape, h.output, by rw [setRow_size]; exact h.size, fun k hk => (setRow_other w g k cs (by omega)).trans (h.block k hk)⟩

/-! Operations on whole aggregates, behind names of their own: so the walk does not take them apart. -/
def storeAgg (P : Program) (w : World) (ty : TypeId) (x y : Value) : Result Next := (do Instr.storeAt ty x y; pure .skip : Sem Next).run P w
def loadAgg (P : Program) (w : World) (ty : TypeId) (x : Value) : Result Next := (do pure (.value (← Instr.loadAt ty x)) : Sem Next).run P w
def fieldAgg (P : Program) (w : World) (ty : TypeId) (x : Value) (i : Nat) : Result Next := (do pure (.value (← Instr.field ty x i)) : Sem Next).run P w
def indexAgg (P : Program) (w : World) (ty : TypeId) (x i : Value) : Result Next := (do pure (.value (← Instr.index ty x i)) : Sem Next).run P w
def allocAgg (P : Program) (w : World) (ty : TypeId) : Result Next := (do pure (.value (← Instr.alloc ty true (.tuple #[]))) : Sem Next).run P w
def buildAgg (P : Program) (w : World) (ty : TypeId) (ps : Array (Nat × Value)) : Result Next := (do pure (.value (← Instr.build ty ps)) : Sem Next).run P w
def eqlAgg (P : Program) (w : World) (op : BinOp) (ty : TypeId) (x y : Operand) (u v : Value) : Result Next := (do pure (.value (← (do eqGuard op ty x y u v; binOp op ty u v))) : Sem Next).run P w

section
variable {P : Program}
theorem exec_store (ρ : Operand → Value) (d : Option Tmp) (T ty : TypeId) (p : String) (af : Array Edge) (g : Option (Nat × Bool)) (x y : Operand) (w : World) :
    (execOp ρ ⟨d, .store ty x y, T, p, af, g⟩).run P w = storeAgg P w ty (ρ x) (ρ y) := rfl
theorem exec_load (ρ : Operand → Value) (d : Option Tmp) (T ty : TypeId) (p : String) (af : Array Edge) (g : Option (Nat × Bool)) (x : Operand) (w : World) :
    (execOp ρ ⟨d, .load ty x, T, p, af, g⟩).run P w = loadAgg P w ty (ρ x) := rfl
theorem exec_field (ρ : Operand → Value) (d : Option Tmp) (T ty : TypeId) (p : String) (af : Array Edge) (g : Option (Nat × Bool)) (x : Operand) (i : Nat) (w : World) :
    (execOp ρ ⟨d, .field ty x i, T, p, af, g⟩).run P w = fieldAgg P w ty (ρ x) i := rfl
theorem exec_index (ρ : Operand → Value) (d : Option Tmp) (T ty : TypeId) (p : String) (af : Array Edge) (g : Option (Nat × Bool)) (x i : Operand) (w : World) :
    (execOp ρ ⟨d, .index ty x i, T, p, af, g⟩).run P w = indexAgg P w ty (ρ x) (ρ i) := rfl
theorem exec_alloc (ρ : Operand → Value) (d : Option Tmp) (T ty : TypeId) (p : String) (af : Array Edge) (g : Option (Nat × Bool)) (w : World) :
    (execOp ρ ⟨d, .alloc ty, T, p, af, g⟩).run P w = allocAgg P w ty := rfl
theorem exec_build (ρ : Operand → Value) (d : Option Tmp) (T ty : TypeId) (p : String) (af : Array Edge) (g : Option (Nat × Bool)) (ps : Array (Nat × Operand)) (w : World) :
    (execOp ρ ⟨d, .build ty ps, T, p, af, g⟩).run P w = buildAgg P w ty (ps.map fun (i, x) => (i, ρ x)) := rfl
theorem exec_eql (ρ : Operand → Value) (d : Option Tmp) (T ty ty' : TypeId) (p : String) (af : Array Edge) (g : Option (Nat × Bool)) (op : BinOp) (x y : Operand) (w : World) :
    (execOp ρ ⟨d, .binOp op ty x y ty', T, p, af, g⟩).run P w = eqlAgg P w op ty x y (ρ x) (ρ y) := rfl

theorem storeAgg_ok {w : World} {g o : Nat} {c V : Array Value} {t ty : TypeId} (hi : (P.info? ty).map (·.size) = some V.size) (hr : rowAt w g = some (c, t))
    (hn : o + V.size ≤ c.size) (h1 : V.all (fun v => v.oneCell') = true) :
    storeAgg P w ty (.pointer (some ⟨g, o, none⟩)) (.agg V) = .ok .skip (w.setRow g (splice c o V)) := by
  unfold storeAgg
  simp [Instr.storeAt, Instr.sureAddr, run_storeVar_agg hi hr hn h1]
theorem loadAgg_ok {w : World} {g o n : Nat} {c : Array Value} {t ty : TypeId} {d : TypeDesc} (hu : P.underlying ty = some d) (hd : isAggDesc d = true)
    (hi : (P.info? ty).map (·.size) = some n) (hr : rowAt w g = some (c, t)) (hn : o + n ≤ c.size) :
    loadAgg P w ty (.pointer (some ⟨g, o, none⟩)) = .ok (.value (.agg (c.extract o (o + n)))) w := by
  unfold loadAgg
  simp [Instr.loadAt, Instr.sureAddr, run_loadVar_agg hu hd hi hr hn]
theorem run_part_agg {w : World} {ty : TypeId} {d : TypeDesc} {o n : Nat} (c : Array Value) (hu : P.underlying ty = some d) (hd : isAggDesc d = true) (hi : (P.info? ty).map (·.size) = some n) :
    (part ty c o).run P w = .ok (.agg (c.extract o (o + n))) w := by
  cases hq : P.info? ty with
  | none => simp [hq] at hi
  | some i =>
    have hs : i.size = n := by simpa [hq] using hi
    have hagg : (isAgg ty).run P w = .ok true w := by
      unfold isAgg
      rw [Sem.run_bind, run_underlying hu w]
      cases d <;> simp_all [isAggDesc]
    simp [part, Sem.run_bind, hagg, sizeOf, typeInfo, hq, hs]
theorem run_part_one {w : World} {ty : TypeId} {d : TypeDesc} {o : Nat} (c : Array Value) {v : Value} (hu : P.underlying ty = some d) (hd : isAggDesc d = false) (hv : c[o]? = some v) :
    (part ty c o).run P w = .ok v w := by
  have hagg : (isAgg ty).run P w = .ok false w := by
    unfold isAgg
    rw [Sem.run_bind, run_underlying hu w]
    cases d <;> simp_all [isAggDesc]
  simp [part, Sem.run_bind, hagg, hv]
theorem fieldAgg_agg {w : World} {ty : TypeId} {fs : Array Field} {i : Nat} {f : Field} {d : TypeDesc} {n : Nat} (c : Array Value) (ht : P.underlying ty = some (.struct fs)) (hf : fs[i]? = some f)
    (hu : P.underlying f.type = some d) (hd : isAggDesc d = true) (hi : (P.info? f.type).map (·.size) = some n) :
    fieldAgg P w ty (.agg c) i = .ok (.value (.agg (c.extract f.offset (f.offset + n)))) w := by
  unfold fieldAgg Instr.field
  simp [Sem.run_bind, run_underlying ht, hf, asAgg, run_part_agg c hu hd hi]
theorem fieldAgg_one {w : World} {ty : TypeId} {fs : Array Field} {i : Nat} {f : Field} {d : TypeDesc} {v : Value} (c : Array Value) (ht : P.underlying ty = some (.struct fs)) (hf : fs[i]? = some f)
    (hu : P.underlying f.type = some d) (hd : isAggDesc d = false) (hv : c[f.offset]? = some v) :
    fieldAgg P w ty (.agg c) i = .ok (.value v) w := by
  unfold fieldAgg Instr.field
  simp [Sem.run_bind, run_underlying ht, hf, asAgg, run_part_one c hu hd hv]
theorem indexAgg_agg {w : World} {ty e : TypeId} {len n : Nat} {d : TypeDesc} {k : IntKind} {i : Int} (c : Array Value) (ht : P.underlying ty = some (.array len e))
    (hu : P.underlying e = some d) (hd : isAggDesc d = true) (hi : (P.info? e).map (·.size) = some n) (h0 : 0 ≤ i) (h1 : i < len) :
    indexAgg P w ty (.agg c) (.int k i) = .ok (.value (.agg (c.extract (i.toNat * n) (i.toNat * n + n)))) w := by
  unfold indexAgg Instr.index
  cases hq : P.info? e with
  | none => simp [hq] at hi
  | some inf =>
    have hs : inf.size = n := by simpa [hq] using hi
    simp [Sem.run_bind, asIntOf, run_underlying ht, h0, h1, sizeOf, typeInfo, hq, hs, run_part_agg c hu hd hi]
theorem indexAgg_one {w : World} {ty e : TypeId} {len : Nat} {d : TypeDesc} {k : IntKind} {i : Int} {v : Value} (c : Array Value) (ht : P.underlying ty = some (.array len e))
    (hu : P.underlying e = some d) (hd : isAggDesc d = false) (hi : (P.info? e).map (·.size) = some 1) (h0 : 0 ≤ i) (h1 : i < len) (hv : c[i.toNat]? = some v) :
    indexAgg P w ty (.agg c) (.int k i) = .ok (.value v) w := by
  unfold indexAgg Instr.index
  cases hq : P.info? e with
  | none => simp [hq] at hi
  | some inf =>
    have hs : inf.size = 1 := by simpa [hq] using hi
    simp [Sem.run_bind, asIntOf, run_underlying ht, h0, h1, sizeOf, typeInfo, hq, hs, run_part_one c hu hd hv]
theorem allocAgg_ok {w : World} {ty : TypeId} {c : Array Value} (hz : (P.info? ty).bind (·.zero) = some (.agg c)) :
    allocAgg P w ty = .ok (.value (.pointer (some ⟨w.heap.size, 0, none⟩))) (w.alloc (.cells c ty)) := by
  unfold allocAgg Instr.alloc
  cases hq : P.info? ty with
  | none => simp [hq] at hz
  | some inf =>
    have hs : inf.zero = some (.agg c) := by simpa [hq] using hz
    simp [Sem.run_bind, zeroValue, typeInfo, hq, hs, newVar, newRow, Value.cells]
end

/-- The cells of block g. -/
def rowCells (w : World) (g : Nat) : Array Value := ((rowAt w g).map (·.1)).getD #[]
theorem rowAt_cells {w : World} {g : Nat} (h : (rowAt w g).isSome = true) : ∃ t, rowAt w g = some (rowCells w g, t) := by
  unfold rowCells
  cases hr : rowAt w g with
  | none => rw [hr] at h; cases h
  | some x => exact ⟨x.2, by simp⟩
section
variable {P : Program} {w : World} {g o n : Nat} {ty : TypeId}
theorem loadAgg_row {d : TypeDesc} (hu : P.underlying ty = some d) (hd : isAggDesc d = true) (hi : (P.info? ty).map (·.size) = some n) (h : (rowAt w g).isSome = true) (hn : o + n ≤ (rowCells w g).size) :
    loadAgg P w ty (.pointer (some ⟨g, o, none⟩)) = .ok (.value (.agg ((rowCells w g).extract o (o + n)))) w :=
  let ⟨_, hr⟩ := rowAt_cells h
  loadAgg_ok hu hd hi hr hn
theorem storeAgg_row {V : Array Value} (hi : (P.info? ty).map (·.size) = some V.size) (h1 : V.all (fun v => v.oneCell') = true) (h : (rowAt w g).isSome = true) (hn : o + V.size ≤ (rowCells w g).size) :
    storeAgg P w ty (.pointer (some ⟨g, o, none⟩)) (.agg V) = .ok .skip (w.setRow g (splice (rowCells w g) o V)) :=
  let ⟨_, hr⟩ := rowAt_cells h
  storeAgg_ok hi hr hn h1
end

/-! Results that lie in memory. -/
section
variable {P : Program} {fn : Func} {R : Ending → World → Prop} {a : Act} {w : World}
theorem loadVar_of_loadAgg {ty : TypeId} {ad : Addr} {v : Value} (h : loadAgg P w ty (.pointer (some ad)) = .ok (.value v) w) : (loadVar ty ad).run P w = .ok v w := by
  unfold loadAgg at h
  simp only [Instr.loadAt, Instr.sureAddr] at h
  cases hr : (loadVar ty ad).run P w with
  | ok u w' => simp [hr] at h; obtain ⟨rfl, rfl⟩ := h; rfl
  | halt x w' => simp [hr] at h
theorem ret_c {p : Tmp} {ty : TypeId} {ad : Addr} {v : Value} (hres : fn.results = #[.cell p ty]) (hp : a.tmps.getD p undef = .pointer (some ad)) (hd : a.defers = [])
    (hl : loadAgg P w ty (.pointer (some ad)) = .ok (.value v) w) (hR : R (.returned v) w) : bodyPost P fn R .ret a w := by
  have hp' : a.tmps[p]?.getD undef = .pointer (some ad) := by simpa using hp
  exact bodyPost_ret (by simp [results, hres, hp', asAddr, loadVar_of_loadAgg hl]) hd hR
theorem ret_ct {p q : Tmp} {ty : TypeId} {ad : Addr} {v u : Value} (hres : fn.results = #[.cell p ty, .tmp q]) (hp : a.tmps.getD p undef = .pointer (some ad)) (hq : a.tmps.getD q undef = u) (hd : a.defers = [])
    (hl : loadAgg P w ty (.pointer (some ad)) = .ok (.value v) w) (hR : R (.returned (.tuple #[v, u])) w) : bodyPost P fn R .ret a w := by
  have hp' : a.tmps[p]?.getD undef = .pointer (some ad) := by simpa using hp
  have hq' : a.tmps[q]?.getD undef = u := by simpa using hq
  exact bodyPost_ret (by simp [results, hres, hp', hq', asAddr, loadVar_of_loadAgg hl]) hd hR
end

/-! '==' on aggregates of ints. -/
def eqI (n : Nat) (f g : Nat → Int) : Bool := (List.range n).all fun i => f i == g i
theorem eqI_iff {n : Nat} {f g : Nat → Int} : eqI n f g = true ↔ ∀ i, i < n → f i = g i := by simp [eqI]
theorem eqI_false {n : Nat} {f g : Nat → Int} : eqI n f g = false ↔ ¬ ∀ i, i < n → f i = g i := by rw [← eqI_iff]; simp
theorem eqI_self (n : Nat) (f : Nat → Int) : eqI n f f = true := eqI_iff.2 fun _ _ => rfl


section
variable {P : Program}
theorem run_forIn_all {α : Type} (p : α → Bool) (w : World) (body : α → (Option Bool × Unit) → Sem (ForInStep (Option Bool × Unit))) :
    ∀ l : List α, (∀ a ∈ l, (body a (none, ())).run P w = .ok (if p a then .yield (none, ()) else .done (some false, ())) w) →
      (forIn l (none, ()) body).run P w = .ok (if l.all p then none else some false, ()) w
  | [], _ => by simp
  | a :: l, h => by
    rw [List.forIn_cons, Sem.run_bind, h a (by simp)]
    cases hp : p a with
    | true =>
      simp only [if_true, Result.andThen_ok]
      rw [run_forIn_all p w body l fun x hx => h x (List.mem_cons_of_mem _ hx)]
      simp [hp]
    | false =>
      simp [hp]
/-- '==' of a part of the type t that lies at o in two rows of ints, n cells long. -/
def EqInt (P : Program) (D : Nat) (t : TypeId) (n : Nat) : Prop :=
  ∀ d, D ≤ d → ∀ (N o : Nat) (f g : Nat → Int) (w : World), o + n ≤ N →
    ∃ u v, (part t (ints N f) o).run P w = .ok u w ∧ (part t (ints N g) o).run P w = .ok v w ∧ (Op.equalIn d t u v).run P w = .ok (eqI n (fun i => f (o + i)) (fun i => g (o + i))) w
theorem EqInt.int {t : TypeId} (ht : P.underlying t = some (.int .i64)) : EqInt P 1 t 1 := by
  intro d hd N o f g w hn
  obtain ⟨d, rfl⟩ : ∃ e, d = e + 1 := ⟨d - 1, by omega⟩
  refine ⟨_, _, run_part_one (ints N f) ht rfl (get_ints N f o (by omega)), run_part_one (ints N g) ht rfl (get_ints N g o (by omega)), ?_⟩
  unfold Op.equalIn
  simp [Sem.run_bind, run_underlying ht, eqI]
theorem eqI_split (n m : Nat) (f g : Nat → Int) : eqI (n + m) f g = (eqI n f g && eqI m (fun i => f (n + i)) (fun i => g (n + i))) := by
  rw [Bool.eq_iff_iff, Bool.and_eq_true, eqI_iff, eqI_iff, eqI_iff]
  constructor
  · exact fun h => ⟨fun i hi => h i (by omega), fun i hi => h (n + i) (by omega)⟩
  · rintro ⟨h1, h2⟩ i hi
    by_cases hc : i < n
    · exact h1 i hc
    · have := h2 (i - n) (by omega)
      rwa [show n + (i - n) = i by omega] at this
theorem eqI_rows (k m : Nat) (f g : Nat → Int) : eqI (k * m) f g = (List.range' 0 k).all fun i => eqI m (fun j => f (i * m + j)) (fun j => g (i * m + j)) := by
  rw [Bool.eq_iff_iff, eqI_iff, List.all_eq_true]
  simp only [List.mem_range'_1, Nat.zero_le, Nat.zero_add, true_and, eqI_iff]
  constructor
  · intro h i hi j hj
    refine h _ ?_
    have : (i + 1) * m ≤ k * m := Nat.mul_le_mul_right _ hi
    rw [Nat.add_mul, Nat.one_mul] at this
    omega
  · intro h i hi
    have hm : 0 < m := by
      rcases Nat.eq_zero_or_pos m with h0 | h0
      · subst h0; omega
      · exact h0
    have h1 := h (i / m) (by rw [Nat.div_lt_iff_lt_mul hm]; exact hi) (i % m) (Nat.mod_lt _ hm)
    rwa [show i / m * m + i % m = i by rw [Nat.mul_comm]; exact Nat.div_add_mod i m] at h1
theorem EqInt.array {t e : TypeId} {k D m : Nat} (ht : P.underlying t = some (.array k e)) (hi : (P.info? t).map (·.size) = some (k * m)) (he : EqInt P D e m) (hie : (P.info? e).map (·.size) = some m) : EqInt P (D + 1) t (k * m) := by
  intro d hd N o f g w hn
  obtain ⟨d, rfl⟩ : ∃ e, d = e + 1 := ⟨d - 1, by omega⟩
  refine ⟨_, _, run_part_agg (ints N f) ht rfl hi, run_part_agg (ints N g) ht rfl hi, ?_⟩
  rw [extract_ints N f o _ hn, extract_ints N g o _ hn]
  unfold Op.equalIn
  simp only [Sem.run_bind, run_underlying ht, Result.andThen_ok]
  have hs : (sizeOf e).run P w = .ok m w := by
    cases hq : P.info? e with
    | none => simp [hq] at hie
    | some i => have : i.size = m := by simpa [hq] using hie
                simp [sizeOf, typeInfo, hq, this]
  rw [hs]
  simp only [Result.andThen_ok, Std.Legacy.Range.forIn_eq_forIn_range', Std.Legacy.Range.size]
  rw [run_forIn_all (P := P) (fun i => eqI m (fun j => f (o + (i * m + j))) (fun j => g (o + (i * m + j))))]
  · rw [eqI_rows]
    simp only [Result.andThen_ok, Nat.sub_zero, Nat.add_sub_cancel, Nat.div_one]
    split <;> simp_all
  · intro i hi
    have hik : i < k := by simpa using hi
    have hle : (i + 1) * m ≤ k * m := Nat.mul_le_mul_right _ hik
    rw [Nat.add_mul, Nat.one_mul] at hle
    obtain ⟨u, v, h1, h2, h3⟩ := he d (by omega) (k * m) (i * m) (fun j => f (o + j)) (fun j => g (o + j)) w (by omega)
    simp only [Sem.run_bind, h1, h2, h3, Result.andThen_ok]
    cases hq : eqI m (fun j => f (o + (i * m + j))) (fun j => g (o + (i * m + j))) <;> simp
/-- The fields of a struct, one behind the other. -/
inductive EqFields (P : Program) (D : Nat) : List Field → Nat → Nat → Prop
  | nil (o : Nat) : EqFields P D [] o 0
  | cons {f : Field} {fs : List Field} {o m n : Nat} (hname : f.name ≠ "_") (ho : f.offset = o) (he : EqInt P D f.type m) (hr : EqFields P D fs (o + m) n) : EqFields P D (f :: fs) o (m + n)
theorem EqFields.run {D : Nat} {fs : List Field} {o n : Nat} (h : EqFields P D fs o n) (d : Nat) (hd : D ≤ d) (N : Nat) (f g : Nat → Int) (w : World) (hn : o + n ≤ N) :
    ∃ p : Field → Bool, (∀ a ∈ fs, ((if a.name ≠ "_" then do
        let x ← part a.type (ints N f) a.offset
        let y ← part a.type (ints N g) a.offset
        let r ← Op.equalIn d a.type x y
        if (!r) = true then pure (ForInStep.done (some false, ())) else pure (ForInStep.yield (none, ())) else pure (ForInStep.yield (none, ())) : Sem (ForInStep (Option Bool × Unit)))).run P w = .ok (if p a then .yield (none, ()) else .done (some false, ())) w) ∧
      eqI n (fun i => f (o + i)) (fun i => g (o + i)) = fs.all p := by
  refine ⟨fun a => match (do let x ← part a.type (ints N f) a.offset; let y ← part a.type (ints N g) a.offset; Op.equalIn d a.type x y : Sem Bool).run P w with | .ok b _ => b | _ => false, ?_⟩
  induction h with
  | nil o => exact ⟨fun a ha => absurd ha List.not_mem_nil, by simp [eqI]⟩
  | cons hname ho he hr ih =>
    rename_i fl fs o m n
    obtain ⟨ih1, ih2⟩ := ih (by omega)
    obtain ⟨u, v, h1, h2, h3⟩ := he d hd N o f g w (by omega)
    subst ho
    refine ⟨fun a ha => ?_, ?_⟩
    · rcases List.mem_cons.1 ha with rfl | ha
      · rw [if_pos hname]
        simp only [Sem.run_bind, h1, h2, h3, Result.andThen_ok]
        cases eqI m (fun i => f (a.offset + i)) (fun i => g (a.offset + i)) <;> simp
      · exact ih1 a ha
    · rw [eqI_split, List.all_cons]
      simp only [Sem.run_bind, h1, h2, h3, Result.andThen_ok]
      have e : ∀ h : Nat → Int, (fun i => h (fl.offset + (m + i))) = (fun i => h (fl.offset + m + i)) := fun h => by funext i; rw [Nat.add_assoc]
      rw [e f, e g, ih2]
      simp only [Sem.run_bind]
theorem EqInt.struct {t : TypeId} {fs : Array Field} {D n : Nat} (ht : P.underlying t = some (.struct fs)) (hi : (P.info? t).map (·.size) = some n) (hst : P.stoodInHeld t = false) (h : EqFields P D fs.toList 0 n) : EqInt P (D + 1) t n := by
  intro d hd N o f g w hn
  obtain ⟨d, rfl⟩ : ∃ e, d = e + 1 := ⟨d - 1, by omega⟩
  refine ⟨_, _, run_part_agg (ints N f) ht rfl hi, run_part_agg (ints N g) ht rfl hi, ?_⟩
  rw [extract_ints N f o _ hn, extract_ints N g o _ hn]
  obtain ⟨p, h1, h2⟩ := h.run d (by omega) n (fun i => f (o + i)) (fun i => g (o + i)) w (by omega)
  simp only [Nat.zero_add] at h2
  unfold Op.equalIn
  simp only [Sem.run_bind, run_underlying ht, Result.andThen_ok, show program.run P w = .ok P w from rfl, hst, Bool.false_eq_true, if_false, ← Array.forIn_toList]
  rw [run_forIn_all (P := P) p w _ fs.toList h1, h2]
  simp only [Result.andThen_ok]
  split <;> simp_all
/-- '==' on two aggregates of ints. -/
theorem eqlAgg_ints {t : TypeId} {n : Nat} {d : TypeDesc} (hu : P.underlying t = some d) (hd : isAggDesc d = true) (hi : (P.info? t).map (·.size) = some n) (hg : P.eqGuardType P.depth t = false) (h : EqInt P 100 t n) (w : World) (x y : Operand) (f g : Nat → Int) :
    eqlAgg P w .eql t x y (.agg (ints n f)) (.agg (ints n g)) = .ok (.value (.bool (eqI n f g))) w ∧
    eqlAgg P w .neq t x y (.agg (ints n f)) (.agg (ints n g)) = .ok (.value (.bool (!eqI n f g))) w := by
  obtain ⟨u, v, h1, h2, h3⟩ := h 10000 (by omega) n 0 f g w (by omega)
  have q : ∀ k : Nat → Int, (part t (ints n k) 0).run P w = .ok (.agg (ints n k)) w := fun k => by
    rw [run_part_agg (ints n k) hu hd hi, Nat.zero_add, ext_ints0 n k n (Nat.le_refl _)]
  rw [q f] at h1
  rw [q g] at h2
  injection h1 with h1
  injection h2 with h2
  subst h1 h2
  simp only [Nat.zero_add] at h3
  have hgu : ∀ op : BinOp, (eqGuard op t x y (.agg (ints n f)) (.agg (ints n g))).run P w = .ok () w := fun op => by
    unfold eqGuard
    cases op <;> simp [hg]
  constructor
  · unfold eqlAgg
    simp only [Sem.run_bind, hgu, Result.andThen_ok]
    simp [binOp, Op.equal, Op.maxDepth, h3]
  · unfold eqlAgg
    simp only [Sem.run_bind, hgu, Result.andThen_ok]
    simp [binOp, Op.equal, Op.maxDepth, h3]
end
end Go.Proofs.YtinhaipnmmgplaaGreat

/-
  Whole variables read in a later world.
-/
namespace Go.Proofs.YtinhaipnmmgplaaGreat
set_option maxRecDepth 20000
open Go.RowKit
section
variable {P : Program} {w : World}
/-- A load that is not told. -/
def stuckLoad (P : Program) (w : World) (ty : TypeId) (g o : Nat) : Result Next := loadAgg P w ty (.pointer (some ⟨g, o, none⟩))
/-- A whole variable of what lay below, read in a later world. -/
theorem loadAgg_later {B g o n : Nat} {ty : TypeId} {d : TypeDesc} (x : Later B w) (hu : P.underlying ty = some d) (hd : isAggDesc d = true) (hi : (P.info? ty).map (·.size) = some n) (hg : g < B) :
    loadAgg P x.wd ty (.pointer (some ⟨g, o, none⟩)) = if (rowAt w g).isSome = true ∧ o + n ≤ (rowCells w g).size then .ok (.value (.agg ((rowCells w g).extract o (o + n)))) x.wd else stuckLoad P x.wd ty g o := by
  have e : rowCells x.wd g = rowCells w g := by unfold rowCells; rw [Later.row x g hg]
  split
  · rename_i h
    rw [loadAgg_row hu hd hi (by rw [Later.row x g hg]; exact h.1) (by rw [e]; exact h.2), e]
  · rfl
end
/-- The quiet walk serves a region of one forced order too. -/
theorem wpList_of_quiet {P : Program} {ops : Array Oper} {C : World → Prop} {Q : Exit → Act → World → Prop} : ∀ (l : List Oper) (a : Act) (w : World), C w → wpQuiet P ops C (fun a' => ∀ w', C w' → Q .normal a' w') l a → wpList P ops Q l a w
  | [], a, w, hC, h => h w hC
  | o :: rest, a, w, hC, h => by
    unfold wpQuiet at h
    unfold wpList
    split
    · rename_i hw
      rw [if_pos hw] at h
      obtain ⟨v, hv, hK⟩ := h
      left
      have hq := hv w hC
      unfold Oper.quietAt at hq
      unfold Oper.wp
      cases hr : (execOp a.eval o).run P w with
      | halt x w' => rw [hr] at hq; exact hq.elim
      | ok n w' =>
        rw [hr] at hq
        cases n with
        | value u => obtain ⟨rfl, rfl⟩ := hq; exact wpList_of_quiet rest _ _ hC hK
        | skip => obtain ⟨rfl, rfl⟩ := hq; exact wpList_of_quiet rest _ _ hC hK
        | enter f args =>
          obtain ⟨rfl, hc⟩ := hq
          refine hc.mono fun e w'' he => ?_
          obtain ⟨rfl, hC'⟩ := he
          exact wpList_of_quiet rest _ _ hC' hK
        | _ => exact hq.elim
    · rename_i hw
      rw [if_neg hw] at h
      exact wpList_of_quiet rest _ _ hC h
theorem region_seq {P : Program} {Q : Exit → Act → World → Prop} {a : Act} {w : World} {id : Nat} {l : List Oper}
    (h : wpQuiet P l.toArray (fun w' => ∃ x : Later w.heap.size w, w' = x.wd) (fun a' => ∀ w', Below w.heap.size w w' → Q .normal a' w') l a) : (Code.region id l.toArray false).wp P Q a w := by
  refine wp_region_lit (wpList_of_quiet (C := fun w' => ∃ x : Later w.heap.size w, w' = x.wd) l a w ⟨⟨w, Below.refl _ _⟩, rfl⟩ ?_)
  have e : (fun a' => ∀ w', (∃ x : Later w.heap.size w, w' = x.wd) → Q .normal a' w') = (fun a' => ∀ w', Below w.heap.size w w' → Q .normal a' w') := by
    funext a'
    apply propext
    constructor
    · exact fun h w' hb => h w' ⟨⟨w', hb⟩, rfl⟩
    · rintro h w' ⟨x, rfl⟩
      exact h _ x.below
  rw [e]
  exact h
theorem rowAt_setRow (w : World) (k g : Nat) (cs : Array Value) : rowAt (w.setRow k cs) g = if g = k then (rowAt w k).map (fun x => (cs, x.2)) else rowAt w g := by
  by_cases h : g = k
  · subst h
    rw [if_pos rfl]
    cases hr : rowAt w g with
    | some x =>
      obtain ⟨c, t⟩ := x
      exact rowAt_setRow_same cs hr
    | none =>
      rw [Option.map_none]
      unfold rowAt at hr ⊢
      simp only [World.setRow, Array.getElem?_modify]
      revert hr
      cases w.heap[g]? with
      | none => simp
      | some o =>
        cases o with
        | cells c t fz => obtain ⟨a, b⟩ := fz; cases a <;> cases b <;> simp
        | _ => simp
  · rw [if_neg h, rowAt_setRow_other w k g cs h]
theorem rowAt_setCell (w : World) (k i g : Nat) (v : Value) : rowAt (w.setCell ⟨k, i, none⟩ v) g = if g = k then (rowAt w k).map (fun x => (x.1.setIfInBounds i v, x.2)) else rowAt w g := by
  by_cases h : g = k
  · subst h
    rw [if_pos rfl]
    cases hr : rowAt w g with
    | some x =>
      obtain ⟨c, t⟩ := x
      exact rowAt_setCell_same i v hr
    | none =>
      rw [Option.map_none]
      unfold rowAt at hr ⊢
      simp only [World.setCell, Array.getElem?_modify]
      revert hr
      cases w.heap[g]? with
      | none => simp
      | some o =>
        cases o with
        | cells c t fz => obtain ⟨a, b⟩ := fz; cases a <;> cases b <;> simp
        | _ => simp
  · rw [if_neg h, rowAt_setCell_other w ⟨k, i, none⟩ v g h]
theorem below_setCell' {B g i : Nat} {a w : World} {v : Value} (h : Below B a w) (hg : B ≤ g) : Below B a (w.setCell ⟨g, i, none⟩ v) :=
  ⟨h.os, h.tape, h.output, by rw [show (w.setCell ⟨g, i, none⟩ v).heap.size = w.heap.size by simp [World.setCell]]; exact h.size, fun k hk => (heap_setCell_other w ⟨g, i, none⟩ k v (by show k ≠ g; omega)).trans (h.block k hk)⟩
theorem rowKeep {W w' : World} (hb : Below W.heap.size W w') {g : Nat} {x : Array Value × TypeId} (h : rowAt W g = some x) : rowAt w' g = some x := (rowAt_below hb g (rowAt_lt h)).trans h
theorem rowPast {w : World} {o : Obj} {g : Nat} {x : Array Value × TypeId} (h : rowAt w g = some x) : rowAt (w.alloc o) g = some x := (rowAt_alloc_past w o g (rowAt_lt h)).trans h
theorem below_allocS {a w : World} (h : Below a.heap.size a w) (o : Obj) : Below a.heap.size a (w.alloc o) := h.alloc h.size o
/-- Of what lay there, only block p has changed. -/
def Only (p : Nat) (w w' : World) : Prop := w.heap.size ≤ w'.heap.size ∧ Below p w w' ∧ ∀ g, g ≠ p → g < w.heap.size → w'.heap[g]? = w.heap[g]?
theorem Only.refl (p : Nat) (w : World) : Only p w w := ⟨Nat.le_refl _, Below.refl _ _, fun _ _ _ => rfl⟩
theorem Only.trans {p : Nat} {a b c : World} (h : Only p a b) (k : Only p b c) : Only p a c :=
  ⟨Nat.le_trans h.1 k.1, h.2.1.trans k.2.1, fun g h1 h2 => (k.2.2 g h1 (by have := h.1; omega)).trans (h.2.2 g h1 h2)⟩
theorem Only.of_below {p : Nat} {w w' : World} (h : Below w.heap.size w w') (hp : p ≤ w.heap.size) : Only p w w' := ⟨h.size, h.mono hp, fun g _ h2 => h.block g h2⟩
theorem Only.row {p g : Nat} {w w' : World} (h : Only p w w') (hg : g ≠ p) {x : Array Value × TypeId} (hr : rowAt w g = some x) : rowAt w' g = some x := (rowAt_of_heap (h.2.2 g hg (rowAt_lt hr))).trans hr
theorem Only.cell {p b o : Nat} {w w' : World} (h : Only p w w') (hg : b ≠ p) {v : Value} (hc : w.cell? ⟨b, o, none⟩ = some v) : w'.cell? ⟨b, o, none⟩ = some v := by
  exact (World.cell?_of_block (w := w) (h.2.2 b hg (World.block_lt_of_cell? _ _ hc))).trans hc
theorem Only.setCell {p i : Nat} {w : World} (v : Value) : Only p w (w.setCell ⟨p, i, none⟩ v) :=
  ⟨(below_setCell' (Below.refl p w) (Nat.le_refl _)).size, below_setCell' (Below.refl p w) (Nat.le_refl _), fun g h1 _ => heap_setCell_other w ⟨p, i, none⟩ g v h1⟩
end Go.Proofs.YtinhaipnmmgplaaGreat

/-
  A region that draws its order: first operations that are quiet (reads, calls that leave what was there), in any order; then a tail in one forced order. One walk serves every order.
-/
namespace Go.Proofs.YtinhaipnmmgplaaGreat
set_option maxRecDepth 20000
open Go.RowKit
set_option linter.unusedSimpArgs false
section
variable {P : Program} {ops : Array Oper} {md : Region.Mode} {C : World → Prop}
/-- f operations, all of them of the first n and quiet, in whatever order they may come up; then L. -/
def headQ (P : Program) (md : Region.Mode) (ops : Array Oper) (C : World → Prop) (n : Nat) (L : Array Bool → Act → Prop) : Nat → Array Bool → Act → Prop
  | 0, listed, a => L listed a
  | f + 1, listed, a => Region.ready md ops listed ≠ [] ∧ ∀ i, i ∈ Region.ready md ops listed → i < n ∧ qOp P ops C i (headQ P md ops C n L f (listed.setIfInBounds i true)) a
theorem any_of_headQ {n g : Nat} {L : Array Bool → Act → Prop} {Q : Exit → Act → World → Prop} (hL : ∀ listed a w, C w → L listed a → wpAny P md ops Q g listed a w) (f : Nat) :
    ∀ (listed : Array Bool) (a : Act) (w : World), C w → headQ P md ops C n L f listed a → wpAny P md ops Q (f + g) listed a w := by
  induction f with
  | zero => intro listed a w hC h; rw [Nat.zero_add]; exact hL _ _ _ hC h
  | succ f ih =>
    intro listed a w hC h
    rw [show f + 1 + g = (f + g) + 1 by omega]
    refine ⟨fun h0 => absurd h0 h.1, fun i hi => ?_⟩
    exact wpOp_of_qOp hC (fun a' w' hC' h' => ih _ a' w' hC' h') (h.2 i hi).2
theorem headQ_first {n i : Nat} {oi : Oper} {v : Value} {L : Array Bool → Act → Prop} (hi : ops[i]? = some oi) (hsel : ∀ (j : Nat) (o : Oper) cs b, ops[j]? = some o → o.op ≠ .select cs b)
    (hs : Region.sinkB md ops n = true) (hc : Region.chainB md ops n = true) (hn : n < ops.size) (hin : i < n) (hdone : ∀ listed a, L listed a → ∀ j, j ∈ Region.ready md ops listed → n ≤ j) (f : Nat) :
    ∀ (listed : Array Bool) (a : Act), HeadInv md ops n listed →
      (∀ j oj, ops[j]? = some oj → j ≠ i → listed.getD j true = false → (∀ e ∈ oj.after, Region.binds md e = true → e.on ≠ i) → oi.apart ops oj = true) →
      i ∈ Region.ready md ops listed → YieldsIn P ops C oi v a →
      headQ P md ops C n L f (listed.setIfInBounds i true) (a.put oi.dst v) → headQ P md ops C n L (f + 1) listed a := by
  have early : ∀ (listed : Array Bool), HeadInv md ops n listed → i ∈ Region.ready md ops listed → ∀ j, j ∈ Region.ready md ops listed → j < n := fun listed inv hr j hj => by
    rcases Nat.lt_or_ge j n with h | h
    · exact h
    · exact absurd hj (tail_waits hs hc hn inv _ i rfl hin (mem_ready.1 hr).1 j h)
  induction f with
  | zero =>
    intro listed a inv _ hr hy H
    refine ⟨fun h => (by rw [h] at hr; cases hr), fun j hj => ⟨early listed inv hr j hj, ?_⟩⟩
    by_cases hji : j = i
    · subst hji; exact hy.qOp hi H
    · have h1 := hdone _ _ H j (ready_mono hj hji)
      have h2 := early listed inv hr j hj
      omega
  | succ f ih =>
    intro listed a inv hfree hr hy H
    refine ⟨fun h => (by rw [h] at hr; cases hr), fun j hj => ⟨early listed inv hr j hj, ?_⟩⟩
    by_cases hji : j = i
    · subst hji; exact hy.qOp hi H
    · obtain ⟨hjun, oj, hoj, hall⟩ := mem_ready.1 hj
      have hun := (mem_ready.1 hr).1
      have hno : ∀ e ∈ oj.after, Region.binds md e = true → e.on ≠ i := fun e he hb heq => by
        have h1 := hall e he hb
        rw [heq, getD_both hun] at h1
        cases h1
      refine qOp_mono (fun a' h3 => ih (listed.setIfInBounds j true) a' (inv.set hj (early listed inv hr j hj)) (fun k ok hk hki hkun hk2 => ?_) (ready_mono hr (Ne.symm hji)) h3.1 ?_)
        (qOp_put hoj (hfree j oj hoj hji hjun hno) (fun cs b => hsel i oi cs b hi) (fun cs b => hsel j oj cs b hoj) hy (H.2 j (ready_mono hj hji)).2)
      · refine hfree k ok hk hki ?_ hk2
        by_cases hjk : j = k
        · rw [← hjk]; exact hjun
        · rwa [getD_set_ne true hjk] at hkun
      · rw [Array.setIfInBounds_comm _ _ hji]
        exact h3.2
theorem headQ_lex {n g : Nat} {K : Act → Prop} (hsel : Region.noSelect ops = true) (hs : Region.sinkB md ops n = true) (hc : Region.chainB md ops n = true) (hn : n < ops.size) (l : List Oper) :
    ∀ (k : Nat) (listed : Array Bool) (a : Act), (∀ j, j < l.length → l[j]? = ops[k + j]?) → k + l.length = n → HeadInv md ops n listed →
      Region.lexHead md ops g l.length k listed = true → wpQuiet P ops C K l a → headQ P md ops C n (fun listed' a' => Region.seqB md ops g n listed' = true ∧ K a') l.length listed a := by
  induction l with
  | nil =>
    intro k listed a _ hk _ hB h
    have hkn : k = n := by simpa using hk
    rw [hkn] at hB
    exact ⟨by simpa [Region.lexHead] using hB, h⟩
  | cons o l ih =>
    intro k listed a hl hk inv hB h
    have h0 : ops[k]? = some o := by simpa using (hl 0 (by simp)).symm
    simp only [List.length_cons, Region.lexHead, Bool.and_eq_true] at hB
    simp only [List.length_cons] at hk
    have hr : k ∈ Region.ready md ops listed := by simpa using hB.1.1
    have hq : qOp P ops C k (wpQuiet P ops C K l) a := by unfold qOp; simp only [h0]; exact h
    obtain ⟨v, hy, hK⟩ := yieldsIn_of_qOp h0 hq
    refine headQ_first h0 (Region.noSelect_spec hsel) hs hc hn (by omega) (fun listed' a' hL => seqB_ready hL.1) l.length listed a inv (Region.free_spec h0 hB.1.2) hr hy ?_
    exact ih (k + 1) _ _ (fun j hj => by have := hl (j + 1) (by simp; omega); simpa [Nat.add_assoc, Nat.add_comm 1 j] using this) (by omega) (inv.set hr (by omega)) hB.2 hK
/-- Quiet operations, then a tail in one forced order. -/
theorem wp_quiet_tail {id : Nat} {Q : Exit → Act → World → Prop} {a : Act} {w : World} {l : List Oper} (n : Nat) (hm : P.follows .mixedOrders = true) (hB : Region.lexTailB .any l.toArray n = true) (hC : C w.drew)
    (h : wpQuiet P l.toArray C (fun a' => ∀ w', C w' → wpList P l.toArray Q (l.drop n) a' w') (l.take n) a) : (Code.region id l.toArray true).wp P Q a w := by
  simp only [Region.lexTailB, Bool.and_eq_true, decide_eq_true_eq] at hB
  obtain ⟨⟨⟨⟨hsel, hn⟩, hs⟩, hc⟩, hlex⟩ := hB
  have hn' : n < l.length := by simpa using hn
  have htl : (l.take n).length = n := by simp; omega
  have hdl : (l.drop n).length = l.toArray.size - n := by simp
  have inv0 : HeadInv .any l.toArray n (Array.replicate l.toArray.size false) :=
    ⟨by simp, fun j oj _ hl => (by rw [getD_replicate_false] at hl; cases hl), fun t _ ht => getD_in (by simpa using ht) (getD_replicate_false _ _)⟩
  have H := headQ_lex (md := .any) (g := l.toArray.size - n) hsel hs hc hn (l.take n) 0 _ a (fun j hj => by
    rw [htl] at hj
    simp [hj]) (by simpa using htl) inv0 (by rw [htl]; exact hlex) h
  refine wp_region_any hm ?_
  have H2 := any_of_headQ (Q := Q) (g := l.toArray.size - n) (fun listed a' w' hC' hL => by
    have h3 := wpAny_of_seq (md := .any) (Q' := Q) (l.drop n) n listed a' w' (fun j => by simp [List.getElem?_drop]) (by rw [hdl]; exact hL.1) (hL.2 w' hC')
    rwa [hdl] at h3) _ _ _ _ hC H
  rw [htl, show n + (l.toArray.size - n) = l.toArray.size by omega] at H2
  exact H2
/-- The same, at the class of the worlds that are as this one was below what is new. -/
theorem region_quiet_tail {id : Nat} {Q : Exit → Act → World → Prop} {a : Act} {w : World} {l : List Oper} (n : Nat) (hm : P.follows .mixedOrders = true) (hB : Region.lexTailB .any l.toArray n = true)
    (h : wpQuiet P l.toArray (fun w' => ∃ x : Later w.heap.size w, w' = x.wd) (fun a' => ∀ w', Below w.heap.size w w' → wpList P l.toArray Q (l.drop n) a' w') (l.take n) a) : (Code.region id l.toArray true).wp P Q a w := by
  refine wp_quiet_tail (C := fun w' => ∃ x : Later w.heap.size w, w' = x.wd) n hm hB ⟨⟨w.drew, (Below.refl _ _).drew⟩, rfl⟩ ?_
  have e : (fun a' => ∀ w', (∃ x : Later w.heap.size w, w' = x.wd) → wpList P l.toArray Q (l.drop n) a' w') = (fun a' => ∀ w', Below w.heap.size w w' → wpList P l.toArray Q (l.drop n) a' w') := by
    funext a'
    apply propext
    constructor
    · exact fun h w' hb => h w' ⟨⟨w', hb⟩, rfl⟩
    · rintro h w' ⟨x, rfl⟩
      exact h _ x.below
  rw [e]
  exact h
end
end Go.Proofs.YtinhaipnmmgplaaGreat

/-
  A region that draws its order, operation by operation: what reads is taken first, the rest whichever comes up.
-/
namespace Go.Proofs.YtinhaipnmmgplaaGreat
set_option maxRecDepth 20000
open Go.RowKit
set_option linter.unusedSimpArgs false
section
variable {P : Program} {md : Region.Mode} {ops : Array Oper} {Q : Exit → Act → World → Prop} {S : World → Prop} {fuel : Nat} {listed : Array Bool} {a : Act} {w : World}
/-- A read is taken first. -/
theorem held_take {i : Nat} {oi : Oper} (hi : ops[i]? = some oi) (hs : Region.noSelect ops = true) (hf : Region.free md ops listed i = true) (hr : (Region.ready md ops listed).contains i = true)
    (hQ : ∀ c v a w, Q (.panic c) (a.put oi.dst v) w → Q (.panic c) a w) (hS : S w) (hw : Region.wanted oi (yielded ops a.tmps) = true)
    (h : ∃ v, (∀ w, S w → (execOp a.eval oi).run P w = .ok (.value v) w) ∧ wpAnyH P md ops Q S fuel (listed.setIfInBounds i true) (a.put oi.dst v) w) : wpAnyH P md ops Q S (fuel + 1) listed a w := by
  obtain ⟨v, h1, h2⟩ := h
  exact wpAnyH_take hi hs hf hr (fun c a w => hQ c v a w) (Or.inl ⟨hw, h1⟩) hS h2
/-- What is not wanted is taken first. -/
theorem held_skip {i : Nat} {oi : Oper} (hi : ops[i]? = some oi) (hs : Region.noSelect ops = true) (hf : Region.free md ops listed i = true) (hr : (Region.ready md ops listed).contains i = true)
    (hQ : ∀ c v a w, Q (.panic c) (a.put oi.dst v) w → Q (.panic c) a w) (hS : S w) (hw : Region.wanted oi (yielded ops a.tmps) = false)
    (h : wpAnyH P md ops Q S fuel (listed.setIfInBounds i true) (a.put oi.dst undef) w) : wpAnyH P md ops Q S (fuel + 1) listed a w :=
  wpAnyH_take hi hs hf hr (fun c a w => hQ c undef a w) (Or.inr ⟨hw, rfl⟩) hS h
end
/-- What holds behind each operation may be told more of on the way. -/
theorem held_more {P : Program} {md : Region.Mode} {ops : Array Oper} {Q : Exit → Act → World → Prop} {S S2 : World → Prop} (hS : ∀ w, S2 w → S w) : ∀ {fuel : Nat} {listed : Array Bool} {a : Act} {w : World}, wpAnyH P md ops Q S2 fuel listed a w → wpAnyH P md ops Q S fuel listed a w
  | 0, _, _, _, h => h
  | _ + 1, _, _, _, h => ⟨h.1, fun i hi => wpOp_mono (fun _ _ h' => ⟨hS _ h'.1, held_more hS h'.2⟩) (h.2 i hi)⟩
theorem act_put (l : List Value) (ds : List Deferred) (d : Tmp) (v : Value) : ({ tmps := l.toArray, defers := ds } : Act).put (some d) v = { tmps := (l.set d v).toArray, defers := ds } := by simp [Act.put]
theorem act_put_none (a : Act) (v : Value) : a.put none v = a := rfl
end Go.Proofs.YtinhaipnmmgplaaGreat

/-
  A region that draws its order, operation by operation, with a tail that waits for all the rest: what holds behind each operation is asked of those ahead of the tail alone.
-/
namespace Go.Proofs.YtinhaipnmmgplaaGreat
set_option maxRecDepth 20000
open Go.RowKit
set_option linter.unusedSimpArgs false
section
variable {P : Program} {md : Region.Mode} {ops : Array Oper} {Q : Exit → Act → World → Prop} {S : World → Prop} {m : Nat}
def wpAnyT (P : Program) (md : Region.Mode) (ops : Array Oper) (Q : Exit → Act → World → Prop) (S : World → Prop) (m : Nat) : Nat → Array Bool → Act → World → Prop
  | 0, listed, a, w => Region.ready md ops listed = [] ∧ Q .normal a w
  | fuel + 1, listed, a, w => (Region.ready md ops listed = [] → Q .normal a w) ∧ ∀ i ∈ Region.ready md ops listed, wpOp P ops Q i (fun a' w' => (i < m → S w') ∧ wpAnyT P md ops Q S m fuel (listed.setIfInBounds i true) a' w') a w
theorem wpAny_of_T : ∀ (fuel : Nat) (listed : Array Bool) (a : Act) (w : World), wpAnyT P md ops Q S m fuel listed a w → wpAny P md ops Q fuel listed a w
  | 0, _, _, _, h => h
  | fuel + 1, _, _, _, h => ⟨h.1, fun i hi => wpOp_mono (fun a' w' h' => wpAny_of_T fuel _ a' w' h'.2) (h.2 i hi)⟩
/-- Each operation from m on waits for each one ahead of m. -/
def tailB (md : Region.Mode) (ops : Array Oper) (m : Nat) : Bool := (List.range ops.size).all fun t => decide (t < m) || (List.range m).all fun i => match ops[t]? with
  | some o => o.after.any fun e => Region.binds md e && e.on == i
  | none => true
theorem tail_after (hT : tailB md ops m = true) {i j : Nat} {listed : Array Bool} (him : i < m) (hun : listed.getD i true = false) (hj : j ∈ Region.ready md ops listed) : j < m := by
  obtain ⟨_, oj, hoj, hall⟩ := mem_ready.1 hj
  rcases Nat.lt_or_ge j m with h | h
  · exact h
  · exfalso
    have hjs : j < ops.size := (Array.getElem?_eq_some_iff.1 hoj).1
    have h1 := List.all_eq_true.1 hT j (List.mem_range.2 hjs)
    rw [Bool.or_eq_true, decide_eq_true_eq] at h1
    rcases h1 with h1 | h1
    · omega
    · have h2 := List.all_eq_true.1 h1 i (List.mem_range.2 him)
      rw [hoj] at h2
      obtain ⟨e, he, hb⟩ := Array.any_eq_true'.1 h2
      rw [Bool.and_eq_true, beq_iff_eq] at hb
      have h3 := hall e he hb.1
      rw [hb.2, getD_both hun] at h3
      cases h3
theorem wpAnyT_first {i : Nat} {oi : Oper} {v : Value} (hi : ops[i]? = some oi) (hsel : ∀ (j : Nat) (o : Oper) cs b, ops[j]? = some o → o.op ≠ .select cs b)
    (hQ : ∀ c a w, Q (.panic c) (a.put oi.dst v) w → Q (.panic c) a w) (hT : tailB md ops m = true) (him : i < m) :
    ∀ (fuel : Nat) (listed : Array Bool) (a : Act) (w : World),
      (∀ j oj, ops[j]? = some oj → j ≠ i → listed.getD j true = false → (∀ e ∈ oj.after, Region.binds md e = true → e.on ≠ i) → oi.apart ops oj = true) →
      i ∈ Region.ready md ops listed → YieldsIf P ops S oi v a → S w →
      wpAnyT P md ops Q S m fuel (listed.setIfInBounds i true) (a.put oi.dst v) w → wpAnyT P md ops Q S m (fuel + 1) listed a w := by
  intro fuel
  induction fuel with
  | zero =>
    intro listed a w _ hr hy hS H
    refine ⟨fun h => (by rw [h] at hr; cases hr), fun j hj => ?_⟩
    by_cases hji : j = i
    · subst hji; exact hy.wpOp hi hS ⟨fun _ => hS, H⟩
    · have h0 := ready_mono hj hji
      rw [H.1] at h0
      cases h0
  | succ fuel ih =>
    intro listed a w hfree hr hy hS H
    refine ⟨fun h => (by rw [h] at hr; cases hr), fun j hj => ?_⟩
    by_cases hji : j = i
    · subst hji; exact hy.wpOp hi hS ⟨fun _ => hS, H⟩
    · have h1 := H.2 j (ready_mono hj hji)
      have hun := (mem_ready.1 hr).1
      have hjm := tail_after hT him hun hj
      obtain ⟨hjun, oj, hoj, hall⟩ := mem_ready.1 hj
      have hnot : ∀ e ∈ oj.after, Region.binds md e = true → e.on ≠ i := fun e he hb heq => by
        have h3 := hall e he hb
        rw [heq, getD_both hun] at h3
        cases h3
      have h2 := wpOp_putIf hoj (hfree j oj hoj hji hjun hnot) (fun cs b => hsel i oi cs b hi) (fun cs b => hsel j oj cs b hoj) hQ hy h1
      have hfree' : ∀ k ok, ops[k]? = some ok → k ≠ i → (listed.setIfInBounds j true).getD k true = false →
          (∀ e ∈ ok.after, Region.binds md e = true → e.on ≠ i) → oi.apart ops ok = true := fun k ok hk hki hku hno => by
        refine hfree k ok hk hki ?_ hno
        by_cases hjk : j = k
        · subst hjk; exact hjun
        · rwa [getD_set_ne true hjk] at hku
      refine wpOp_mono (fun a' w' h3 => ⟨h3.2.1, ih (listed.setIfInBounds j true) a' w' hfree' (ready_mono hr (Ne.symm hji)) h3.1 (h3.2.1 hjm) ?_⟩) h2
      rw [Array.setIfInBounds_comm _ _ hji]
      exact h3.2.2
variable {fuel : Nat} {listed : Array Bool} {a : Act} {w : World}
/-- A read is taken first. -/
theorem tail_take {i : Nat} {oi : Oper} (hi : ops[i]? = some oi) (hT : tailB md ops m = true) (him : i < m) (hs : Region.noSelect ops = true) (hf : Region.free md ops listed i = true) (hr : (Region.ready md ops listed).contains i = true)
    (hQ : ∀ c v a w, Q (.panic c) (a.put oi.dst v) w → Q (.panic c) a w) (hS : S w) (hw : Region.wanted oi (yielded ops a.tmps) = true)
    (h : ∃ v, (∀ w, S w → (execOp a.eval oi).run P w = .ok (.value v) w) ∧ wpAnyT P md ops Q S m fuel (listed.setIfInBounds i true) (a.put oi.dst v) w) : wpAnyT P md ops Q S m (fuel + 1) listed a w := by
  obtain ⟨v, h1, h2⟩ := h
  exact wpAnyT_first hi (Region.noSelect_spec hs) (fun c a w => hQ c v a w) hT him fuel listed a w (Region.free_spec hi hf) (by simpa using hr) (Or.inl ⟨hw, h1⟩) hS h2
/-- What is not wanted is taken first. -/
theorem tail_skip {i : Nat} {oi : Oper} (hi : ops[i]? = some oi) (hT : tailB md ops m = true) (him : i < m) (hs : Region.noSelect ops = true) (hf : Region.free md ops listed i = true) (hr : (Region.ready md ops listed).contains i = true)
    (hQ : ∀ c v a w, Q (.panic c) (a.put oi.dst v) w → Q (.panic c) a w) (hS : S w) (hw : Region.wanted oi (yielded ops a.tmps) = false)
    (h : wpAnyT P md ops Q S m fuel (listed.setIfInBounds i true) (a.put oi.dst undef) w) : wpAnyT P md ops Q S m (fuel + 1) listed a w :=
  wpAnyT_first hi (Region.noSelect_spec hs) (fun c a w => hQ c undef a w) hT him fuel listed a w (Region.free_spec hi hf) (by simpa using hr) (Or.inr ⟨hw, rfl⟩) hS h
def AllReadyT (P : Program) (md : Region.Mode) (ops : Array Oper) (Q : Exit → Act → World → Prop) (S : World → Prop) (m : Nat) (fuel : Nat) (listed : Array Bool) (a : Act) (w : World) (rs : List Nat) : Prop :=
  ∀ i ∈ rs, wpOp P ops Q i (fun a' w' => (i < m → S w') ∧ wpAnyT P md ops Q S m fuel (listed.setIfInBounds i true) a' w') a w
theorem AllReadyT.nil : AllReadyT P md ops Q S m fuel listed a w [] := fun _ h => by cases h
/-- Ahead of the tail. -/
theorem AllReadyT.cons {i : Nat} {o : Oper} {rs : List Nat} (ho : ops[i]? = some o)
    (h : ∀ K' : Act → World → Prop, Shut (∀ a w, S w → (S w → wpAnyT P md ops Q S m fuel (listed.setIfInBounds i true) a w) → K' a w) → if Region.wanted o (yielded ops a.tmps) = true then Oper.wp P o a w K' Q else K' (a.put o.dst undef) w)
    (hs : AllReadyT P md ops Q S m fuel listed a w rs) : AllReadyT P md ops Q S m fuel listed a w (i :: rs) := fun j hj => by
  rcases List.mem_cons.1 hj with rfl | hj
  · exact wpOp_step ho (fun K' hK => h K' (fun a w hS hW => hK a w ⟨fun _ => hS, hW hS⟩))
  · exact hs j hj
/-- In the tail. -/
theorem AllReadyT.last {i : Nat} {o : Oper} {rs : List Nat} (ho : ops[i]? = some o) (him : m ≤ i)
    (h : ∀ K' : Act → World → Prop, Shut (∀ a w, wpAnyT P md ops Q S m fuel (listed.setIfInBounds i true) a w → K' a w) → if Region.wanted o (yielded ops a.tmps) = true then Oper.wp P o a w K' Q else K' (a.put o.dst undef) w)
    (hs : AllReadyT P md ops Q S m fuel listed a w rs) : AllReadyT P md ops Q S m fuel listed a w (i :: rs) := fun j hj => by
  rcases List.mem_cons.1 hj with rfl | hj
  · exact wpOp_step ho (fun K' hK => h K' (fun a w hW => hK a w ⟨fun h => by omega, hW⟩))
  · exact hs j hj
theorem wpAnyT_ready {rs : List Nat} (hr : Region.ready md ops listed = rs) (hne : rs ≠ []) (h : AllReadyT P md ops Q S m fuel listed a w rs) : wpAnyT P md ops Q S m (fuel + 1) listed a w :=
  ⟨fun h0 => absurd (hr ▸ h0) hne, hr ▸ h⟩
theorem wpAnyT_done (hr : Region.ready md ops listed = []) (h : Q .normal a w) : ∀ fuel, wpAnyT P md ops Q S m fuel listed a w
  | 0 => ⟨hr, h⟩
  | _ + 1 => ⟨fun _ => h, by rw [hr]; simp⟩
/-- The beginning. -/
theorem wp_region_tail_drew {id : Nat} (hm : P.follows .mixedOrders = true) (hS : S w.drew)
    (h : S w.drew → wpAnyT P .any ops Q S m ops.size (Array.replicate ops.size false) a w.drew) : (Code.region id ops true).wp P Q a w :=
  wp_region_any hm (wpAny_of_T _ _ _ _ (h hS))
end
end Go.Proofs.YtinhaipnmmgplaaGreat
