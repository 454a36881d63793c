/-
  Layer 11 (disk): memory that is changed at one block, copies of bytes, a disk as a block.
-/
import Derived.Test.YtfnbcafilbafgaaDoorBytes
import Derived.Test.YtfnbcafilbafgaaDoorTail
import Derived.Deep.AppendSrc
import Derived.Deep.Upon
import Derived.Deep.OwnRows
import Derived.Laws.IdiomCopy
namespace Go.Proofs.YtfnbcafilbafgaaDoor
open Go.RowKit
set_option linter.unusedSimpArgs false
set_option linter.unusedVariables false
/-- All that there was is as it was, but for block p. -/
structure Bt (p : Nat) (w w' : World) : Prop where
  os : w'.os = w.os
  tape : w'.tape = w.tape
  output : w'.output = w.output
  size : w.heap.size ≤ w'.heap.size
  block : ∀ k, k < w.heap.size → k ≠ p → w'.heap[k]? = w.heap[k]?
theorem Bt.of {p : Nat} {w w' : World} (h : Below w.heap.size w w') : Bt p w w' := ⟨h.os, h.tape, h.output, h.size, fun k hk _ => h.block k hk⟩
theorem Bt.refl (p : Nat) (w : World) : Bt p w w := Bt.of (Below.refl _ _)
theorem Bt.trans {p : Nat} {a b c : World} (h : Bt p a b) (g : Bt p b c) : Bt p a c :=
  ⟨g.os.trans h.os, g.tape.trans h.tape, g.output.trans h.output, Nat.le_trans h.size g.size, fun k hk hn => (g.block k (Nat.lt_of_lt_of_le hk h.size) hn).trans (h.block k hk hn)⟩
theorem Bt.then {p : Nat} {a b c : World} (h : Bt p a b) (g : Below b.heap.size b c) : Bt p a c := h.trans (Bt.of g)
theorem Bt.below {p B : Nat} {w w' : World} (h : Bt p w w') (hp : B ≤ p) (hB : B ≤ w.heap.size) : Below B w w' := ⟨h.os, h.tape, h.output, h.size, fun k hk => h.block k (by omega) (by omega)⟩
theorem Bt.setCell (p i : Nat) (w : World) (v : Value) : Bt p w (w.setCell ⟨p, i, none⟩ v) :=
  ⟨rfl, rfl, rfl, by simp [World.setCell], fun k _ hn => heap_setCell_other w ⟨p, i, none⟩ k v (by show k ≠ p; exact hn)⟩
theorem Bt.row {p k : Nat} {w w' : World} (h : Bt p w w') (hk : k < w.heap.size) (hn : k ≠ p) : rowAt w' k = rowAt w k := rowAt_of_heap (h.block k hk hn)
theorem Bt.cell {p : Nat} {w w' : World} (h : Bt p w w') {b i : Nat} (hk : b < w.heap.size) (hn : b ≠ p) : w'.cell? ⟨b, i, none⟩ = w.cell? ⟨b, i, none⟩ := World.cell?_of_block (h.block b hk hn)
/-- A row that is written cell by cell. -/
theorem row_setCells {g : Nat} {T : TypeId} : ∀ (vs : List Value) (o : Nat) (w : World) (cur : Array Value), rowAt w g = some (cur, T) →
    ∃ cur' : Array Value, rowAt (w.setCells g o vs) g = some (cur', T) ∧ cur'.size = cur.size ∧ ∀ i, i < cur.size → cur'[i]? = if o ≤ i ∧ i < o + vs.length then vs[i - o]? else cur[i]?
  | [], o, w, cur, h => ⟨cur, h, rfl, fun i _ => by rw [if_neg (by simp)]⟩
  | v :: vs, o, w, cur, h => by
    obtain ⟨c', h1, h2, h3⟩ := row_setCells vs (o + 1) (w.setCell ⟨g, o, none⟩ v) _ (rowAt_setCell_same o v h)
    rw [Array.size_setIfInBounds] at h2 h3
    refine ⟨c', h1, h2, fun i hi => ?_⟩
    rw [h3 i hi]
    by_cases hio : i = o
    · subst hio
      rw [if_neg (by omega), if_pos (by simp), Array.getElem?_setIfInBounds_self_of_lt hi]
      simp
    · rw [Array.getElem?_setIfInBounds_ne (fun h => hio h.symm)]
      by_cases hc : o + 1 ≤ i ∧ i < o + 1 + vs.length
      · rw [if_pos hc, if_pos (by simp; omega), show i - o = (i - (o + 1)) + 1 by omega, List.getElem?_cons_succ]
      · rw [if_neg hc, if_neg (by simp; omega)]
theorem below_setCells {g o : Nat} {w : World} {vs : List Value} {T : TypeId} {cur : Array Value} (hr : rowAt w g = some (cur, T)) : Below g w (w.setCells g o vs) := by
  refine ⟨World.os_setCells _ _ _ _, ?_, World.output_setCells _ _ _ _, ?_, fun k hk => World.heap_setCells_other w g o vs (Nat.lt_trans hk (rowAt_lt hr)) (by omega)⟩
  · clear hr
    induction vs generalizing o w with
    | nil => rfl
    | cons v vs ih => exact ih
  · clear hr
    induction vs generalizing o w with
    | nil => exact Nat.le_refl _
    | cons v vs ih => exact Nat.le_trans (by simp [World.setCell]) (ih (o := o + 1) (w := w.setCell ⟨g, o, none⟩ v))
theorem made_size (n : Nat) : (madeCells #[Value.int .u8 0] n).size = n := by simp [madeCells]
/-- copy of bytes into a block that was just made. -/
theorem copy_own {w : World} (ty : TypeId) (g : Nat) (A : Option Addr) (l : List UInt8) (c : Nat) (hr : rowAt w g = some (madeCells #[.int .u8 0] l.length, 5)) (hl : IsBy w A l) :
    ∃ w', (Builtin.copy_ #[24, 24] ty #[.slice (some ⟨g, 0, none⟩) l.length l.length, .slice A l.length c]).run Tryd.prog w = .ok (.int .i64 l.length) w' ∧ rowAt w' g = some ((l.map bc).toArray, 5) ∧ Below g w w' := by
  obtain ⟨i0, hi, hz0, hz1, hz2⟩ := info_byte
  have hsz : (Tryd.prog.info? 5).map (·.size) = some 1 := by rw [hi]; exact congrArg some hz1
  cases l with
  | nil =>
    have hrun := run_copy_none (P := Tryd.prog) w 24 24 ty 5 (some ⟨g, 0, none⟩) A 0 0 0 c Tryd.underlying24 hsz rfl
    exact ⟨w, hrun, by rw [hr, show madeCells #[Value.int .u8 0] [].length = #[] from Array.eq_empty_of_size_eq_zero (made_size 0)]; rfl, Below.refl _ _⟩
  | cons x xs =>
    obtain ⟨b, off, hA, _⟩ := hl 0 (by simp)
    subst hA
    have hcells : ∀ j v, ((x :: xs).map bc)[j]? = some v → w.cell? ((⟨b, off, none⟩ : Addr).add j) = some v := fun j v hj => by
      have hj2 : j < (x :: xs).length := by
        have := (List.getElem?_eq_some_iff.1 hj).1
        simpa using this
      obtain ⟨b', o', h1, h2⟩ := hl j hj2
      injection h1 with h1
      rw [h1, Addr.add_lit, h2]
      rw [← hj, List.getElem?_map, List.getElem?_eq_getElem hj2]
      simp [List.getD, List.getElem?_eq_getElem hj2]
    have hlen : ((x :: xs).map bc).length = Nat.min (x :: xs).length (x :: xs).length := by simp
    have hdst : ∀ j, j < ((x :: xs).map bc).length → (w.cell? ⟨g, 0 + j, none⟩).isSome = true := fun j hj => by
      rw [cell_of_rowAt hr, Array.getElem?_eq_getElem (by rw [made_size]; simpa using hj)]; rfl
    have hrun := run_copy_cells (P := Tryd.prog) w 24 24 ty 5 g 0 (x :: xs).length (x :: xs).length ⟨b, off, none⟩ (x :: xs).length c ((x :: xs).map bc) Tryd.underlying24 hsz hlen hcells hdst
      (fun j _ => frozen_of_rowAt hr _) (fun v hv => by obtain ⟨y, _, rfl⟩ := List.mem_map.1 hv; rfl)
    obtain ⟨cur', g1, g2, g3⟩ := row_setCells ((x :: xs).map bc) 0 w _ hr
    have hcur : cur' = ((x :: xs).map bc).toArray := by
      rw [made_size] at g2 g3
      refine Array.ext_getElem? fun i => ?_
      by_cases hi2 : i < (x :: xs).length
      · rw [g3 i hi2, if_pos ⟨Nat.zero_le _, by simpa using hi2⟩]; simp
      · rw [Array.getElem?_eq_none (by omega), Array.getElem?_eq_none (by simp at hi2 ⊢; omega)]
    have e : goInt (((x :: xs).map bc).length) = Value.int .i64 ((x :: xs).length : Nat) := by simp [goInt]
    rw [e] at hrun
    exact ⟨_, hrun, by rw [← hcur]; exact g1, below_setCells hr⟩
/-- A copy in memory of its own. -/
theorem own_any (A : Option Addr) (c : Nat) (l : List UInt8) (w : World) (hl : IsBy w A l) (hlc : l.length ≤ c) (hlen : l.length ≤ 70368744177664) :
    Calls Tryd.prog 35 #[.slice A l.length c] w fun e w' => ∃ g, e = .returned (.slice (some ⟨g, 0, none⟩) l.length l.length) ∧ rowAt w' g = some ((l.map bc).toArray, 5) ∧ w.heap.size ≤ g ∧ Below w.heap.size w w' := by
  have hmk := run_make_row' (P := Tryd.prog) 24 5 (.int .u8 0) 1 Tryd.underlying24 (by kernel_rfl) rfl .i64 .i64 l.length (by omega) (by omega)
  have HL := Lib.hid hl
  clear hl
  go_enter Tryd.func35, Tryd.ntmps35
  obtain ⟨w', hcp, hr, hb⟩ := copy_own (w := w.alloc (.cells (madeCells #[.int .u8 0] l.length) 5)) 3 w.heap.size A l c (rowAt_alloc_at _ _ _ _ rfl) (HL.out.alloc _)
  have HR := Lib.hid hr
  have HB := Lib.hid (((Below.refl w.heap.size w).alloc (Nat.le_refl _) _).trans hb)
  clear hr hb
  go_wp2_with fail
  all_goals go_ret
  all_goals exact ⟨w.heap.size, rfl, HR.out, Nat.le_refl _, HB.out⟩
theorem isBy_full {w : World} {g : Nat} {l : List UInt8} {T : TypeId} (h : rowAt w g = some ((l.map bc).toArray, T)) : IsBy w (some ⟨g, 0, none⟩) l :=
  isBy_row h fun i hi => by simp [List.getD, List.getElem?_eq_getElem hi]
/-- append to bytes without room: what there was stays. -/
theorem app_full {w : World} {A B : Option Addr} {l t : List UInt8} {c : Nat} (hl : IsBy w A l) (hA : A = none → l = []) (ht : IsBy w B t) (hB : B = none → c = 0) (hlen : l.length + t.length ≤ 140737488355328) (ty : TypeId) :
    ∃ A' c' w', (Builtin.append_ #[24, 24] ty #[.slice A l.length l.length, .slice B t.length c]).run Tryd.prog w = .ok (.slice A' (l ++ t).length c') w' ∧ IsBy w' A' (l ++ t) ∧ (l ++ t).length ≤ c' ∧ (A' = none → c' = 0) ∧ Below w.heap.size w w' ∧ ((t = [] ∧ A' = A) ∨ (t ≠ [] ∧ ∃ x, A' = some x ∧ w.heap.size ≤ x.block)) := by
  obtain ⟨i0, hi, hz0, hz1, hz2⟩ := info_byte
  have zero : ∀ {B : Option Addr} {c : Nat} {t : List UInt8}, IsBy w B t → (B = none → c = 0) → Src Tryd.prog i0.size 24 (.slice B t.length c) t.length (t.map bc) w := by
    intro B c t ht hB
    cases B with
    | none =>
      have : t = [] := by
        cases t with
        | nil => rfl
        | cons y ys => obtain ⟨b, o, h1, _⟩ := ht 0 (by simp); cases h1
      subst this
      exact Src.ofNil w Tryd.underlying24 c
    | some b =>
      refine Src.ofSlice w Tryd.underlying24 b _ c _ (by rw [hz1]; simp) (fun j u hj => ?_) (fun u hu => by obtain ⟨y, _, rfl⟩ := List.mem_map.1 hu; rfl)
      have hj2 : j < t.length := by
        have := (List.getElem?_eq_some_iff.1 hj).1
        simpa using this
      obtain ⟨b', o', h1, h2⟩ := ht j hj2
      injection h1 with h1
      rw [h1, Addr.add_lit, h2, ← hj, List.getElem?_map, List.getElem?_eq_getElem hj2]
      simp [List.getD, List.getElem?_eq_getElem hj2]
  have hs := zero ht hB
  cases t with
  | nil =>
    refine ⟨A, l.length, w, ?_, by rw [List.append_nil]; exact hl, by simp, fun h => by rw [hA h]; rfl, Below.refl _ _, Or.inl ⟨rfl, rfl⟩⟩
    rw [List.append_nil]
    exact run_append_nothing w 24 24 ty 5 i0 Tryd.underlying24 hi A l.length l.length (Nat.le_refl _) _ hs
  | cons x xs =>
    have hold : (Builtin.firstCells i0.size l.length (.slice A l.length l.length)).run Tryd.prog w.drew = .ok (l.map bc).toArray w.drew := by
      have h := (zero (B := A) (c := l.length) hl (fun h => by rw [hA h]; rfl)).cellsD
      exact h
    have hrun := run_append_grow_src w 24 24 ty 5 i0 (.int .u8 0) Tryd.underlying24 hi hz0 A l.length l.length (l.map bc) hold _ _ _ hs (by simp) (by simp at hlen ⊢; omega)
      (growslice_fits (by simp) (by rw [hz2]; simp at hlen ⊢; omega))
    refine ⟨_, _, _, by rw [hrun, List.length_append], ?_, ?_, fun h => (by cases h), (Below.refl _ _).drew.alloc (Nat.le_refl _) _, Or.inr ⟨by simp, _, rfl, Nat.le_refl _⟩⟩
    · refine isBy_row (rowAt_alloc_at _ _ _ _ rfl) fun i hi2 => ?_
      rw [Nat.zero_add, Array.getElem?_append_left (by simpa using hi2)]
      have : ((l.map bc ++ (x :: xs).map bc).toArray)[i]? = ((l ++ (x :: xs)).map bc)[i]? := by rw [List.map_append]; simp
      rw [this, List.getElem?_map, List.getElem?_eq_getElem hi2]
      simp [List.getD, List.getElem?_eq_getElem hi2]
    · rw [List.length_append]; exact grownCap_ge _ _ _ _
/-- A disk. -/
def DK (w : World) (p : Nat) (s : Int) (l : List UInt8) (f : Int) : Prop :=
  ∃ A c, rowAt w p = some (#[.int .i64 s, .slice A l.length c, .int .i64 f], 62) ∧ IsBy w A l ∧ l.length ≤ c ∧ (A = none → c = 0)
/-- A disk whose bytes lie so. -/
def DKX (X : Option Addr → Prop) (w : World) (p : Nat) (s : Int) (l : List UInt8) (f : Int) : Prop :=
  ∃ A c, rowAt w p = some (#[.int .i64 s, .slice A l.length c, .int .i64 f], 62) ∧ IsBy w A l ∧ l.length ≤ c ∧ (A = none → c = 0) ∧ X A
theorem DKX.dk {X : Option Addr → Prop} {w : World} {p : Nat} {l : List UInt8} {s f : Int} (h : DKX X w p s l f) : DK w p s l f := by
  obtain ⟨A, c, h1, h2, h3, h4, _⟩ := h
  exact ⟨A, c, h1, h2, h3, h4⟩
theorem DK.dkx {w : World} {p : Nat} {l : List UInt8} {s f : Int} (h : DK w p s l f) : DKX (fun _ => True) w p s l f := by
  obtain ⟨A, c, h1, h2, h3, h4⟩ := h
  exact ⟨A, c, h1, h2, h3, h4, trivial⟩
theorem DKX.mono {X Y : Option Addr → Prop} {w : World} {p : Nat} {l : List UInt8} {s f : Int} (h : DKX X w p s l f) (hXY : ∀ A, IsBy w A l → X A → Y A) : DKX Y w p s l f := by
  obtain ⟨A, c, h1, h2, h3, h4, h5⟩ := h
  exact ⟨A, c, h1, h2, h3, h4, hXY _ h2 h5⟩
theorem DKX.below {X : Option Addr → Prop} {w w' : World} {p : Nat} {l : List UInt8} {s f : Int} (h : DKX X w p s l f) (hb : Below w.heap.size w w') : DKX X w' p s l f := by
  obtain ⟨A, c, h1, h2, h3, h4, h5⟩ := h
  exact ⟨A, c, (rowAt_below hb p (rowAt_lt h1)).trans h1, h2.below hb, h3, h4, h5⟩
theorem DK.lt {w : World} {p : Nat} {l : List UInt8} {s f : Int} (h : DK w p s l f) : p < w.heap.size := by
  obtain ⟨A, c, h1, _⟩ := h
  exact rowAt_lt h1
theorem DK.below {w w' : World} {p : Nat} {l : List UInt8} {s f : Int} (h : DK w p s l f) (hb : Below w.heap.size w w') : DK w' p s l f := by
  have hp := h.lt
  obtain ⟨A, c, h1, h2, h3, h4⟩ := h
  exact ⟨A, c, (rowAt_below hb p hp).trans h1, h2.below hb, h3, h4⟩
/-- Bytes do not lie in a disk's block. -/
theorem isBy_ne {w : World} {p : Nat} {l t : List UInt8} {s f : Int} {A : Option Addr} (h : DK w p s l f) (ht : IsBy w A t) {i : Nat} (hi : i < t.length) {b o : Nat} (hA : A = some ⟨b, o, none⟩) : b ≠ p := by
  rintro rfl
  obtain ⟨A', c, h1, _⟩ := h
  obtain ⟨b', o', g1, g2⟩ := ht i hi
  rw [hA] at g1
  injection g1 with g1
  injection g1 with g3 g4
  subst g3 g4
  rw [cell_of_rowAt h1] at g2
  rcases h3 : o + i with _ | _ | _ | k
  · rw [h3] at g2; simp [bc] at g2
  · rw [h3] at g2; simp [bc] at g2
  · rw [h3] at g2; simp [bc] at g2
  · rw [h3] at g2; simp [bc] at g2
theorem IsBy.bt {w w' : World} {p : Nat} {l t : List UInt8} {s f : Int} {A : Option Addr} (ht : IsBy w A t) (h : DK w p s l f) (hb : Bt p w w') : IsBy w' A t := by
  intro i hi
  obtain ⟨b, o, g1, g2⟩ := ht i hi
  exact ⟨b, o, g1, (hb.cell (World.block_lt_of_cell? _ _ g2) (isBy_ne h ht hi g1)).trans g2⟩
theorem DK.bt {w w' : World} {p q : Nat} {l t : List UInt8} {s f s' f' : Int} (hq : DK w q s' t f') (h : DK w p s l f) (hb : Bt p w w') (hn : q ≠ p) : DK w' q s' t f' := by
  have hlt := hq.lt
  obtain ⟨A, c, h1, h2, h3, h4⟩ := hq
  exact ⟨A, c, (hb.row hlt hn).trans h1, h2.bt h hb, h3, h4⟩
end Go.Proofs.YtfnbcafilbafgaaDoor
