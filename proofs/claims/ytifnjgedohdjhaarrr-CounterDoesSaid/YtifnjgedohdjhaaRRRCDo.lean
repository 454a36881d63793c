/-
  Layer 4 (counter): Inc, Dec, Hand.
-/
import Derived.Test.YtifnjgedohdjhaaRRRCRight
import Derived.Test.YtifnjgedohdjhaaRRRRDo
import Derived.Test.YtifnjgedohdjhaaRRRRMove
namespace Go.Proofs.YtifnjgedohdjhaaRRR
open Go.RowKit
set_option linter.unusedSimpArgs false
attribute [local go_sem] rowCells rowAt_drewN get_ints getE_ints set_ints size_ints rowAt_alloc rowAt_drew setRow_alloc setRow_drewN setRow_drew setCell_alloc setCell_drewN splice_upd splice_put splice_all load_vec_cut load_vecs_cut load_rights_cut load_counter store_vec store_rights store_counter eql_vec neq_vec index_vec eql_rights neq_rights eql_counter index_vecs cut_ints sub_zero
attribute [local go_sem ↓] xload_vec xstore_vec xalloc_vec xeql_vec xneq_vec xindex_vec xbuild_vec0 xload_rights xstore_rights xalloc_rights xeql_rights xneq_rights xbuild_rights0 xload_vecs xindex_vecs xload_counter xstore_counter xalloc_counter xbuild_counter0 xeql_counter xbuild_counter3
attribute [local go_sem] rowAt_setRow rowAt_setCell load_vec_cut_later load_rights_later load_counter_later Later.cell Later.frozen build3_ints
attribute [local go_sem] rn_true rn_false re_true re_false eqI_self
/-- A counter with other rights. -/
def dn (d u c : Nat → Int) : Nat → Int := fun i => if 3 ≤ i ∧ i < 291 then d (i - 3) else if 291 ≤ i ∧ i < 579 then u (i - 291) else c i
theorem put_dn (d u c : Nat → Int) : put 3 d (put 291 u c) = dn d u c := by
  funext i
  simp only [put, dn, Nat.reduceAdd]
theorem put_nd (d u c : Nat → Int) : put 291 u (put 3 d c) = dn d u c := by
  funext i
  simp only [put, dn, Nat.reduceAdd]
  by_cases h1 : 3 ≤ i ∧ i < 291
  · rw [if_pos h1, if_pos h1, if_neg (by omega)]
  · rw [if_neg h1, if_neg h1]
/-- Of what lay below w, only the block p has changed: it is a counter now. -/
structure Puts (p : Nat) (c : Nat → Int) (w w' : World) : Prop where
  below : Below p w w'
  size : w.heap.size ≤ w'.heap.size
  row : rowAt w' p = some (ints 579 c, 28)
  rest : ∀ g, g ≠ p → g < w.heap.size → rowAt w' g = rowAt w g
theorem puts_of {p : Nat} {c c' : Nat → Int} {w : World} (hp : rowAt w p = some (ints 579 c, 28)) (A : Array Value) (o1 o2 : Obj) : Puts p c' w (((((w.setRow p A).setRow p (ints 579 c')).alloc o1).alloc o2).drew) := by
  have n0 := rowAt_lt hp
  have r1 : rowAt ((w.setRow p A).setRow p (ints 579 c')) p = some (ints 579 c', 28) := rowAt_setRow_same _ (rowAt_setRow_same _ hp)
  refine ⟨(((below_setRow' (below_setRow' (Below.refl p w) (Nat.le_refl p) _) (Nat.le_refl p) _).alloc (by simp; omega) _).alloc (by simp; omega) _).drew, by simp; omega, by rw [rowAt_drew]; exact rowPast (rowPast r1), fun g h1 h2 => ?_⟩
  rw [rowAt_drew, rowAt_alloc_past _ _ _ (by simp; omega), rowAt_alloc_past _ _ _ (by simp; omega), rowAt_setRow, if_neg h1, rowAt_setRow, if_neg h1]
set_option maxHeartbeats 2000000 in
theorem inc3_any (x y c : Nat → Int) (p : Nat) (w : World) (hp : rowAt w p = some (ints 579 c, 28)) : Calls Try.prog 39 #[.agg (ints 288 x), .agg (ints 288 y), .pointer (some ⟨p, 0, none⟩)] w fun e w' =>
    e = .returned (.tuple #[]) ∧ Puts p (dn y x c) w w' := by
  have n0 := rowAt_lt hp
  go_enter Try.func39, Try.ntmps39
  have r0 : rowAt ((w.alloc (.cells (ints 288 x) 26)).alloc (.cells (ints 288 y) 26)) p = some (ints 579 c, 28) := rowPast (rowPast hp)
  go_upto_region 1 with fail
  go_region
  go_wp2
  refine bodyPost_end (v := .tuple #[]) (by simp [results, show Try.f39.results = #[] from rfl]) rfl ?_
  refine ⟨rfl, ?_⟩
  rw [← put_dn]
  exact puts_of hp _ _ _
set_option maxHeartbeats 2000000 in
theorem dec3_any (x y c : Nat → Int) (p : Nat) (w : World) (hp : rowAt w p = some (ints 579 c, 28)) : Calls Try.prog 45 #[.agg (ints 288 x), .agg (ints 288 y), .pointer (some ⟨p, 0, none⟩)] w fun e w' =>
    e = .returned (.tuple #[]) ∧ Puts p (dn x y c) w w' := by
  have n0 := rowAt_lt hp
  go_enter Try.func45, Try.ntmps45
  have r0 : rowAt ((w.alloc (.cells (ints 288 x) 26)).alloc (.cells (ints 288 y) 26)) p = some (ints 579 c, 28) := rowPast (rowPast hp)
  go_upto_region 1 with fail
  go_region
  go_wp2
  refine bodyPost_end (v := .tuple #[]) (by simp [results, show Try.f45.results = #[] from rfl]) rfl ?_
  refine ⟨rfl, ?_⟩
  rw [← put_nd]
  exact puts_of hp _ _ _
set_option maxHeartbeats 2000000 in
theorem hand3_any (x y c : Nat → Int) (p : Nat) (w : World) (hp : rowAt w p = some (ints 579 c, 28)) : Calls Try.prog 49 #[.agg (ints 288 x), .agg (ints 288 y), .pointer (some ⟨p, 0, none⟩)] w fun e w' =>
    e = .returned (.tuple #[]) ∧ Puts p (dn x y c) w w' := by
  have n0 := rowAt_lt hp
  go_enter Try.func49, Try.ntmps49
  have r0 : rowAt ((w.alloc (.cells (ints 288 x) 26)).alloc (.cells (ints 288 y) 26)) p = some (ints 579 c, 28) := rowPast (rowPast hp)
  go_upto_region 1 with fail
  go_region
  go_wp2
  refine bodyPost_end (v := .tuple #[]) (by simp [results, show Try.f49.results = #[] from rfl]) rfl ?_
  refine ⟨rfl, ?_⟩
  rw [← put_nd]
  exact puts_of hp _ _ _
/-! The other closures: what they have captured is the counter, and numbers. -/
set_option maxHeartbeats 1000000 in
theorem inc1_any (c : Nat → Int) (k n : Int) (p a b : Nat) (w : World) (hp : rowAt w p = some (ints 579 c, 28)) (ha : rowAt w a = some (#[.int .i64 k], 3)) (hb : rowAt w b = some (#[.int .i64 n], 3)) :
    Calls Try.prog 35 #[.pointer (some ⟨p, 0, none⟩), .pointer (some ⟨a, 0, none⟩), .pointer (some ⟨b, 0, none⟩)] w fun e w' => e = .returned (.tuple #[.agg (ints 288 (useF (sub 291 c) k n)), .int .i64 (useE (sub 291 c) k n)]) ∧ Below w.heap.size w w' := by
  have n0 := Nat.ne_of_lt (rowAt_lt hp)
  have n1 := rowAt_lt ha
  have n2 := rowAt_lt hb
  have n3 := rowAt_lt hp
  have r0 : rowAt (w.alloc (.cells (ints 288 fun _ => 0) 26)) p = some (ints 579 c, 28) := rowPast hp
  have c1 : (w.alloc (.cells (ints 288 fun _ => 0) 26)).cell? ⟨a, 0, none⟩ = some (.int .i64 k) := by rw [cell_of_rowAt (rowPast ha)]; rfl
  have c2 : (w.alloc (.cells (ints 288 fun _ => 0) 26)).cell? ⟨b, 0, none⟩ = some (.int .i64 n) := by rw [cell_of_rowAt (rowPast hb)]; rfl
  go_enter Try.func35, Try.ntmps35
  go_wp2_with fail
  refine (use_any _ _ _ _).mono ?_
  rintro e w1 ⟨rfl, hb1⟩
  have r1 : rowAt w1 w.heap.size = some (ints 288 fun _ => 0, 26) := rowKeep hb1 (by simp [rowAt_alloc] <;> omega)
  have m1 := Nat.ne_of_lt (rowAt_lt r1)
  have HB := Lib.hid (((Below.refl _ _).alloc (Nat.le_refl _) _).trans (hb1.mono (by simp)))
  clear hb1 r0 c1 c2
  go_wp2
  refine ret_ct rfl rfl rfl rfl (by simp [go_sem, *]; rfl) ?_
  exact ⟨rfl, below_setRow' HB.out (Nat.le_refl _) _⟩
set_option maxHeartbeats 1000000 in
theorem inc2_any (c : Nat → Int) (k n : Int) (p a b : Nat) (w : World) (hp : rowAt w p = some (ints 579 c, 28)) (ha : rowAt w a = some (#[.int .i64 k], 3)) (hb : rowAt w b = some (#[.int .i64 n], 3)) :
    Calls Try.prog 37 #[.pointer (some ⟨p, 0, none⟩), .pointer (some ⟨a, 0, none⟩), .pointer (some ⟨b, 0, none⟩)] w fun e w' => e = .returned (.tuple #[.agg (ints 288 (giveF (sub 3 c) k n)), .int .i64 (giveE (sub 3 c) k n)]) ∧ Below w.heap.size w w' := by
  have n0 := Nat.ne_of_lt (rowAt_lt hp)
  have n1 := rowAt_lt ha
  have n2 := rowAt_lt hb
  have n3 := rowAt_lt hp
  have r0 : rowAt (w.alloc (.cells (ints 288 fun _ => 0) 26)) p = some (ints 579 c, 28) := rowPast hp
  have c1 : (w.alloc (.cells (ints 288 fun _ => 0) 26)).cell? ⟨a, 0, none⟩ = some (.int .i64 k) := by rw [cell_of_rowAt (rowPast ha)]; rfl
  have c2 : (w.alloc (.cells (ints 288 fun _ => 0) 26)).cell? ⟨b, 0, none⟩ = some (.int .i64 n) := by rw [cell_of_rowAt (rowPast hb)]; rfl
  go_enter Try.func37, Try.ntmps37
  go_wp2_with fail
  refine (give_any _ _ _ _).mono ?_
  rintro e w1 ⟨rfl, hb1⟩
  have r1 : rowAt w1 w.heap.size = some (ints 288 fun _ => 0, 26) := rowKeep hb1 (by simp [rowAt_alloc] <;> omega)
  have m1 := Nat.ne_of_lt (rowAt_lt r1)
  have HB := Lib.hid (((Below.refl _ _).alloc (Nat.le_refl _) _).trans (hb1.mono (by simp)))
  clear hb1 r0 c1 c2
  go_wp2
  refine ret_ct rfl rfl rfl rfl (by simp [go_sem, *]; rfl) ?_
  exact ⟨rfl, below_setRow' HB.out (Nat.le_refl _) _⟩
set_option maxHeartbeats 1000000 in
theorem dec1_any (c : Nat → Int) (k n : Int) (p a b : Nat) (w : World) (hp : rowAt w p = some (ints 579 c, 28)) (ha : rowAt w a = some (#[.int .i64 k], 3)) (hb : rowAt w b = some (#[.int .i64 n], 3)) :
    Calls Try.prog 43 #[.pointer (some ⟨p, 0, none⟩), .pointer (some ⟨a, 0, none⟩), .pointer (some ⟨b, 0, none⟩)] w fun e w' => e = .returned (.tuple #[.agg (ints 288 (useF (sub 3 c) k n)), .int .i64 (useE (sub 3 c) k n)]) ∧ Below w.heap.size w w' := by
  have n0 := Nat.ne_of_lt (rowAt_lt hp)
  have n1 := rowAt_lt ha
  have n2 := rowAt_lt hb
  have n3 := rowAt_lt hp
  have r0 : rowAt (w.alloc (.cells (ints 288 fun _ => 0) 26)) p = some (ints 579 c, 28) := rowPast hp
  have c1 : (w.alloc (.cells (ints 288 fun _ => 0) 26)).cell? ⟨a, 0, none⟩ = some (.int .i64 k) := by rw [cell_of_rowAt (rowPast ha)]; rfl
  have c2 : (w.alloc (.cells (ints 288 fun _ => 0) 26)).cell? ⟨b, 0, none⟩ = some (.int .i64 n) := by rw [cell_of_rowAt (rowPast hb)]; rfl
  go_enter Try.func43, Try.ntmps43
  go_wp2_with fail
  refine (use_any _ _ _ _).mono ?_
  rintro e w1 ⟨rfl, hb1⟩
  have r1 : rowAt w1 w.heap.size = some (ints 288 fun _ => 0, 26) := rowKeep hb1 (by simp [rowAt_alloc] <;> omega)
  have m1 := Nat.ne_of_lt (rowAt_lt r1)
  have HB := Lib.hid (((Below.refl _ _).alloc (Nat.le_refl _) _).trans (hb1.mono (by simp)))
  clear hb1 r0 c1 c2
  go_wp2
  refine ret_ct rfl rfl rfl rfl (by simp [go_sem, *]; rfl) ?_
  exact ⟨rfl, below_setRow' HB.out (Nat.le_refl _) _⟩
set_option maxHeartbeats 1000000 in
theorem dec2_any (c : Nat → Int) (k n : Int) (p a b : Nat) (w : World) (hp : rowAt w p = some (ints 579 c, 28)) (ha : rowAt w a = some (#[.int .i64 k], 3)) (hb : rowAt w b = some (#[.int .i64 n], 3)) :
    Calls Try.prog 44 #[.pointer (some ⟨p, 0, none⟩), .pointer (some ⟨a, 0, none⟩), .pointer (some ⟨b, 0, none⟩)] w fun e w' => e = .returned (.tuple #[.agg (ints 288 (giveF (sub 291 c) k n)), .int .i64 (giveE (sub 291 c) k n)]) ∧ Below w.heap.size w w' := by
  have n0 := Nat.ne_of_lt (rowAt_lt hp)
  have n1 := rowAt_lt ha
  have n2 := rowAt_lt hb
  have n3 := rowAt_lt hp
  have r0 : rowAt (w.alloc (.cells (ints 288 fun _ => 0) 26)) p = some (ints 579 c, 28) := rowPast hp
  have c1 : (w.alloc (.cells (ints 288 fun _ => 0) 26)).cell? ⟨a, 0, none⟩ = some (.int .i64 k) := by rw [cell_of_rowAt (rowPast ha)]; rfl
  have c2 : (w.alloc (.cells (ints 288 fun _ => 0) 26)).cell? ⟨b, 0, none⟩ = some (.int .i64 n) := by rw [cell_of_rowAt (rowPast hb)]; rfl
  go_enter Try.func44, Try.ntmps44
  go_wp2_with fail
  refine (give_any _ _ _ _).mono ?_
  rintro e w1 ⟨rfl, hb1⟩
  have r1 : rowAt w1 w.heap.size = some (ints 288 fun _ => 0, 26) := rowKeep hb1 (by simp [rowAt_alloc] <;> omega)
  have m1 := Nat.ne_of_lt (rowAt_lt r1)
  have HB := Lib.hid (((Below.refl _ _).alloc (Nat.le_refl _) _).trans (hb1.mono (by simp)))
  clear hb1 r0 c1 c2
  go_wp2
  refine ret_ct rfl rfl rfl rfl (by simp [go_sem, *]; rfl) ?_
  exact ⟨rfl, below_setRow' HB.out (Nat.le_refl _) _⟩
set_option maxHeartbeats 1000000 in
theorem hand1_any (c : Nat → Int) (i k n : Int) (p i0 a b : Nat) (w : World) (hp : rowAt w p = some (ints 579 c, 28)) (hi : rowAt w i0 = some (#[.int .i64 i], 3)) (ha : rowAt w a = some (#[.int .i64 k], 3)) (hb : rowAt w b = some (#[.int .i64 n], 3)) :
    Calls Try.prog 46 #[.pointer (some ⟨p, 0, none⟩), .pointer (some ⟨i0, 0, none⟩), .pointer (some ⟨a, 0, none⟩), .pointer (some ⟨b, 0, none⟩)] w fun e w' => e = .returned (.tuple #[.agg (ints 288 (moveF (sub 3 c) i k n)), .int .i64 (moveE (sub 3 c) i k n)]) ∧ Below w.heap.size w w' := by
  have n0 := Nat.ne_of_lt (rowAt_lt hp)
  have n1 := rowAt_lt ha
  have n2 := rowAt_lt hb
  have n4 := rowAt_lt hi
  have n3 := rowAt_lt hp
  have r0 : rowAt (w.alloc (.cells (ints 288 fun _ => 0) 26)) p = some (ints 579 c, 28) := rowPast hp
  have c1 : (w.alloc (.cells (ints 288 fun _ => 0) 26)).cell? ⟨a, 0, none⟩ = some (.int .i64 k) := by rw [cell_of_rowAt (rowPast ha)]; rfl
  have c2 : (w.alloc (.cells (ints 288 fun _ => 0) 26)).cell? ⟨b, 0, none⟩ = some (.int .i64 n) := by rw [cell_of_rowAt (rowPast hb)]; rfl
  have c3 : (w.alloc (.cells (ints 288 fun _ => 0) 26)).cell? ⟨i0, 0, none⟩ = some (.int .i64 i) := by rw [cell_of_rowAt (rowPast hi)]; rfl
  go_enter Try.func46, Try.ntmps46
  go_wp2_with fail
  refine (move_any _ _ _ _ _).mono ?_
  rintro e w1 ⟨rfl, hb1⟩
  have r1 : rowAt w1 w.heap.size = some (ints 288 fun _ => 0, 26) := rowKeep hb1 (by simp [rowAt_alloc] <;> omega)
  have m1 := Nat.ne_of_lt (rowAt_lt r1)
  have HB := Lib.hid (((Below.refl _ _).alloc (Nat.le_refl _) _).trans (hb1.mono (by simp)))
  clear hb1 r0 c1 c2 c3
  go_wp2
  refine ret_ct rfl rfl rfl rfl (by simp [go_sem, *]; rfl) ?_
  exact ⟨rfl, below_setRow' HB.out (Nat.le_refl _) _⟩
set_option maxHeartbeats 1000000 in
theorem hand2_any (c : Nat → Int) (i k n : Int) (p i0 a b : Nat) (w : World) (hp : rowAt w p = some (ints 579 c, 28)) (hi : rowAt w i0 = some (#[.int .i64 i], 3)) (ha : rowAt w a = some (#[.int .i64 k], 3)) (hb : rowAt w b = some (#[.int .i64 n], 3)) :
    Calls Try.prog 48 #[.pointer (some ⟨p, 0, none⟩), .pointer (some ⟨i0, 0, none⟩), .pointer (some ⟨a, 0, none⟩), .pointer (some ⟨b, 0, none⟩)] w fun e w' => e = .returned (.tuple #[.agg (ints 288 (moveF (sub 291 c) i k n)), .int .i64 (moveE (sub 291 c) i k n)]) ∧ Below w.heap.size w w' := by
  have n0 := Nat.ne_of_lt (rowAt_lt hp)
  have n1 := rowAt_lt ha
  have n2 := rowAt_lt hb
  have n4 := rowAt_lt hi
  have n3 := rowAt_lt hp
  have r0 : rowAt (w.alloc (.cells (ints 288 fun _ => 0) 26)) p = some (ints 579 c, 28) := rowPast hp
  have c1 : (w.alloc (.cells (ints 288 fun _ => 0) 26)).cell? ⟨a, 0, none⟩ = some (.int .i64 k) := by rw [cell_of_rowAt (rowPast ha)]; rfl
  have c2 : (w.alloc (.cells (ints 288 fun _ => 0) 26)).cell? ⟨b, 0, none⟩ = some (.int .i64 n) := by rw [cell_of_rowAt (rowPast hb)]; rfl
  have c3 : (w.alloc (.cells (ints 288 fun _ => 0) 26)).cell? ⟨i0, 0, none⟩ = some (.int .i64 i) := by rw [cell_of_rowAt (rowPast hi)]; rfl
  go_enter Try.func48, Try.ntmps48
  go_wp2_with fail
  refine (move_any _ _ _ _ _).mono ?_
  rintro e w1 ⟨rfl, hb1⟩
  have r1 : rowAt w1 w.heap.size = some (ints 288 fun _ => 0, 26) := rowKeep hb1 (by simp [rowAt_alloc] <;> omega)
  have m1 := Nat.ne_of_lt (rowAt_lt r1)
  have HB := Lib.hid (((Below.refl _ _).alloc (Nat.le_refl _) _).trans (hb1.mono (by simp)))
  clear hb1 r0 c1 c2 c3
  go_wp2
  refine ret_ct rfl rfl rfl rfl (by simp [go_sem, *]; rfl) ?_
  exact ⟨rfl, below_setRow' HB.out (Nat.le_refl _) _⟩
/-! both. -/
theorem Puts.of_below {p : Nat} {c : Nat → Int} {w w' : World} (hp : rowAt w p = some (ints 579 c, 28)) (h : Below w.heap.size w w') : Puts p c w w' :=
  ⟨h.mono (Nat.le_of_lt (rowAt_lt hp)), h.size, rowKeep h hp, fun g _ hg => rowAt_below h g hg⟩
theorem Puts.after {p : Nat} {c : Nat → Int} {w w1 w' : World} (hp : p < w.heap.size) (h : Below w.heap.size w w1) (h' : Puts p c w1 w') : Puts p c w w' :=
  ⟨(h.mono (Nat.le_of_lt hp)).trans h'.below, Nat.le_trans h.size h'.size, h'.row, fun g h1 h2 => by rw [h'.rest g h1 (Nat.lt_of_lt_of_le h2 h.size), rowAt_below h g h2]⟩
set_option maxHeartbeats 1000000 in
theorem both_any (F1 F2 F3 : FuncId) (C1 C2 : Array Value) (c c' x y : Nat → Int) (e1 e2 : Int) (p : Nat) (w : World)
    (hF1 : ∀ w, (callFunc F1 C1).run Try.prog w = .ok (.enter F1 C1) w) (hF2 : ∀ w, (callFunc F2 C2).run Try.prog w = .ok (.enter F2 C2) w)
    (hF3 : ∀ w, (callFunc F3 #[.agg (ints 288 x), .agg (ints 288 y), .pointer (some ⟨p, 0, none⟩)]).run Try.prog w = .ok (.enter F3 #[.agg (ints 288 x), .agg (ints 288 y), .pointer (some ⟨p, 0, none⟩)]) w)
    (hp : rowAt w p = some (ints 579 c, 28))
    (h1 : ∀ w1, Below w.heap.size w w1 → Calls Try.prog F1 C1 w1 fun e w' => e = .returned (.tuple #[.agg (ints 288 x), .int .i64 e1]) ∧ Below w1.heap.size w1 w')
    (h2 : ∀ w1, Below w.heap.size w w1 → Calls Try.prog F2 C2 w1 fun e w' => e = .returned (.tuple #[.agg (ints 288 y), .int .i64 e2]) ∧ Below w1.heap.size w1 w')
    (h3 : ∀ w1, rowAt w1 p = some (ints 579 c, 28) → Calls Try.prog F3 #[.agg (ints 288 x), .agg (ints 288 y), .pointer (some ⟨p, 0, none⟩)] w1 fun e w' => e = .returned (.tuple #[]) ∧ Puts p c' w1 w') :
    Calls Try.prog 34 #[.agg (ints 579 c), .func (.func F1) #[] C1, .func (.func F2) #[] C2, .func (.func F3) #[] #[.pointer (some ⟨p, 0, none⟩)]] w fun e w' =>
      e = .returned (.int .i64 (if e1 = 0 then e2 else e1)) ∧ Puts p (if (if e1 = 0 then e2 else e1) = 0 then c' else c) w w' := by
  have n0 := rowAt_lt hp
  have H1 := Lib.hid h1
  have H2 := Lib.hid h2
  have H3 := Lib.hid h3
  have HP := Lib.hid hp
  have N0 := Lib.hid n0
  clear h1 h2 h3 hp n0
  have hb0 : Hid (Below w.heap.size w (w.alloc (.cells (ints 579 c) 28))) := Lib.hid ((Below.refl _ _).alloc (Nat.le_refl _) _)
  by_cases he1 : e1 = 0
  · subst he1
    rw [if_pos rfl]
    by_cases he2 : e2 = 0
    · subst he2
      rw [if_pos rfl]
      go_enter Try.func34, Try.ntmps34
      go_wp2_with fail
      refine (H1.out _ hb0.out).mono ?_
      rintro e w1 ⟨rfl, hb1⟩
      have HB1 := Lib.hid (hb0.out.trans (hb1.mono hb0.out.size))
      clear hb1
      go_wp2_with fail
      refine (H2.out _ (below_allocS HB1.out _)).mono ?_
      rintro e w2 ⟨rfl, hb2⟩
      have r1 : rowAt w2 w1.heap.size = some (ints 288 x, 26) := rowKeep hb2 (rowAt_alloc_at _ _ _ _ rfl)
      have HB2 := Lib.hid (bthen (below_allocS HB1.out _) hb2)
      have m1 := Nat.ne_of_lt (rowAt_lt r1)
      clear hb2
      go_wp2_with fail
      refine (H3.out _ (rowPast (rowKeep HB2.out HP.out))).mono ?_
      rintro e w3 ⟨rfl, hb3⟩
      have HP3 := Lib.hid (Puts.after N0.out (below_allocS HB2.out _) hb3)
      clear hb3
      go_wp2
      go_ret
      exact ⟨rfl, HP3.out⟩
    · rw [if_neg he2]
      have g1 : (e2 == 0) = false := beq_eq_false_iff_ne.2 he2
      have g2 : decide (e2 = 0) = false := decide_eq_false he2
      go_enter Try.func34, Try.ntmps34
      go_wp2_with fail
      refine (H1.out _ hb0.out).mono ?_
      rintro e w1 ⟨rfl, hb1⟩
      have HB1 := Lib.hid (hb0.out.trans (hb1.mono hb0.out.size))
      clear hb1
      go_wp2_with fail
      refine (H2.out _ (below_allocS HB1.out _)).mono ?_
      rintro e w2 ⟨rfl, hb2⟩
      have r1 : rowAt w2 w1.heap.size = some (ints 288 x, 26) := rowKeep hb2 (rowAt_alloc_at _ _ _ _ rfl)
      have HB2 := Lib.hid (bthen (below_allocS HB1.out _) hb2)
      have m1 := Nat.ne_of_lt (rowAt_lt r1)
      clear hb2
      go_wp2
      go_ret
      exact ⟨rfl, Puts.of_below HP.out (below_allocS HB2.out _)⟩
  · rw [if_neg he1, if_neg he1]
    have g1 : (e1 == 0) = false := beq_eq_false_iff_ne.2 he1
    have g2 : decide (e1 = 0) = false := decide_eq_false he1
    go_enter Try.func34, Try.ntmps34
    go_wp2_with fail
    refine (H1.out _ hb0.out).mono ?_
    rintro e w1 ⟨rfl, hb1⟩
    have HB1 := Lib.hid (hb0.out.trans (hb1.mono hb0.out.size))
    clear hb1
    go_wp2
    go_ret
    exact ⟨rfl, Puts.of_below HP.out (below_allocS HB1.out _)⟩

/-! done, Inc, Dec, Hand. -/
def doneF (e : Int) (c : Nat → Int) : Nat → Int := if e = 0 then c else fun _ => 0
set_option maxHeartbeats 1000000 in
theorem done_any (c : Nat → Int) (e : Int) (w : World) : Calls Try.prog 40 #[.agg (ints 579 c), .int .i64 e] w fun x w' => x = .returned (.tuple #[.agg (ints 579 (doneF e c)), .int .i64 e]) ∧ Below w.heap.size w w' := by
  unfold doneF
  by_cases h : e = 0
  · subst h
    rw [if_pos rfl]
    go_enter Try.func40, Try.ntmps40
    go_wp2
    refine ret_ct rfl rfl rfl rfl (by simp [go_sem, *]; rfl) ?_
    exact ⟨rfl, by repeat (first | exact Below.refl _ _ | refine below_allocS ?_ _ | refine below_setRow' ?_ (by omega) _)⟩
  · rw [if_neg h]
    have g1 : (e == 0) = false := beq_eq_false_iff_ne.2 h
    have g2 : decide (e = 0) = false := decide_eq_false h
    go_enter Try.func40, Try.ntmps40
    go_wp2
    refine ret_ct rfl rfl rfl rfl (by simp [go_sem, *]; rfl) ?_
    exact ⟨rfl, by repeat (first | exact Below.refl _ _ | refine below_allocS ?_ _ | refine below_setRow' ?_ (by omega) _)⟩
def incE (c : Nat → Int) (k n : Int) : Int := if useE (sub 291 c) k n = 0 then giveE (sub 3 c) k n else useE (sub 291 c) k n
def incF (c : Nat → Int) (k n : Int) : Nat → Int := doneF (incE c k n) (dn (giveF (sub 3 c) k n) (useF (sub 291 c) k n) c)
def decE (c : Nat → Int) (k n : Int) : Int := if useE (sub 3 c) k n = 0 then giveE (sub 291 c) k n else useE (sub 3 c) k n
def decF (c : Nat → Int) (k n : Int) : Nat → Int := doneF (decE c k n) (dn (useF (sub 3 c) k n) (giveF (sub 291 c) k n) c)
def handE (c : Nat → Int) (i k n m : Int) : Int := if moveE (sub 3 c) i k n = 0 then moveE (sub 291 c) i k m else moveE (sub 3 c) i k n
def handF (c : Nat → Int) (i k n m : Int) : Nat → Int := doneF (handE c i k n m) (dn (moveF (sub 3 c) i k n) (moveF (sub 291 c) i k m) c)
theorem doneF_if (e : Int) (a b : Nat → Int) : doneF e (if e = 0 then a else b) = doneF e a := by unfold doneF; split <;> simp_all
set_option maxHeartbeats 2000000 in
theorem inc_any (c : Nat → Int) (k n : Int) (w : World) : Calls Try.prog 15 #[.agg (ints 579 c), .int .i64 k, .int .i64 n] w fun e w' =>
    e = .returned (.tuple #[.agg (ints 579 (incF c k n)), .int .i64 (incE c k n)]) ∧ Below w.heap.size w w' := by
  have C : ∀ w4 : World, rowAt w4 w.heap.size = some (ints 579 c, 28) → rowAt w4 (w.heap.size + 1) = some (#[.int .i64 k], 3) → rowAt w4 (w.heap.size + 2) = some (#[.int .i64 n], 3) → _ := fun w4 h1 h2 h3 =>
    both_any 35 37 39 #[.pointer (some ⟨w.heap.size, 0, none⟩), .pointer (some ⟨w.heap.size + 1, 0, none⟩), .pointer (some ⟨w.heap.size + 2, 0, none⟩)] #[.pointer (some ⟨w.heap.size, 0, none⟩), .pointer (some ⟨w.heap.size + 1, 0, none⟩), .pointer (some ⟨w.heap.size + 2, 0, none⟩)] c (dn (giveF (sub 3 c) k n) (useF (sub 291 c) k n) c) _ _ _ _ w.heap.size w4 (by intro w; kernel_rfl) (by intro w; kernel_rfl) (by intro w; kernel_rfl) h1
      (fun w1 hb => inc1_any c k n w.heap.size (w.heap.size + 1) (w.heap.size + 2) w1 (rowKeep hb h1) (rowKeep hb h2) (rowKeep hb h3)) (fun w1 hb => inc2_any c k n w.heap.size (w.heap.size + 1) (w.heap.size + 2) w1 (rowKeep hb h1) (rowKeep hb h2) (rowKeep hb h3)) (fun w1 h => inc3_any _ _ c w.heap.size w1 h)
  have HC := Lib.hid C
  clear C
  have hmf : ∀ (fn : Fn) (first cap : Array Value) (w : World), (Instr.makeFunc fn first cap).run Try.prog w = .ok (.func fn first cap) w := fun _ _ _ _ => rfl
  unfold incF
  change Calls _ _ _ _ fun e w' => e = .returned (.tuple #[.agg (ints 579 (doneF (if useE (sub 291 c) k n = 0 then giveE (sub 3 c) k n else useE (sub 291 c) k n) _)), .int .i64 (if useE (sub 291 c) k n = 0 then giveE (sub 3 c) k n else useE (sub 291 c) k n)]) ∧ _
  generalize (if useE (sub 291 c) k n = 0 then giveE (sub 3 c) k n else useE (sub 291 c) k n) = E at *
  go_enter Try.func15, Try.ntmps15
  go_wp2_with fail
  refine (HC.out _ (rowPast (rowPast (rowPast (rowAt_alloc_at _ _ _ _ rfl)))) (rowPast (rowPast (rowAt_alloc_at _ _ _ _ (by simp)))) (rowPast (rowAt_alloc_at _ _ _ _ (by simp)))).mono ?_
  rintro e w5 ⟨rfl, hb5⟩
  have r5 := hb5.row
  obtain ⟨C5, hC5⟩ : ∃ C5, (if E = 0 then dn (giveF (sub 3 c) k n) (useF (sub 291 c) k n) c else c) = C5 := ⟨_, rfl⟩
  rw [hC5] at r5
  have HC5 := Lib.hid hC5
  clear hC5
  have r6 : rowAt w5 (w.heap.size + 3) = some (ints 579 fun _ => 0, 28) := by rw [hb5.rest _ (by omega) (by simp)]; exact rowAt_alloc_at _ _ _ _ (by simp)
  have HB5 : Hid (Below w.heap.size w w5) := Lib.hid ((below_allocS (below_allocS (below_allocS (below_allocS (Below.refl _ _) _) _) _) _).trans hb5.below)
  clear hb5 HC
  go_wp2_with fail
  refine (done_any _ _ _).mono ?_
  rintro e w6 ⟨rfl, hb6⟩
  have r7 := rowKeep hb6 r6
  have m7 := Nat.ne_of_lt (rowAt_lt r7)
  have HB6 := Lib.hid (bthen HB5.out hb6)
  clear hb6 r5 r6
  go_wp2
  refine ret_ct rfl rfl rfl rfl (by simp [go_sem, *]; rfl) ?_
  refine ⟨?_, below_setRow' HB6.out (by omega) _⟩
  rw [show doneF E C5 = doneF E (dn (giveF (sub 3 c) k n) (useF (sub 291 c) k n) c) by rw [← HC5.out, doneF_if]]
  rfl
end Go.Proofs.YtifnjgedohdjhaaRRR
