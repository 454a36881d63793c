/-
  Layer 4 (counter): awake.
-/
import Derived.Test.YtifnjgedohdjhaaRRRCValue
import Derived.Test.YtifnjgedohdjhaaRRRCDec
namespace Go.Proofs.YtifnjgedohdjhaaRRR
open Go.RowKit
set_option linter.unusedSimpArgs false
attribute [local go_sem] rowCells rowAt_drewN get_ints getE_ints set_ints size_ints rowAt_alloc rowAt_drew setRow_alloc setRow_drewN setRow_drew setCell_alloc setCell_drewN splice_upd splice_put splice_all load_vec_cut load_vecs_cut load_rights_cut load_counter store_vec store_rights store_counter eql_vec neq_vec index_vec eql_rights neq_rights eql_counter index_vecs cut_ints sub_zero
attribute [local go_sem ↓] xload_vec xstore_vec xalloc_vec xeql_vec xneq_vec xindex_vec xbuild_vec0 xload_rights xstore_rights xalloc_rights xeql_rights xneq_rights xbuild_rights0 xload_vecs xindex_vecs xload_counter xstore_counter xalloc_counter xbuild_counter0 xeql_counter xbuild_counter3
attribute [local go_sem] rowAt_setRow rowAt_setCell load_vec_cut_later load_rights_later load_counter_later Later.cell Later.frozen build3_ints
attribute [local go_sem] rn_true rn_false re_true re_false eqI_self
def aw1 : Nat → Int := newF 5 0 10
def aw2 : Nat → Int := decF aw1 0 5
def aw3 : Nat → Int := incF aw2 0 10
set_option maxRecDepth 10000 in
set_option maxHeartbeats 2000000 in
theorem awake4 (w : World) : Calls Try.prog 9 #[] w fun e w' => e = .returned (.bool true) ∧ Below w.heap.size w w' := by
  have c1 : ∀ w, Calls Try.prog 6 #[.int .i64 5, .int .i64 0, .int .i64 10] w fun e w' => e = .returned (.tuple #[.agg (ints 579 aw1), .int .i64 0]) ∧ Below w.heap.size w w' := fun w =>
    (cnew_any 5 0 10 w).mono fun e w' h => ⟨h.1.trans (by rw [show newE 5 0 10 = 0 by decide +kernel]; rfl), h.2⟩
  have c2 : ∀ w, ∃ f, Calls Try.prog 17 #[.agg (ints 579 aw1), .int .i64 0, .int .i64 6] w fun e w' => e = .returned (.tuple #[.agg (ints 579 f), .int .i64 8]) ∧ Below w.heap.size w w' := fun w =>
    ⟨_, (dec_any aw1 0 6 w).mono fun e w' h => ⟨h.1.trans (by rw [show decE aw1 0 6 = 8 by decide +kernel]), h.2⟩⟩
  have c3 : ∀ w, Calls Try.prog 17 #[.agg (ints 579 aw1), .int .i64 0, .int .i64 5] w fun e w' => e = .returned (.tuple #[.agg (ints 579 aw2), .int .i64 0]) ∧ Below w.heap.size w w' := fun w =>
    (dec_any aw1 0 5 w).mono fun e w' h => ⟨h.1.trans (by rw [show decE aw1 0 5 = 0 by decide +kernel]; rfl), h.2⟩
  have c4 : ∀ w, Calls Try.prog 15 #[.agg (ints 579 aw2), .int .i64 0, .int .i64 10] w fun e w' => e = .returned (.tuple #[.agg (ints 579 aw3), .int .i64 0]) ∧ Below w.heap.size w w' := fun w =>
    (inc_any aw2 0 10 w).mono fun e w' h => ⟨h.1.trans (by rw [show incE aw2 0 10 = 0 by decide +kernel]; rfl), h.2⟩
  have c5 : ∀ w, Calls Try.prog 10 #[.agg (ints 579 aw3)] w fun e w' => e = .returned (.tuple #[.int .i64 10, .int .i64 0]) ∧ Below w.heap.size w w' := fun w =>
    (value_any aw3 w).mono fun e w' h => ⟨h.1.trans (by rw [show sumN (valL aw3) = 10 by decide +kernel, show sumE (valL aw3) = 0 by decide +kernel]), h.2⟩
  have c6 : ∀ w, Calls Try.prog 8 #[.agg (ints 579 aw3)] w fun e w' => e = .returned (.bool true) ∧ Below w.heap.size w w' := fun w =>
    (cright_any aw3 w).mono fun e w' h => ⟨h.1.trans (by rw [show rightC aw3 = true by decide +kernel]), h.2⟩
  have C1 := Lib.hid c1
  have C2 := Lib.hid c2
  have C3 := Lib.hid c3
  have C4 := Lib.hid c4
  have C5 := Lib.hid c5
  have C6 := Lib.hid c6
  clear c1 c2 c3 c4 c5 c6
  generalize aw1 = a1 at *
  generalize aw2 = a2 at *
  generalize aw3 = a3 at *
  go_enter Try.func9, Try.ntmps9
  go_wp2_with fail
  refine (C1.out _).mono ?_
  rintro e w1 ⟨rfl, hb1⟩
  have HB1 := Lib.hid hb1
  clear hb1
  go_wp2_with fail
  obtain ⟨f, c2⟩ := C2.out (w1.alloc (.cells (ints 579 a1) 28))
  refine c2.mono ?_
  rintro e w2 ⟨rfl, hb2⟩
  have r1 : rowAt w2 w1.heap.size = some (ints 579 a1, 28) := rowKeep hb2 (rowAt_alloc_at _ _ _ _ rfl)
  have HB2 := Lib.hid (bthen (below_allocS HB1.out _) hb2)
  have n1 := Nat.ne_of_lt (rowAt_lt r1)
  clear hb2 c2
  go_wp2_with fail
  refine (C3.out _).mono ?_
  rintro e w3 ⟨rfl, hb3⟩
  have HB3 := Lib.hid (bthen (below_allocS HB2.out _) hb3)
  clear hb3 r1 n1
  go_wp2_with fail
  refine (C4.out _).mono ?_
  rintro e w4 ⟨rfl, hb4⟩
  have HB4 := Lib.hid (bthen (below_allocS HB3.out _) hb4)
  clear hb4
  go_wp2_with fail
  refine (C5.out _).mono ?_
  rintro e w5 ⟨rfl, hb5⟩
  have r5 : rowAt w5 w4.heap.size = some (ints 579 a3, 28) := rowKeep hb5 (rowAt_alloc_at _ _ _ _ rfl)
  have HB5 := Lib.hid (bthen (below_allocS HB4.out _) hb5)
  have n5 := Nat.ne_of_lt (rowAt_lt r5)
  clear hb5
  go_wp2_with fail
  refine (C6.out _).mono ?_
  rintro e w6 ⟨rfl, hb6⟩
  have HB6 := Lib.hid (bthen HB5.out hb6)
  clear hb6
  go_wp2
  go_ret
  exact ⟨rfl, HB6.out⟩
end Go.Proofs.YtifnjgedohdjhaaRRR
