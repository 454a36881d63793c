/-
  Layer 3's awake.
-/
import Derived.Test.YtpicfjlcepfneaaRRight
namespace Go.Proofs.Ytpicfjlcepfneaa
open Go.RowKit
attribute [local go_sem] rowCells rowAt_drewN get_ints getE_ints set_ints size_ints rowAt_alloc rowAt_drew setRow_alloc setRow_drewN setRow_drew setCell_alloc setCell_drewN splice_upd splice_all load_vec_cut load_vecs_cut load_rights_cut store_vec store_rights eql_vec neq_vec index_vec eql_rights neq_rights index_vecs cut_ints sub_zero
attribute [local go_sem ↓] xload_vec xstore_vec xalloc_vec xeql_vec xneq_vec xindex_vec xbuild_vec0 xload_rights xstore_rights xalloc_rights xeql_rights xneq_rights xbuild_rights0 xload_vecs xindex_vecs
attribute [local go_sem] rowAt_setRow rowAt_setCell load_vec_cut_later load_rights_later Later.cell Later.frozen
attribute [local go_sem] rn_true rn_false re_true re_false eqI_self

def awz : Nat → Int := fun _ => 0
def aw1 : Nat → Int := giveF awz 0 5
def aw2 : Nat → Int := moveF aw1 0 1 3
set_option maxRecDepth 10000 in
set_option maxHeartbeats 1000000 in
theorem awake3 (w : World) : Calls Try.prog 17 #[] w fun e w' => e = .returned (.bool true) ∧ Below w.heap.size w w' := by
  have c1 : ∀ w, Calls Try.prog 11 #[.agg (ints 288 fun _ => 0), .int .i64 0, .int .i64 5] w fun e w' => e = .returned (.tuple #[.agg (ints 288 aw1), .int .i64 0]) ∧ Below w.heap.size w w' := fun w =>
    (give_any awz 0 5 w).mono fun e w' h => ⟨h.1.trans (by rw [show giveE awz 0 5 = 0 by decide +kernel]; rfl), h.2⟩
  have c2 : ∀ w, Calls Try.prog 15 #[.agg (ints 288 aw1), .int .i64 0, .int .i64 1, .int .i64 3] w fun e w' => e = .returned (.tuple #[.agg (ints 288 aw2), .int .i64 0]) ∧ Below w.heap.size w w' := fun w =>
    (move_any aw1 0 1 3 w).mono fun e w' h => ⟨h.1.trans (by rw [show moveE aw1 0 1 3 = 0 by decide +kernel]; rfl), h.2⟩
  have c3 : ∀ w, Calls Try.prog 18 #[.agg (ints 288 aw2), .int .i64 1] w fun e w' => e = .returned (.tuple #[.int .i64 3, .int .i64 0]) ∧ Below w.heap.size w w' := fun w =>
    (free_any aw2 1 w).mono fun e w' h => ⟨h.1.trans (by rw [show freeN aw2 1 = 3 by decide +kernel, show freeE aw2 1 = 0 by decide +kernel]), h.2⟩
  have c4 : ∀ w, ∃ f, Calls Try.prog 13 #[.agg (ints 288 aw2), .int .i64 1, .int .i64 4] w fun e w' => e = .returned (.tuple #[.agg (ints 288 f), .int .i64 8]) ∧ Below w.heap.size w w' := fun w =>
    ⟨_, (use_any aw2 1 4 w).mono fun e w' h => ⟨h.1.trans (by rw [show useE aw2 1 4 = 8 by decide +kernel]), h.2⟩⟩
  have c5 : ∀ w, Calls Try.prog 22 #[.agg (ints 288 aw2)] w fun e w' => e = .returned (.bool true) ∧ Below w.heap.size w w' := fun w =>
    (rights_right_any aw2 w).mono fun e w' h => ⟨h.1.trans (by rw [show rightR aw2 = true by decide +kernel]), h.2⟩
  have C1 := Lib.hid c1
  have C2 := Lib.hid c2
  have C3 := Lib.hid c3
  have C4 := Lib.hid c4
  have C5 := Lib.hid c5
  clear c1 c2 c3 c4 c5
  generalize aw1 = a1 at *
  generalize aw2 = a2 at *
  go_enter Try.func17, Try.ntmps17
  go_wp2_with fail
  refine (C1.out _).mono ?_
  rintro e w1 ⟨rfl, hb1⟩
  have HB1 := Lib.hid hb1
  clear hb1
  go_wp2_with fail
  refine (C2.out _).mono ?_
  rintro e w2 ⟨rfl, hb2⟩
  have r1 : rowAt w2 w1.heap.size = some (ints 288 a1, 26) := rowKeep hb2 (by simp [rowAt_alloc])
  have HB2 := Lib.hid (bthen (below_allocS HB1.out _) hb2)
  have hz1 := HB1.out.size
  have l1 := rowAt_lt r1
  clear hb2
  go_wp2_with fail
  refine (C3.out _).mono ?_
  rintro e w3 ⟨rfl, hb3⟩
  have r2 : rowAt w3 w1.heap.size = some (ints 288 a2, 26) := rowKeep hb3 (by simp [rowAt_setRow, r1])
  have HB3 := Lib.hid (bthen (below_setRow' HB2.out hz1 _) hb3)
  clear hb3 r1 l1
  go_wp2_with fail
  obtain ⟨f, c4⟩ := C4.out w3
  refine c4.mono ?_
  rintro e w4 ⟨rfl, hb4⟩
  have r3 : rowAt w4 w1.heap.size = some (ints 288 a2, 26) := rowKeep hb4 r2
  have HB4 := Lib.hid (bthen HB3.out hb4)
  have n3 := Nat.ne_of_lt (rowAt_lt r3)
  clear hb4 r2 c4
  go_wp2_with fail
  refine (C5.out _).mono ?_
  rintro e w5 ⟨rfl, hb5⟩
  have HB5 := Lib.hid (bthen (below_allocS HB4.out _) hb5)
  clear hb5
  go_wp2
  go_ret
  exact ⟨rfl, HB5.out⟩
end Go.Proofs.Ytpicfjlcepfneaa
