/-
  Layer 4 (counter): Room.
-/
import Derived.Test.YtifnjgedohdjhaaRRRCValue
namespace Go.Proofs.YtifnjgedohdjhaaRRR
open Go.RowKit
set_option linter.unusedSimpArgs false
attribute [local go_sem] rowCells rowAt_drewN get_ints getE_ints set_ints size_ints rowAt_alloc rowAt_drew setRow_alloc setRow_drewN setRow_drew setCell_alloc setCell_drewN splice_upd splice_put splice_all load_vec_cut load_vecs_cut load_rights_cut load_counter store_vec store_rights store_counter eql_vec neq_vec index_vec eql_rights neq_rights eql_counter index_vecs cut_ints sub_zero
attribute [local go_sem ↓] xload_vec xstore_vec xalloc_vec xeql_vec xneq_vec xindex_vec xbuild_vec0 xload_rights xstore_rights xalloc_rights xeql_rights xneq_rights xbuild_rights0 xload_vecs xindex_vecs xload_counter xstore_counter xalloc_counter xbuild_counter0 xeql_counter xbuild_counter3
attribute [local go_sem] rowAt_setRow rowAt_setCell load_vec_cut_later load_rights_later load_counter_later Later.cell Later.frozen build3_ints
attribute [local go_sem] rn_true rn_false re_true re_false eqI_self
set_option maxHeartbeats 2000000 in
theorem room_any (c : Nat → Int) (k : Int) (w : World) : Calls Try.prog 12 #[.agg (ints 579 c), .int .i64 k] w fun e w' =>
    e = .returned (.tuple #[.int .i64 (freeN (sub 3 c) k), .int .i64 (freeN (sub 291 c) k)]) ∧ Below w.heap.size w w' := by
  have c1 := free_any (sub 3 c) k
  have c2 := free_any (sub 291 c) k
  generalize freeN (sub 3 c) k = N1 at *
  generalize freeE (sub 3 c) k = E1 at *
  generalize freeN (sub 291 c) k = N2 at *
  generalize freeE (sub 291 c) k = E2 at *
  have C1 := Lib.hid c1
  have C2 := Lib.hid c2
  clear c1 c2
  go_enter Try.func12, Try.ntmps12
  go_wp2_with fail
  refine (C1.out _).mono ?_
  rintro e w1 ⟨rfl, hb1⟩
  have r1 : rowAt w1 w.heap.size = some (ints 579 c, 28) := rowKeep hb1 (by simp [rowAt_alloc] <;> omega)
  have HB1 := Lib.hid (((Below.refl _ _).alloc (Nat.le_refl _) _).trans (hb1.mono (by simp)))
  clear hb1
  go_wp2_with fail
  refine (C2.out _).mono ?_
  rintro e w2 ⟨rfl, hb2⟩
  have HB2 := Lib.hid (bthen HB1.out hb2)
  clear hb2
  go_wp2
  go_ret2
  exact ⟨rfl, HB2.out⟩
end Go.Proofs.YtifnjgedohdjhaaRRR
