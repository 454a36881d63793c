/-
  Layer 4 (counter): Join; the reference's.
-/
import Derived.Test.YtifnjgedohdjhaaRRRCRoom
import Derived.Test.YtifnjgedohdjhaaRRRRRJoin
import Derived.Deep.RegionWith
namespace Go.Proofs.YtifnjgedohdjhaaRRR
open Go.RowKit
set_option linter.unusedSimpArgs false
attribute [local go_sem] rowCells rowAt_drewN get_ints getE_ints set_ints size_ints rowAt_alloc rowAt_drew setRow_alloc setRow_drewN setRow_drew setCell_alloc setCell_drewN splice_upd splice_put splice_all load_vec_cut load_vecs_cut load_rights_cut load_counter store_vec store_rights store_counter eql_vec neq_vec index_vec eql_rights neq_rights eql_counter index_vecs cut_ints sub_zero
attribute [local go_sem ↓] xload_vec xstore_vec xalloc_vec xeql_vec xneq_vec xindex_vec xbuild_vec0 xload_rights xstore_rights xalloc_rights xeql_rights xneq_rights xbuild_rights0 xload_vecs xindex_vecs xload_counter xstore_counter xalloc_counter xbuild_counter0 xeql_counter xbuild_counter3
attribute [local go_sem] rowAt_setRow rowAt_setCell load_vec_cut_later load_rights_later load_counter_later Later.cell Later.frozen build3_ints
attribute [local go_sem] rn_true rn_false re_true re_false eqI_self
theorem joinR_is {a b j : Nat → Int} (h : joinV a b = j) (w : World) : Calls Try.prog 51 #[.agg (ints 288 a), .agg (ints 288 b)] w fun e w' => e = .returned (.agg (ints 288 j)) ∧ Below w.heap.size w w' := by rw [← h]; exact rjoinR_any a b w
theorem load_counter_row {w : World} {g : Nat} {f : Nat → Int} (h : rowAt w g = some (ints 579 f, 28)) : loadAgg Try.prog w 28 (.pointer (some ⟨g, 0, none⟩)) = .ok (.value (.agg (ints 579 f))) w := by
  rw [load_counter w g (by rw [h]; rfl) (by simp [rowCells, h, size_ints])]
  simp [rowCells, h, cut_ints, sub_zero]
def cjoinE (c d : Nat → Int) : Int := if c 0 = d 0 ∧ c 1 = d 1 ∧ c 2 = d 2 then 0 else 1
def cjoinF (c d : Nat → Int) : Nat → Int := if c 0 = d 0 ∧ c 1 = d 1 ∧ c 2 = d 2 then dn (joinV (sub 3 c) (sub 3 d)) (joinV (sub 291 c) (sub 291 d)) c else fun _ => 0
set_option maxRecDepth 100000 in
set_option maxHeartbeats 4000000 in
theorem cjoin_any (c d : Nat → Int) (w : World) : Calls Try.prog 21 #[.agg (ints 579 c), .agg (ints 579 d)] w fun e w' =>
    e = .returned (.tuple #[.agg (ints 579 (cjoinF c d)), .int .i64 (cjoinE c d)]) ∧ Below w.heap.size w w' := by
  unfold cjoinF cjoinE
  by_cases h : c 0 = d 0 ∧ c 1 = d 1 ∧ c 2 = d 2
  · rw [if_pos h, if_pos h]
    obtain ⟨h0, h1, h2⟩ := h
    have e1 := put_nd (joinV (sub 3 c) (sub 3 d)) (joinV (sub 291 c) (sub 291 d)) c
    generalize c1 : joinV (sub 3 c) (sub 3 d) = J1 at *
    generalize c2 : joinV (sub 291 c) (sub 291 d) = J2 at *
    have E1 := Lib.hid e1
    clear e1
    go_enter Try.func21, Try.ntmps21
    go_upto_region 3 with fail
    have r1 : rowAt (((w.alloc (.cells (ints 579 c) 28)).alloc (.cells (ints 579 d) 28)).alloc (.cells (ints 579 fun _ => 0) 28)) w.heap.size = some (ints 579 c, 28) := by simp [rowAt_alloc] <;> omega
    have r2 : rowAt (((w.alloc (.cells (ints 579 c) 28)).alloc (.cells (ints 579 d) 28)).alloc (.cells (ints 579 fun _ => 0) 28)) (w.heap.size + 1) = some (ints 579 d, 28) := by simp [rowAt_alloc] <;> omega
    have r3 : rowAt (((w.alloc (.cells (ints 579 c) 28)).alloc (.cells (ints 579 d) 28)).alloc (.cells (ints 579 fun _ => 0) 28)) (w.heap.size + 1 + 1) = some (ints 579 fun _ => 0, 28) := by simp [rowAt_alloc] <;> omega
    have HB0 : Hid (Below w.heap.size w (((w.alloc (.cells (ints 579 c) 28)).alloc (.cells (ints 579 d) 28)).alloc (.cells (ints 579 fun _ => 0) 28))) := Lib.hid (below_allocS (below_allocS (below_allocS (Below.refl _ _) _) _) _)
    generalize (((w.alloc (.cells (ints 579 c) 28)).alloc (.cells (ints 579 d) 28)).alloc (.cells (ints 579 fun _ => 0) 28)) = W0 at *
    have n1 := rowAt_lt r1
    have n2 := rowAt_lt r2
    have n3 := rowAt_lt r3
    refine region_quiet_tail 11 (by kernel_rfl) (by kernel_rfl) ?_
    simp only [List.take_succ_cons, List.take_zero, List.drop_succ_cons, List.drop_zero]
    repeat (go_big_quiet_step ((first | (go_at_call 51; exact quiet_call (by simp) (joinR_is (by assumption) _)))))
    refine wpQuiet_nil ?_
    intro w1 hb1
    have s1 := rowKeep hb1 r1
    have s3 := rowKeep hb1 r3
    have s4 : rowAt w1 (w.heap.size + 2) = some (ints 579 fun _ => 0, 28) := s3
    have m1 := Nat.ne_of_lt (rowAt_lt s1)
    have m3 := Nat.ne_of_lt (rowAt_lt s3)
    have HB := Lib.hid (bthen HB0.out hb1)
    clear hb1 r1 r2 r3
    go_wp2
    refine ret_ct rfl rfl rfl rfl (load_counter_row (rowAt_setRow_same _ (by rw [rowAt_setRow, if_neg (by omega), rowAt_setRow, if_neg (by omega)]; exact s3))) ?_
    refine ⟨?_, by repeat (first | exact HB.out | refine below_allocS ?_ _ | refine below_setRow' ?_ (by omega) _ | refine Below.drew ?_)⟩
    first | exact congrArg (fun c => Ending.returned (.tuple #[.agg (ints 579 c), .int .i64 0])) E1.out | (rw [← E1.out]; rfl) | rfl
  · rw [if_neg h, if_neg h]
    have g : c 0 ≠ d 0 ∨ (c 0 = d 0 ∧ c 1 ≠ d 1) ∨ (c 0 = d 0 ∧ c 1 = d 1 ∧ c 2 ≠ d 2) := by omega
    rcases g with g0 | ⟨g0, g1⟩ | ⟨g0, g1, g2⟩ <;> clear h <;> (
      go_enter Try.func21, Try.ntmps21
      go_wp2
      refine ret_ct rfl rfl rfl rfl (by simp [go_sem, *]; rfl) ?_
      refine ⟨?_, by repeat (first | exact Below.refl _ _ | refine below_allocS ?_ _ | refine below_setRow' ?_ (by omega) _)⟩
      rfl)
set_option maxHeartbeats 4000000 in
theorem rcjoin_any (c d : Nat → Int) (w : World) : Calls Try.prog 22 #[.agg (ints 579 c), .agg (ints 579 d)] w fun e w' =>
    e = .returned (.tuple #[.agg (ints 579 (cjoinF c d)), .int .i64 (cjoinE c d)]) ∧ Below w.heap.size w w' := by
  unfold cjoinF cjoinE
  by_cases h : c 0 = d 0 ∧ c 1 = d 1 ∧ c 2 = d 2
  · rw [if_pos h, if_pos h]
    obtain ⟨h0, h1, h2⟩ := h
    have c1 := rrjoin_any (sub 3 c) (sub 3 d)
    have c2 := rrjoin_any (sub 291 c) (sub 291 d)
    have e1 := put_nd (joinV (sub 3 c) (sub 3 d)) (joinV (sub 291 c) (sub 291 d)) c
    have e2 : ∀ v, sub 291 (put 3 v c) = sub 291 c := fun v => by funext q; unfold sub put; rw [if_neg (by omega)]
    generalize joinV (sub 3 c) (sub 3 d) = J1 at *
    generalize joinV (sub 291 c) (sub 291 d) = J2 at *
    have C1 := Lib.hid c1
    have C2 := Lib.hid c2
    have E1 := Lib.hid e1
    have e2 := e2 J1
    clear c1 c2 e1
    go_enter Try.func22, Try.ntmps22
    go_wp2_with fail
    refine (C1.out _).mono ?_
    rintro e w1 ⟨rfl, hb1⟩
    have r1 : rowAt w1 w.heap.size = some (ints 579 c, 28) := rowKeep hb1 (by simp [rowAt_alloc] <;> omega)
    have r2 : rowAt w1 (w.heap.size + 1) = some (ints 579 d, 28) := rowKeep hb1 (by simp [rowAt_alloc] <;> omega)
    have r3 : rowAt w1 (w.heap.size + 1 + 1) = some (ints 579 fun _ => 0, 28) := rowKeep hb1 (by simp [rowAt_alloc] <;> omega)
    have n1 := rowAt_lt r1
    have n2 := rowAt_lt r2
    have n3 := rowAt_lt r3
    have HB := Lib.hid (bthen (below_allocS (below_allocS (below_allocS (Below.refl _ _) _) _) _) hb1)
    clear hb1
    go_wp2_with fail
    refine (C2.out _).mono ?_
    rintro e w2 ⟨rfl, hb2⟩
    have r4 : rowAt w2 w.heap.size = some (ints 579 (put 3 J1 c), 28) := rowKeep hb2 (by rw [rowAt_setRow, if_pos rfl, r1]; rfl)
    have r5 : rowAt w2 (w.heap.size + 1 + 1) = some (ints 579 fun _ => 0, 28) := rowKeep hb2 (by rw [rowAt_setRow, if_neg (by omega)]; exact r3)
    have r6 : rowAt w2 (w.heap.size + 1 + 1) = some (ints 579 fun _ => 0, 28) := r5
    have m4 := Nat.ne_of_lt (rowAt_lt r4)
    have m5 := Nat.ne_of_lt (rowAt_lt r5)
    have HB2 := Lib.hid (bthen (below_setRow' HB.out (Nat.le_refl _) _) hb2)
    clear hb2
    go_wp2
    refine ret_ct rfl rfl rfl rfl (load_counter_row (rowAt_setRow_same _ (by rw [rowAt_setRow, if_neg (by omega)]; exact r5))) ?_
    refine ⟨?_, by repeat (first | exact HB2.out | refine below_allocS ?_ _ | refine below_setRow' ?_ (by omega) _ | refine Below.drew ?_)⟩
    first | exact congrArg (fun c => Ending.returned (.tuple #[.agg (ints 579 c), .int .i64 0])) E1.out | (rw [← E1.out]; rfl) | rfl
  · rw [if_neg h, if_neg h]
    have g : c 0 ≠ d 0 ∨ (c 0 = d 0 ∧ c 1 ≠ d 1) ∨ (c 0 = d 0 ∧ c 1 = d 1 ∧ c 2 ≠ d 2) := by omega
    rcases g with g0 | ⟨g0, g1⟩ | ⟨g0, g1, g2⟩ <;> clear h <;> (
      go_enter Try.func22, Try.ntmps22
      go_wp2
      refine ret_ct rfl rfl rfl rfl (by simp [go_sem, *]; rfl) ?_
      refine ⟨?_, by repeat (first | exact Below.refl _ _ | refine below_allocS ?_ _ | refine below_setRow' ?_ (by omega) _)⟩
      rfl)
end Go.Proofs.YtifnjgedohdjhaaRRR
