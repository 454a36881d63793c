/-
  Layer 13 (plan): the reference's Right.
-/
import Derived.Test.YtlocoieknabiaaaGreatZPlan2
namespace Go.Proofs.YtlocoieknabiaaaGreat
set_option maxRecDepth 20000
open Go.RowKit
set_option linter.unusedSimpArgs false
set_option linter.unusedVariables false
attribute [local go_sem] rowCells rowAt_drewN get_ints getE_ints set_ints size_ints rowAt_alloc rowAt_drew setRow_alloc setRow_drewN setRow_drew setCell_alloc setCell_drewN splice_upd splice_put splice_all load_vec_cut load_vecs_cut load_rights_cut load_counter store_vec store_rights store_counter eql_vec neq_vec index_vec eql_rights neq_rights eql_counter index_vecs cut_ints sub_zero
attribute [local go_sem ↓] xload_vec xstore_vec xalloc_vec xeql_vec xneq_vec xindex_vec xbuild_vec0 xload_rights xstore_rights xalloc_rights xeql_rights xneq_rights xbuild_rights0 xload_vecs xindex_vecs xload_counter xstore_counter xalloc_counter xbuild_counter0 xeql_counter xbuild_counter3
attribute [local go_sem] rowAt_setRow rowAt_setCell load_vec_cut_later load_rights_later load_counter_later Later.cell Later.frozen build3_ints
attribute [local go_sem ↓] xload_field xstore_field xalloc_field xload_lock
attribute [local go_sem] load_field load_field_later store_field load_counter_cut load_lock_cut load_lock_later Fld.size Fld.get0 Fld.get1 Fld.get2 Fld.get586 Fld.getE0 Fld.getE1 Fld.getE2 Fld.getE586 Fld.cut_cnt Fld.cut_lock Fld.cut_all Fld.splice_all strT_size

set_option maxHeartbeats 4000000 in
theorem rplan_yes1 (n o : List UInt8) (u v : Int) (hn : n.length ≤ 9223372036854775807) (ho : o.length ≤ 9223372036854775807) (eN : nameB n = true) (eU : isB u = true) (eV : isB v = true) (w : World) : Calls Tryz.prog 31 #[planA 1 n o u v] w fun e w' => e = .returned (.bool (ruleB 1 n o u v)) ∧ Below w.heap.size w w' := by
  unfold planA
  go_enter Tryz.func31, Tryz.ntmps31
  go_upto_region 1 with fail
  refine region_seq ?_
  repeat (go_big_quiet_step ((first | (go_at_call 48; exact quiet_call (by simp) (rname_at eN hn _)) | (go_at_call 28; first | exact quiet_call (by simp) (ris_at eU _) | exact quiet_call (by simp) (ris_at eV _)))))
  refine wpQuiet_nil ?_
  intro w1 hb1
  have HB := Lib.hid (bthen (below_allocS (Below.refl _ _) _) hb1)
  have r1 : rowAt w1 w.heap.size = some (#[.int .i64 1, .string (strT n), .string (strT o), .int .i64 u, .int .i64 v], 32) := rowKeep hb1 (rowAt_alloc_at _ _ _ _ rfl)
  clear hb1
  have n1 := rowAt_lt r1
  have c10 : w1.cell? ⟨w.heap.size, 0, none⟩ = some (.int .i64 1) := by rw [cell_of_rowAt r1]; rfl
  have c11 : w1.cell? ⟨w.heap.size, 1, none⟩ = some (.string (strT n)) := by rw [cell_of_rowAt r1]; rfl
  have c12 : w1.cell? ⟨w.heap.size, 2, none⟩ = some (.string (strT o)) := by rw [cell_of_rowAt r1]; rfl
  have c13 : w1.cell? ⟨w.heap.size, 3, none⟩ = some (.int .i64 u) := by rw [cell_of_rowAt r1]; rfl
  have c14 : w1.cell? ⟨w.heap.size, 4, none⟩ = some (.int .i64 v) := by rw [cell_of_rowAt r1]; rfl
  obtain ⟨T, eT⟩ : ∃ T, nameB o = T := ⟨_, rfl⟩
  cases T <;> (
    go_upto_region 3 with fail
    refine region_seq ?_
    repeat (go_big_quiet_step ((go_at_call 48; exact quiet_call (by simp) (rname_at eT ho _))))
    refine wpQuiet_nil ?_
    intro w2 hb2
    have r2 := rowKeep hb2 r1
    have HB2 := Lib.hid (bthen HB.out hb2)
    clear hb2
    have c20 : w2.cell? ⟨w.heap.size, 0, none⟩ = some (.int .i64 1) := by rw [cell_of_rowAt r2]; rfl
    have c21 : w2.cell? ⟨w.heap.size, 1, none⟩ = some (.string (strT n)) := by rw [cell_of_rowAt r2]; rfl
    have c22 : w2.cell? ⟨w.heap.size, 2, none⟩ = some (.string (strT o)) := by rw [cell_of_rowAt r2]; rfl
    have c23 : w2.cell? ⟨w.heap.size, 3, none⟩ = some (.int .i64 u) := by rw [cell_of_rowAt r2]; rfl
    have c24 : w2.cell? ⟨w.heap.size, 4, none⟩ = some (.int .i64 v) := by rw [cell_of_rowAt r2]; rfl
    clear r1 r2 c10 c11 c12 c13 c14 HB
    go_wp2_with fail
    all_goals (
      go_ret
      refine ⟨?_, HB2.out⟩
      refine congrArg (fun b => Ending.returned (Value.bool b)) ?_
      clear HB2 c20 c21 c22 c23 c24
      rw [Bool.eq_iff_iff]
      simp only [strT_toList, strT_beq] at *
      simp [ruleB, noneB, neB, *] <;> omega))
set_option maxHeartbeats 4000000 in
theorem rplan_yes2 (n o : List UInt8) (u v : Int) (hn : n.length ≤ 9223372036854775807) (ho : o.length ≤ 9223372036854775807) (eN : nameB n = true) (eU : isB u = true) (eV : isB v = true) (w : World) : Calls Tryz.prog 31 #[planA 2 n o u v] w fun e w' => e = .returned (.bool (ruleB 2 n o u v)) ∧ Below w.heap.size w w' := by
  unfold planA
  go_enter Tryz.func31, Tryz.ntmps31
  go_upto_region 1 with fail
  refine region_seq ?_
  repeat (go_big_quiet_step ((first | (go_at_call 48; exact quiet_call (by simp) (rname_at eN hn _)) | (go_at_call 28; first | exact quiet_call (by simp) (ris_at eU _) | exact quiet_call (by simp) (ris_at eV _)))))
  refine wpQuiet_nil ?_
  intro w1 hb1
  have HB := Lib.hid (bthen (below_allocS (Below.refl _ _) _) hb1)
  have r1 : rowAt w1 w.heap.size = some (#[.int .i64 2, .string (strT n), .string (strT o), .int .i64 u, .int .i64 v], 32) := rowKeep hb1 (rowAt_alloc_at _ _ _ _ rfl)
  clear hb1
  have n1 := rowAt_lt r1
  have c10 : w1.cell? ⟨w.heap.size, 0, none⟩ = some (.int .i64 2) := by rw [cell_of_rowAt r1]; rfl
  have c11 : w1.cell? ⟨w.heap.size, 1, none⟩ = some (.string (strT n)) := by rw [cell_of_rowAt r1]; rfl
  have c12 : w1.cell? ⟨w.heap.size, 2, none⟩ = some (.string (strT o)) := by rw [cell_of_rowAt r1]; rfl
  have c13 : w1.cell? ⟨w.heap.size, 3, none⟩ = some (.int .i64 u) := by rw [cell_of_rowAt r1]; rfl
  have c14 : w1.cell? ⟨w.heap.size, 4, none⟩ = some (.int .i64 v) := by rw [cell_of_rowAt r1]; rfl
  obtain ⟨T, eT⟩ : ∃ T, nameB o = T := ⟨_, rfl⟩
  cases T <;> (
    go_upto_region 3 with fail
    refine region_seq ?_
    repeat (go_big_quiet_step ((go_at_call 48; exact quiet_call (by simp) (rname_at eT ho _))))
    refine wpQuiet_nil ?_
    intro w2 hb2
    have r2 := rowKeep hb2 r1
    have HB2 := Lib.hid (bthen HB.out hb2)
    clear hb2
    have c20 : w2.cell? ⟨w.heap.size, 0, none⟩ = some (.int .i64 2) := by rw [cell_of_rowAt r2]; rfl
    have c21 : w2.cell? ⟨w.heap.size, 1, none⟩ = some (.string (strT n)) := by rw [cell_of_rowAt r2]; rfl
    have c22 : w2.cell? ⟨w.heap.size, 2, none⟩ = some (.string (strT o)) := by rw [cell_of_rowAt r2]; rfl
    have c23 : w2.cell? ⟨w.heap.size, 3, none⟩ = some (.int .i64 u) := by rw [cell_of_rowAt r2]; rfl
    have c24 : w2.cell? ⟨w.heap.size, 4, none⟩ = some (.int .i64 v) := by rw [cell_of_rowAt r2]; rfl
    clear r1 r2 c10 c11 c12 c13 c14 HB
    go_wp2_with fail
    all_goals (
      go_ret
      refine ⟨?_, HB2.out⟩
      refine congrArg (fun b => Ending.returned (Value.bool b)) ?_
      clear HB2 c20 c21 c22 c23 c24
      rw [Bool.eq_iff_iff]
      simp only [strT_toList, strT_beq] at *
      simp [ruleB, noneB, neB, *] <;> omega))
end Go.Proofs.YtlocoieknabiaaaGreat

/-
  Layer 13 (plan): the reference's Right.
-/
namespace Go.Proofs.YtlocoieknabiaaaGreat
set_option maxRecDepth 20000
open Go.RowKit
set_option linter.unusedSimpArgs false
set_option linter.unusedVariables false
attribute [local go_sem] rowCells rowAt_drewN get_ints getE_ints set_ints size_ints rowAt_alloc rowAt_drew setRow_alloc setRow_drewN setRow_drew setCell_alloc setCell_drewN splice_upd splice_put splice_all load_vec_cut load_vecs_cut load_rights_cut load_counter store_vec store_rights store_counter eql_vec neq_vec index_vec eql_rights neq_rights eql_counter index_vecs cut_ints sub_zero
attribute [local go_sem ↓] xload_vec xstore_vec xalloc_vec xeql_vec xneq_vec xindex_vec xbuild_vec0 xload_rights xstore_rights xalloc_rights xeql_rights xneq_rights xbuild_rights0 xload_vecs xindex_vecs xload_counter xstore_counter xalloc_counter xbuild_counter0 xeql_counter xbuild_counter3
attribute [local go_sem] rowAt_setRow rowAt_setCell load_vec_cut_later load_rights_later load_counter_later Later.cell Later.frozen build3_ints
attribute [local go_sem ↓] xload_field xstore_field xalloc_field xload_lock
attribute [local go_sem] load_field load_field_later store_field load_counter_cut load_lock_cut load_lock_later Fld.size Fld.get0 Fld.get1 Fld.get2 Fld.get586 Fld.getE0 Fld.getE1 Fld.getE2 Fld.getE586 Fld.cut_cnt Fld.cut_lock Fld.cut_all Fld.splice_all strT_size

set_option maxHeartbeats 4000000 in
theorem rplan_yes3 (n o : List UInt8) (u v : Int) (hn : n.length ≤ 9223372036854775807) (ho : o.length ≤ 9223372036854775807) (eN : nameB n = true) (eU : isB u = true) (eV : isB v = true) (w : World) : Calls Tryz.prog 31 #[planA 3 n o u v] w fun e w' => e = .returned (.bool (ruleB 3 n o u v)) ∧ Below w.heap.size w w' := by
  unfold planA
  go_enter Tryz.func31, Tryz.ntmps31
  go_upto_region 1 with fail
  refine region_seq ?_
  repeat (go_big_quiet_step ((first | (go_at_call 48; exact quiet_call (by simp) (rname_at eN hn _)) | (go_at_call 28; first | exact quiet_call (by simp) (ris_at eU _) | exact quiet_call (by simp) (ris_at eV _)))))
  refine wpQuiet_nil ?_
  intro w1 hb1
  have HB := Lib.hid (bthen (below_allocS (Below.refl _ _) _) hb1)
  have r1 : rowAt w1 w.heap.size = some (#[.int .i64 3, .string (strT n), .string (strT o), .int .i64 u, .int .i64 v], 32) := rowKeep hb1 (rowAt_alloc_at _ _ _ _ rfl)
  clear hb1
  have n1 := rowAt_lt r1
  have c10 : w1.cell? ⟨w.heap.size, 0, none⟩ = some (.int .i64 3) := by rw [cell_of_rowAt r1]; rfl
  have c11 : w1.cell? ⟨w.heap.size, 1, none⟩ = some (.string (strT n)) := by rw [cell_of_rowAt r1]; rfl
  have c12 : w1.cell? ⟨w.heap.size, 2, none⟩ = some (.string (strT o)) := by rw [cell_of_rowAt r1]; rfl
  have c13 : w1.cell? ⟨w.heap.size, 3, none⟩ = some (.int .i64 u) := by rw [cell_of_rowAt r1]; rfl
  have c14 : w1.cell? ⟨w.heap.size, 4, none⟩ = some (.int .i64 v) := by rw [cell_of_rowAt r1]; rfl
  obtain ⟨T, eT⟩ : ∃ T, nameB o = T := ⟨_, rfl⟩
  cases T <;> (
    go_upto_region 3 with fail
    refine region_seq ?_
    repeat (go_big_quiet_step ((go_at_call 48; exact quiet_call (by simp) (rname_at eT ho _))))
    refine wpQuiet_nil ?_
    intro w2 hb2
    have r2 := rowKeep hb2 r1
    have HB2 := Lib.hid (bthen HB.out hb2)
    clear hb2
    have c20 : w2.cell? ⟨w.heap.size, 0, none⟩ = some (.int .i64 3) := by rw [cell_of_rowAt r2]; rfl
    have c21 : w2.cell? ⟨w.heap.size, 1, none⟩ = some (.string (strT n)) := by rw [cell_of_rowAt r2]; rfl
    have c22 : w2.cell? ⟨w.heap.size, 2, none⟩ = some (.string (strT o)) := by rw [cell_of_rowAt r2]; rfl
    have c23 : w2.cell? ⟨w.heap.size, 3, none⟩ = some (.int .i64 u) := by rw [cell_of_rowAt r2]; rfl
    have c24 : w2.cell? ⟨w.heap.size, 4, none⟩ = some (.int .i64 v) := by rw [cell_of_rowAt r2]; rfl
    clear r1 r2 c10 c11 c12 c13 c14 HB
    go_wp2_with fail
    all_goals (
      go_ret
      refine ⟨?_, HB2.out⟩
      refine congrArg (fun b => Ending.returned (Value.bool b)) ?_
      clear HB2 c20 c21 c22 c23 c24
      rw [Bool.eq_iff_iff]
      simp only [strT_toList, strT_beq] at *
      simp [ruleB, noneB, neB, *] <;> omega))
set_option maxHeartbeats 4000000 in
theorem rplan_yes4 (n o : List UInt8) (u v : Int) (hn : n.length ≤ 9223372036854775807) (ho : o.length ≤ 9223372036854775807) (eN : nameB n = true) (eU : isB u = true) (eV : isB v = true) (w : World) : Calls Tryz.prog 31 #[planA 4 n o u v] w fun e w' => e = .returned (.bool (ruleB 4 n o u v)) ∧ Below w.heap.size w w' := by
  unfold planA
  go_enter Tryz.func31, Tryz.ntmps31
  go_upto_region 1 with fail
  refine region_seq ?_
  repeat (go_big_quiet_step ((first | (go_at_call 48; exact quiet_call (by simp) (rname_at eN hn _)) | (go_at_call 28; first | exact quiet_call (by simp) (ris_at eU _) | exact quiet_call (by simp) (ris_at eV _)))))
  refine wpQuiet_nil ?_
  intro w1 hb1
  have HB := Lib.hid (bthen (below_allocS (Below.refl _ _) _) hb1)
  have r1 : rowAt w1 w.heap.size = some (#[.int .i64 4, .string (strT n), .string (strT o), .int .i64 u, .int .i64 v], 32) := rowKeep hb1 (rowAt_alloc_at _ _ _ _ rfl)
  clear hb1
  have n1 := rowAt_lt r1
  have c10 : w1.cell? ⟨w.heap.size, 0, none⟩ = some (.int .i64 4) := by rw [cell_of_rowAt r1]; rfl
  have c11 : w1.cell? ⟨w.heap.size, 1, none⟩ = some (.string (strT n)) := by rw [cell_of_rowAt r1]; rfl
  have c12 : w1.cell? ⟨w.heap.size, 2, none⟩ = some (.string (strT o)) := by rw [cell_of_rowAt r1]; rfl
  have c13 : w1.cell? ⟨w.heap.size, 3, none⟩ = some (.int .i64 u) := by rw [cell_of_rowAt r1]; rfl
  have c14 : w1.cell? ⟨w.heap.size, 4, none⟩ = some (.int .i64 v) := by rw [cell_of_rowAt r1]; rfl
  obtain ⟨T, eT⟩ : ∃ T, nameB o = T := ⟨_, rfl⟩
  cases T <;> (
    go_upto_region 3 with fail
    refine region_seq ?_
    repeat (go_big_quiet_step ((go_at_call 48; exact quiet_call (by simp) (rname_at eT ho _))))
    refine wpQuiet_nil ?_
    intro w2 hb2
    have r2 := rowKeep hb2 r1
    have HB2 := Lib.hid (bthen HB.out hb2)
    clear hb2
    have c20 : w2.cell? ⟨w.heap.size, 0, none⟩ = some (.int .i64 4) := by rw [cell_of_rowAt r2]; rfl
    have c21 : w2.cell? ⟨w.heap.size, 1, none⟩ = some (.string (strT n)) := by rw [cell_of_rowAt r2]; rfl
    have c22 : w2.cell? ⟨w.heap.size, 2, none⟩ = some (.string (strT o)) := by rw [cell_of_rowAt r2]; rfl
    have c23 : w2.cell? ⟨w.heap.size, 3, none⟩ = some (.int .i64 u) := by rw [cell_of_rowAt r2]; rfl
    have c24 : w2.cell? ⟨w.heap.size, 4, none⟩ = some (.int .i64 v) := by rw [cell_of_rowAt r2]; rfl
    clear r1 r2 c10 c11 c12 c13 c14 HB
    go_wp2_with fail
    all_goals (
      go_ret
      refine ⟨?_, HB2.out⟩
      refine congrArg (fun b => Ending.returned (Value.bool b)) ?_
      clear HB2 c20 c21 c22 c23 c24
      rw [Bool.eq_iff_iff]
      simp only [strT_toList, strT_beq] at *
      simp [ruleB, noneB, neB, *] <;> omega))
end Go.Proofs.YtlocoieknabiaaaGreat

/-
  Layer 13 (plan): the reference's Right.
-/
namespace Go.Proofs.YtlocoieknabiaaaGreat
set_option maxRecDepth 20000
open Go.RowKit
set_option linter.unusedSimpArgs false
set_option linter.unusedVariables false
attribute [local go_sem] rowCells rowAt_drewN get_ints getE_ints set_ints size_ints rowAt_alloc rowAt_drew setRow_alloc setRow_drewN setRow_drew setCell_alloc setCell_drewN splice_upd splice_put splice_all load_vec_cut load_vecs_cut load_rights_cut load_counter store_vec store_rights store_counter eql_vec neq_vec index_vec eql_rights neq_rights eql_counter index_vecs cut_ints sub_zero
attribute [local go_sem ↓] xload_vec xstore_vec xalloc_vec xeql_vec xneq_vec xindex_vec xbuild_vec0 xload_rights xstore_rights xalloc_rights xeql_rights xneq_rights xbuild_rights0 xload_vecs xindex_vecs xload_counter xstore_counter xalloc_counter xbuild_counter0 xeql_counter xbuild_counter3
attribute [local go_sem] rowAt_setRow rowAt_setCell load_vec_cut_later load_rights_later load_counter_later Later.cell Later.frozen build3_ints
attribute [local go_sem ↓] xload_field xstore_field xalloc_field xload_lock
attribute [local go_sem] load_field load_field_later store_field load_counter_cut load_lock_cut load_lock_later Fld.size Fld.get0 Fld.get1 Fld.get2 Fld.get586 Fld.getE0 Fld.getE1 Fld.getE2 Fld.getE586 Fld.cut_cnt Fld.cut_lock Fld.cut_all Fld.splice_all strT_size

set_option maxHeartbeats 4000000 in
theorem rplan_yes5 (n o : List UInt8) (u v : Int) (hn : n.length ≤ 9223372036854775807) (ho : o.length ≤ 9223372036854775807) (eN : nameB n = true) (eU : isB u = true) (eV : isB v = true) (w : World) : Calls Tryz.prog 31 #[planA 5 n o u v] w fun e w' => e = .returned (.bool (ruleB 5 n o u v)) ∧ Below w.heap.size w w' := by
  unfold planA
  go_enter Tryz.func31, Tryz.ntmps31
  go_upto_region 1 with fail
  refine region_seq ?_
  repeat (go_big_quiet_step ((first | (go_at_call 48; exact quiet_call (by simp) (rname_at eN hn _)) | (go_at_call 28; first | exact quiet_call (by simp) (ris_at eU _) | exact quiet_call (by simp) (ris_at eV _)))))
  refine wpQuiet_nil ?_
  intro w1 hb1
  have HB := Lib.hid (bthen (below_allocS (Below.refl _ _) _) hb1)
  have r1 : rowAt w1 w.heap.size = some (#[.int .i64 5, .string (strT n), .string (strT o), .int .i64 u, .int .i64 v], 32) := rowKeep hb1 (rowAt_alloc_at _ _ _ _ rfl)
  clear hb1
  have n1 := rowAt_lt r1
  have c10 : w1.cell? ⟨w.heap.size, 0, none⟩ = some (.int .i64 5) := by rw [cell_of_rowAt r1]; rfl
  have c11 : w1.cell? ⟨w.heap.size, 1, none⟩ = some (.string (strT n)) := by rw [cell_of_rowAt r1]; rfl
  have c12 : w1.cell? ⟨w.heap.size, 2, none⟩ = some (.string (strT o)) := by rw [cell_of_rowAt r1]; rfl
  have c13 : w1.cell? ⟨w.heap.size, 3, none⟩ = some (.int .i64 u) := by rw [cell_of_rowAt r1]; rfl
  have c14 : w1.cell? ⟨w.heap.size, 4, none⟩ = some (.int .i64 v) := by rw [cell_of_rowAt r1]; rfl
  obtain ⟨T, eT⟩ : ∃ T, nameB o = T := ⟨_, rfl⟩
  cases T <;> (
    go_upto_region 3 with fail
    refine region_seq ?_
    repeat (go_big_quiet_step ((go_at_call 48; exact quiet_call (by simp) (rname_at eT ho _))))
    refine wpQuiet_nil ?_
    intro w2 hb2
    have r2 := rowKeep hb2 r1
    have HB2 := Lib.hid (bthen HB.out hb2)
    clear hb2
    have c20 : w2.cell? ⟨w.heap.size, 0, none⟩ = some (.int .i64 5) := by rw [cell_of_rowAt r2]; rfl
    have c21 : w2.cell? ⟨w.heap.size, 1, none⟩ = some (.string (strT n)) := by rw [cell_of_rowAt r2]; rfl
    have c22 : w2.cell? ⟨w.heap.size, 2, none⟩ = some (.string (strT o)) := by rw [cell_of_rowAt r2]; rfl
    have c23 : w2.cell? ⟨w.heap.size, 3, none⟩ = some (.int .i64 u) := by rw [cell_of_rowAt r2]; rfl
    have c24 : w2.cell? ⟨w.heap.size, 4, none⟩ = some (.int .i64 v) := by rw [cell_of_rowAt r2]; rfl
    clear r1 r2 c10 c11 c12 c13 c14 HB
    go_wp2_with fail
    all_goals (
      go_ret
      refine ⟨?_, HB2.out⟩
      refine congrArg (fun b => Ending.returned (Value.bool b)) ?_
      clear HB2 c20 c21 c22 c23 c24
      rw [Bool.eq_iff_iff]
      try simp only [strT_toList, strT_beq] at *
      simp [ruleB, noneB, neB, *] <;> omega))
set_option maxHeartbeats 4000000 in
theorem rplan_yes6 (n o : List UInt8) (u v : Int) (hn : n.length ≤ 9223372036854775807) (ho : o.length ≤ 9223372036854775807) (eN : nameB n = true) (eU : isB u = true) (eV : isB v = true) (w : World) : Calls Tryz.prog 31 #[planA 6 n o u v] w fun e w' => e = .returned (.bool (ruleB 6 n o u v)) ∧ Below w.heap.size w w' := by
  unfold planA
  go_enter Tryz.func31, Tryz.ntmps31
  go_upto_region 1 with fail
  refine region_seq ?_
  repeat (go_big_quiet_step ((first | (go_at_call 48; exact quiet_call (by simp) (rname_at eN hn _)) | (go_at_call 28; first | exact quiet_call (by simp) (ris_at eU _) | exact quiet_call (by simp) (ris_at eV _)))))
  refine wpQuiet_nil ?_
  intro w1 hb1
  have HB := Lib.hid (bthen (below_allocS (Below.refl _ _) _) hb1)
  have r1 : rowAt w1 w.heap.size = some (#[.int .i64 6, .string (strT n), .string (strT o), .int .i64 u, .int .i64 v], 32) := rowKeep hb1 (rowAt_alloc_at _ _ _ _ rfl)
  clear hb1
  have n1 := rowAt_lt r1
  have c10 : w1.cell? ⟨w.heap.size, 0, none⟩ = some (.int .i64 6) := by rw [cell_of_rowAt r1]; rfl
  have c11 : w1.cell? ⟨w.heap.size, 1, none⟩ = some (.string (strT n)) := by rw [cell_of_rowAt r1]; rfl
  have c12 : w1.cell? ⟨w.heap.size, 2, none⟩ = some (.string (strT o)) := by rw [cell_of_rowAt r1]; rfl
  have c13 : w1.cell? ⟨w.heap.size, 3, none⟩ = some (.int .i64 u) := by rw [cell_of_rowAt r1]; rfl
  have c14 : w1.cell? ⟨w.heap.size, 4, none⟩ = some (.int .i64 v) := by rw [cell_of_rowAt r1]; rfl
  obtain ⟨T, eT⟩ : ∃ T, nameB o = T := ⟨_, rfl⟩
  cases T <;> (
    go_upto_region 3 with fail
    refine region_seq ?_
    repeat (go_big_quiet_step ((go_at_call 48; exact quiet_call (by simp) (rname_at eT ho _))))
    refine wpQuiet_nil ?_
    intro w2 hb2
    have r2 := rowKeep hb2 r1
    have HB2 := Lib.hid (bthen HB.out hb2)
    clear hb2
    have c20 : w2.cell? ⟨w.heap.size, 0, none⟩ = some (.int .i64 6) := by rw [cell_of_rowAt r2]; rfl
    have c21 : w2.cell? ⟨w.heap.size, 1, none⟩ = some (.string (strT n)) := by rw [cell_of_rowAt r2]; rfl
    have c22 : w2.cell? ⟨w.heap.size, 2, none⟩ = some (.string (strT o)) := by rw [cell_of_rowAt r2]; rfl
    have c23 : w2.cell? ⟨w.heap.size, 3, none⟩ = some (.int .i64 u) := by rw [cell_of_rowAt r2]; rfl
    have c24 : w2.cell? ⟨w.heap.size, 4, none⟩ = some (.int .i64 v) := by rw [cell_of_rowAt r2]; rfl
    clear r1 r2 c10 c11 c12 c13 c14 HB
    go_wp2_with fail
    all_goals (
      go_ret
      refine ⟨?_, HB2.out⟩
      refine congrArg (fun b => Ending.returned (Value.bool b)) ?_
      clear HB2 c20 c21 c22 c23 c24
      rw [Bool.eq_iff_iff]
      try simp only [strT_toList, strT_beq] at *
      simp [ruleB, noneB, neB, *] <;> omega))
end Go.Proofs.YtlocoieknabiaaaGreat

/-
  Layer 13 (plan): the reference's Right.
-/
namespace Go.Proofs.YtlocoieknabiaaaGreat
set_option maxRecDepth 20000
open Go.RowKit
set_option linter.unusedSimpArgs false
set_option linter.unusedVariables false
attribute [local go_sem] rowCells rowAt_drewN get_ints getE_ints set_ints size_ints rowAt_alloc rowAt_drew setRow_alloc setRow_drewN setRow_drew setCell_alloc setCell_drewN splice_upd splice_put splice_all load_vec_cut load_vecs_cut load_rights_cut load_counter store_vec store_rights store_counter eql_vec neq_vec index_vec eql_rights neq_rights eql_counter index_vecs cut_ints sub_zero
attribute [local go_sem ↓] xload_vec xstore_vec xalloc_vec xeql_vec xneq_vec xindex_vec xbuild_vec0 xload_rights xstore_rights xalloc_rights xeql_rights xneq_rights xbuild_rights0 xload_vecs xindex_vecs xload_counter xstore_counter xalloc_counter xbuild_counter0 xeql_counter xbuild_counter3
attribute [local go_sem] rowAt_setRow rowAt_setCell load_vec_cut_later load_rights_later load_counter_later Later.cell Later.frozen build3_ints
attribute [local go_sem ↓] xload_field xstore_field xalloc_field xload_lock
attribute [local go_sem] load_field load_field_later store_field load_counter_cut load_lock_cut load_lock_later Fld.size Fld.get0 Fld.get1 Fld.get2 Fld.get586 Fld.getE0 Fld.getE1 Fld.getE2 Fld.getE586 Fld.cut_cnt Fld.cut_lock Fld.cut_all Fld.splice_all strT_size

set_option maxHeartbeats 2000000 in
theorem rplan_no_lo (k : Int) (n o : List UInt8) (u v : Int) (hn : n.length ≤ 9223372036854775807) (h : k < 1) (w : World) : Calls Tryz.prog 31 #[planA k n o u v] w fun e w' => e = .returned (.bool (planB k n o u v)) ∧ Below w.heap.size w w' := by
  rw [show planB k n o u v = false by simp [planB, show ¬ 1 ≤ k by omega]]
  obtain ⟨b1, eN⟩ : ∃ b, nameB n = b := ⟨_, rfl⟩
  obtain ⟨b2, eU⟩ : ∃ b, isB u = b := ⟨_, rfl⟩
  obtain ⟨b3, eV⟩ : ∃ b, isB v = b := ⟨_, rfl⟩
  unfold planA
  go_enter Tryz.func31, Tryz.ntmps31
  go_upto_region 1 with fail
  refine region_seq ?_
  repeat (go_big_quiet_step ((first | (go_at_call 48; exact quiet_call (by simp) (rname_at eN hn _)) | (go_at_call 28; first | exact quiet_call (by simp) (ris_at eU _) | exact quiet_call (by simp) (ris_at eV _)))))
  refine wpQuiet_nil ?_
  intro w1 hb1
  have HB := Lib.hid (bthen (below_allocS (Below.refl _ _) _) hb1)
  clear hb1
  go_wp2
  go_ret
  exact ⟨by first | rfl | simp [*], HB.out⟩
set_option maxHeartbeats 2000000 in
theorem rplan_no_hi (k : Int) (n o : List UInt8) (u v : Int) (hn : n.length ≤ 9223372036854775807) (h0 : ¬ k < 1) (h : 6 < k) (w : World) : Calls Tryz.prog 31 #[planA k n o u v] w fun e w' => e = .returned (.bool (planB k n o u v)) ∧ Below w.heap.size w w' := by
  rw [show planB k n o u v = false by simp [planB, show ¬ k ≤ 6 by omega]]
  obtain ⟨b1, eN⟩ : ∃ b, nameB n = b := ⟨_, rfl⟩
  obtain ⟨b2, eU⟩ : ∃ b, isB u = b := ⟨_, rfl⟩
  obtain ⟨b3, eV⟩ : ∃ b, isB v = b := ⟨_, rfl⟩
  unfold planA
  go_enter Tryz.func31, Tryz.ntmps31
  go_upto_region 1 with fail
  refine region_seq ?_
  repeat (go_big_quiet_step ((first | (go_at_call 48; exact quiet_call (by simp) (rname_at eN hn _)) | (go_at_call 28; first | exact quiet_call (by simp) (ris_at eU _) | exact quiet_call (by simp) (ris_at eV _)))))
  refine wpQuiet_nil ?_
  intro w1 hb1
  have HB := Lib.hid (bthen (below_allocS (Below.refl _ _) _) hb1)
  clear hb1
  go_wp2
  go_ret
  exact ⟨by first | rfl | simp [*], HB.out⟩
set_option maxHeartbeats 2000000 in
theorem rplan_no_n (k : Int) (n o : List UInt8) (u v : Int) (hn : n.length ≤ 9223372036854775807) (h1 : ¬ k < 1) (h2 : ¬ 6 < k) (eN : nameB n = false) (w : World) : Calls Tryz.prog 31 #[planA k n o u v] w fun e w' => e = .returned (.bool (planB k n o u v)) ∧ Below w.heap.size w w' := by
  rw [show planB k n o u v = false by simp [planB, eN]]
  obtain ⟨b2, eU⟩ : ∃ b, isB u = b := ⟨_, rfl⟩
  obtain ⟨b3, eV⟩ : ∃ b, isB v = b := ⟨_, rfl⟩
  unfold planA
  go_enter Tryz.func31, Tryz.ntmps31
  go_upto_region 1 with fail
  refine region_seq ?_
  repeat (go_big_quiet_step ((first | (go_at_call 48; exact quiet_call (by simp) (rname_at eN hn _)) | (go_at_call 28; first | exact quiet_call (by simp) (ris_at eU _) | exact quiet_call (by simp) (ris_at eV _)))))
  refine wpQuiet_nil ?_
  intro w1 hb1
  have HB := Lib.hid (bthen (below_allocS (Below.refl _ _) _) hb1)
  clear hb1
  go_wp2
  go_ret
  exact ⟨by first | rfl | simp [*], HB.out⟩
set_option maxHeartbeats 2000000 in
theorem rplan_no_u (k : Int) (n o : List UInt8) (u v : Int) (hn : n.length ≤ 9223372036854775807) (h1 : ¬ k < 1) (h2 : ¬ 6 < k) (eN : nameB n = true) (eU : isB u = false) (w : World) : Calls Tryz.prog 31 #[planA k n o u v] w fun e w' => e = .returned (.bool (planB k n o u v)) ∧ Below w.heap.size w w' := by
  rw [show planB k n o u v = false by simp [planB, eU]]
  obtain ⟨b3, eV⟩ : ∃ b, isB v = b := ⟨_, rfl⟩
  unfold planA
  go_enter Tryz.func31, Tryz.ntmps31
  go_upto_region 1 with fail
  refine region_seq ?_
  repeat (go_big_quiet_step ((first | (go_at_call 48; exact quiet_call (by simp) (rname_at eN hn _)) | (go_at_call 28; first | exact quiet_call (by simp) (ris_at eU _) | exact quiet_call (by simp) (ris_at eV _)))))
  refine wpQuiet_nil ?_
  intro w1 hb1
  have HB := Lib.hid (bthen (below_allocS (Below.refl _ _) _) hb1)
  clear hb1
  go_wp2
  go_ret
  exact ⟨by first | rfl | simp [*], HB.out⟩
set_option maxHeartbeats 2000000 in
theorem rplan_no_v (k : Int) (n o : List UInt8) (u v : Int) (hn : n.length ≤ 9223372036854775807) (h1 : ¬ k < 1) (h2 : ¬ 6 < k) (eN : nameB n = true) (eU : isB u = true) (eV : isB v = false) (w : World) : Calls Tryz.prog 31 #[planA k n o u v] w fun e w' => e = .returned (.bool (planB k n o u v)) ∧ Below w.heap.size w w' := by
  rw [show planB k n o u v = false by simp [planB, eV]]
  unfold planA
  go_enter Tryz.func31, Tryz.ntmps31
  go_upto_region 1 with fail
  refine region_seq ?_
  repeat (go_big_quiet_step ((first | (go_at_call 48; exact quiet_call (by simp) (rname_at eN hn _)) | (go_at_call 28; first | exact quiet_call (by simp) (ris_at eU _) | exact quiet_call (by simp) (ris_at eV _)))))
  refine wpQuiet_nil ?_
  intro w1 hb1
  have HB := Lib.hid (bthen (below_allocS (Below.refl _ _) _) hb1)
  clear hb1
  go_wp2
  go_ret
  exact ⟨by first | rfl | simp [*], HB.out⟩
end Go.Proofs.YtlocoieknabiaaaGreat

/-
  Layer 13 (plan): the reference's Right.
-/
namespace Go.Proofs.YtlocoieknabiaaaGreat
set_option maxRecDepth 20000
open Go.RowKit
set_option linter.unusedSimpArgs false
set_option linter.unusedVariables false
attribute [local go_sem] rowCells rowAt_drewN get_ints getE_ints set_ints size_ints rowAt_alloc rowAt_drew setRow_alloc setRow_drewN setRow_drew setCell_alloc setCell_drewN splice_upd splice_put splice_all load_vec_cut load_vecs_cut load_rights_cut load_counter store_vec store_rights store_counter eql_vec neq_vec index_vec eql_rights neq_rights eql_counter index_vecs cut_ints sub_zero
attribute [local go_sem ↓] xload_vec xstore_vec xalloc_vec xeql_vec xneq_vec xindex_vec xbuild_vec0 xload_rights xstore_rights xalloc_rights xeql_rights xneq_rights xbuild_rights0 xload_vecs xindex_vecs xload_counter xstore_counter xalloc_counter xbuild_counter0 xeql_counter xbuild_counter3
attribute [local go_sem] rowAt_setRow rowAt_setCell load_vec_cut_later load_rights_later load_counter_later Later.cell Later.frozen build3_ints
attribute [local go_sem ↓] xload_field xstore_field xalloc_field xload_lock
attribute [local go_sem] load_field load_field_later store_field load_counter_cut load_lock_cut load_lock_later Fld.size Fld.get0 Fld.get1 Fld.get2 Fld.get586 Fld.getE0 Fld.getE1 Fld.getE2 Fld.getE586 Fld.cut_cnt Fld.cut_lock Fld.cut_all Fld.splice_all strT_size

theorem rplanRight_any (k : Int) (n o : List UInt8) (u v : Int) (hn : n.length ≤ 9223372036854775807) (ho : o.length ≤ 9223372036854775807) (w : World) : Calls Tryz.prog 31 #[planA k n o u v] w fun e w' => e = .returned (.bool (planB k n o u v)) ∧ Below w.heap.size w w' := by
  by_cases h1 : k < 1
  · exact rplan_no_lo k n o u v hn h1 w
  · by_cases h2 : 6 < k
    · exact rplan_no_hi k n o u v hn h1 h2 w
    · cases eN : nameB n with
      | false => exact rplan_no_n k n o u v hn h1 h2 eN w
      | true =>
        cases eU : isB u with
        | false => exact rplan_no_u k n o u v hn h1 h2 eN eU w
        | true =>
          cases eV : isB v with
          | false => exact rplan_no_v k n o u v hn h1 h2 eN eU eV w
          | true =>
            rw [show planB k n o u v = ruleB k n o u v by simp [planB, eN, eU, eV, show 1 ≤ k by omega, show k ≤ 6 by omega]]
            have hv : k = 1 ∨ k = 2 ∨ k = 3 ∨ k = 4 ∨ k = 5 ∨ k = 6 := by omega
            rcases hv with rfl | rfl | rfl | rfl | rfl | rfl
            · exact rplan_yes1 n o u v hn ho eN eU eV w
            · exact rplan_yes2 n o u v hn ho eN eU eV w
            · exact rplan_yes3 n o u v hn ho eN eU eV w
            · exact rplan_yes4 n o u v hn ho eN eU eV w
            · exact rplan_yes5 n o u v hn ho eN eU eV w
            · exact rplan_yes6 n o u v hn ho eN eU eV w
end Go.Proofs.YtlocoieknabiaaaGreat
