/-
  Layer 14 (message): the reference's Right.
-/
import Derived.Test.YtlocoieknabiaaaGreatZMsgR
import Derived.Test.YtlocoieknabiaaaGreatZGH
namespace Go.Proofs.YtlocoieknabiaaaGreat
set_option maxRecDepth 20000
open Go.RowKit
set_option linter.unusedSimpArgs false
set_option linter.unusedVariables false
attribute [local go_sem] rowCells rowAt_drewN get_ints getE_ints set_ints size_ints rowAt_alloc rowAt_drew setRow_alloc setRow_drewN setRow_drew setCell_alloc setCell_drewN splice_upd splice_put splice_all load_vec_cut load_vecs_cut load_rights_cut load_counter store_vec store_rights store_counter eql_vec neq_vec index_vec eql_rights neq_rights eql_counter index_vecs cut_ints sub_zero
attribute [local go_sem ↓] xload_vec xstore_vec xalloc_vec xeql_vec xneq_vec xindex_vec xbuild_vec0 xload_rights xstore_rights xalloc_rights xeql_rights xneq_rights xbuild_rights0 xload_vecs xindex_vecs xload_counter xstore_counter xalloc_counter xbuild_counter0 xeql_counter xbuild_counter3
attribute [local go_sem] rowAt_setRow rowAt_setCell load_vec_cut_later load_rights_later load_counter_later Later.cell Later.frozen build3_ints
attribute [local go_sem ↓] xload_field xstore_field xalloc_field xload_lock
attribute [local go_sem] load_field load_field_later store_field load_counter_cut load_lock_cut load_lock_later Fld.size Fld.get0 Fld.get1 Fld.get2 Fld.get586 Fld.getE0 Fld.getE1 Fld.getE2 Fld.getE586 Fld.cut_cnt Fld.cut_lock Fld.cut_all Fld.splice_all strT_size

theorem rplanFields_at {A : Option Addr} {c n : Nat} {L : Nat → Fld} {b : Bool} (e : fldsB n L = b) {w : World} (h : FldsIs w A n L) (hn : n ≤ 9223372036854775807) : Calls Tryz.prog 29 #[.slice A n c] w fun e w' => e = .returned (.bool b) ∧ Below w.heap.size w w' := by rw [← e]; exact rplanFields_any A c n L w h hn
theorem rsays_at {v : Int} {F : Fld} {b : Bool} (e : sayB v F = b) {w : World} (h : FldOk w F) : Calls Tryz.prog 30 #[.int .i64 v, .agg F.cells] w fun e w' => e = .returned (.bool b) ∧ Below w.heap.size w w' := by rw [← e]; exact rsays_any v F w h
theorem rplanRight_at {k : Int} {n o : List UInt8} {u v : Int} {b : Bool} (e : planB k n o u v = b) (hn : n.length ≤ 9223372036854775807) (ho : o.length ≤ 9223372036854775807) (w : World) : Calls Tryz.prog 31 #[planA k n o u v] w fun e w' => e = .returned (.bool b) ∧ Below w.heap.size w w' := by rw [← e]; exact rplanRight_any k n o u v hn ho w
set_option maxHeartbeats 4000000 in
theorem rmright_no (m : Msg) (h : (hd1B m && hd2B m) = false) (w : World) (hm : MsgOk w m) : Calls Tryz.prog 19 #[.agg m.cells] w fun e w' => e = .returned (.bool false) ∧ Below w.heap.size w w' := by
  have hbig := Nat.le_trans hm.le hm.big.2.2
  have hpn := hm.big.1
  have hpo := hm.big.2.1
  have HI0 := Lib.hid (hm.flds.below ((Below.refl w.heap.size w).alloc (Nat.le_refl _) (.cells m.cells 34)))
  have HI00 := Lib.hid hm.flds
  clear hm
  unfold Msg.cells at HI0
  by_cases g0 : 1 ≤ m.kind
  rotate_left
  · clear h
    unfold Msg.cells
    go_enter Tryz.func19, Tryz.ntmps19
    go_upto_region 1 with fail
    refine region_seq ?_
    repeat (go_big_quiet_step ((first | (go_at_call 28; exact quiet_call (by simp) (ris_at (by assumption) _)) | (go_at_call 29; exact quiet_call (by simp) (rplanFields_at (by assumption) (FldsIs.below HI0.out (Later.below _)) hbig)))))
    refine wpQuiet_nil ?_
    intro w1 hb1
    have r : rowAt w1 w.heap.size = some (#[.int .i64 m.kind, .int .i64 m.frm, .int .i64 m.to, .int .i64 m.ver, .int .i64 m.num, .bool m.yes, .slice m.fA m.fn m.fc, .int .i64 m.pk, .string (strT m.pn), .string (strT m.po), .int .i64 m.pa, .int .i64 m.pb], 34) := rowKeep hb1 (rowAt_alloc_at _ _ _ _ rfl)
    have HB := Lib.hid (bthen (below_allocS (Below.refl _ _) _) hb1)
    have n1 := rowAt_lt r
    clear hb1 HI00 HI0
    have k0 : w1.cell? ⟨w.heap.size, 0, none⟩ = some (.int .i64 m.kind) := by rw [cell_of_rowAt r]; rfl
    have k5 : w1.cell? ⟨w.heap.size, 5, none⟩ = some (.bool m.yes) := by rw [cell_of_rowAt r]; rfl
    have k6 : w1.cell? ⟨w.heap.size, 6, none⟩ = some (.slice m.fA m.fn m.fc) := by rw [cell_of_rowAt r]; rfl
    have k7 : w1.cell? ⟨w.heap.size, 7, none⟩ = some (.int .i64 m.pk) := by rw [cell_of_rowAt r]; rfl
    have k8 : w1.cell? ⟨w.heap.size, 8, none⟩ = some (.string (strT m.pn)) := by rw [cell_of_rowAt r]; rfl
    have k9 : w1.cell? ⟨w.heap.size, 9, none⟩ = some (.string (strT m.po)) := by rw [cell_of_rowAt r]; rfl
    have k10 : w1.cell? ⟨w.heap.size, 10, none⟩ = some (.int .i64 m.pa) := by rw [cell_of_rowAt r]; rfl
    have k11 : w1.cell? ⟨w.heap.size, 11, none⟩ = some (.int .i64 m.pb) := by rw [cell_of_rowAt r]; rfl
    clear r
    go_upto_region 2 with fail
    go_wp2_with fail
    go_loopw [3, 4] (fun q i w' => q = .bool false ∧ i = .int .i64 0 ∧ w' = w1) (fun _ _ _ => 0)
    case atStart => exact ⟨rfl, rfl, rfl⟩
    case round =>
      obtain ⟨rfl, rfl, rfl⟩ := hrel
      go_wp2_with fail
      all_goals (
        go_ret
        exact ⟨rfl, HB.out⟩)
  by_cases g1 : m.kind ≤ 5
  rotate_left
  · clear h
    unfold Msg.cells
    go_enter Tryz.func19, Tryz.ntmps19
    go_upto_region 1 with fail
    refine region_seq ?_
    repeat (go_big_quiet_step ((first | (go_at_call 28; exact quiet_call (by simp) (ris_at (by assumption) _)) | (go_at_call 29; exact quiet_call (by simp) (rplanFields_at (by assumption) (FldsIs.below HI0.out (Later.below _)) hbig)))))
    refine wpQuiet_nil ?_
    intro w1 hb1
    have r : rowAt w1 w.heap.size = some (#[.int .i64 m.kind, .int .i64 m.frm, .int .i64 m.to, .int .i64 m.ver, .int .i64 m.num, .bool m.yes, .slice m.fA m.fn m.fc, .int .i64 m.pk, .string (strT m.pn), .string (strT m.po), .int .i64 m.pa, .int .i64 m.pb], 34) := rowKeep hb1 (rowAt_alloc_at _ _ _ _ rfl)
    have HB := Lib.hid (bthen (below_allocS (Below.refl _ _) _) hb1)
    have n1 := rowAt_lt r
    clear hb1 HI00 HI0
    have k0 : w1.cell? ⟨w.heap.size, 0, none⟩ = some (.int .i64 m.kind) := by rw [cell_of_rowAt r]; rfl
    have k5 : w1.cell? ⟨w.heap.size, 5, none⟩ = some (.bool m.yes) := by rw [cell_of_rowAt r]; rfl
    have k6 : w1.cell? ⟨w.heap.size, 6, none⟩ = some (.slice m.fA m.fn m.fc) := by rw [cell_of_rowAt r]; rfl
    have k7 : w1.cell? ⟨w.heap.size, 7, none⟩ = some (.int .i64 m.pk) := by rw [cell_of_rowAt r]; rfl
    have k8 : w1.cell? ⟨w.heap.size, 8, none⟩ = some (.string (strT m.pn)) := by rw [cell_of_rowAt r]; rfl
    have k9 : w1.cell? ⟨w.heap.size, 9, none⟩ = some (.string (strT m.po)) := by rw [cell_of_rowAt r]; rfl
    have k10 : w1.cell? ⟨w.heap.size, 10, none⟩ = some (.int .i64 m.pa) := by rw [cell_of_rowAt r]; rfl
    have k11 : w1.cell? ⟨w.heap.size, 11, none⟩ = some (.int .i64 m.pb) := by rw [cell_of_rowAt r]; rfl
    clear r
    go_upto_region 2 with fail
    go_wp2_with fail
    go_loopw [3, 4] (fun q i w' => q = .bool false ∧ i = .int .i64 0 ∧ w' = w1) (fun _ _ _ => 0)
    case atStart => exact ⟨rfl, rfl, rfl⟩
    case round =>
      obtain ⟨rfl, rfl, rfl⟩ := hrel
      go_wp2_with fail
      all_goals (
        go_ret
        exact ⟨rfl, HB.out⟩)
  by_cases g2 : 0 ≤ m.frm
  rotate_left
  · clear h
    unfold Msg.cells
    go_enter Tryz.func19, Tryz.ntmps19
    go_upto_region 1 with fail
    refine region_seq ?_
    repeat (go_big_quiet_step ((first | (go_at_call 28; exact quiet_call (by simp) (ris_at (by assumption) _)) | (go_at_call 29; exact quiet_call (by simp) (rplanFields_at (by assumption) (FldsIs.below HI0.out (Later.below _)) hbig)))))
    refine wpQuiet_nil ?_
    intro w1 hb1
    have r : rowAt w1 w.heap.size = some (#[.int .i64 m.kind, .int .i64 m.frm, .int .i64 m.to, .int .i64 m.ver, .int .i64 m.num, .bool m.yes, .slice m.fA m.fn m.fc, .int .i64 m.pk, .string (strT m.pn), .string (strT m.po), .int .i64 m.pa, .int .i64 m.pb], 34) := rowKeep hb1 (rowAt_alloc_at _ _ _ _ rfl)
    have HB := Lib.hid (bthen (below_allocS (Below.refl _ _) _) hb1)
    have n1 := rowAt_lt r
    clear hb1 HI00 HI0
    have k0 : w1.cell? ⟨w.heap.size, 0, none⟩ = some (.int .i64 m.kind) := by rw [cell_of_rowAt r]; rfl
    have k5 : w1.cell? ⟨w.heap.size, 5, none⟩ = some (.bool m.yes) := by rw [cell_of_rowAt r]; rfl
    have k6 : w1.cell? ⟨w.heap.size, 6, none⟩ = some (.slice m.fA m.fn m.fc) := by rw [cell_of_rowAt r]; rfl
    have k7 : w1.cell? ⟨w.heap.size, 7, none⟩ = some (.int .i64 m.pk) := by rw [cell_of_rowAt r]; rfl
    have k8 : w1.cell? ⟨w.heap.size, 8, none⟩ = some (.string (strT m.pn)) := by rw [cell_of_rowAt r]; rfl
    have k9 : w1.cell? ⟨w.heap.size, 9, none⟩ = some (.string (strT m.po)) := by rw [cell_of_rowAt r]; rfl
    have k10 : w1.cell? ⟨w.heap.size, 10, none⟩ = some (.int .i64 m.pa) := by rw [cell_of_rowAt r]; rfl
    have k11 : w1.cell? ⟨w.heap.size, 11, none⟩ = some (.int .i64 m.pb) := by rw [cell_of_rowAt r]; rfl
    clear r
    go_upto_region 2 with fail
    go_wp2_with fail
    go_loopw [3, 4] (fun q i w' => q = .bool false ∧ i = .int .i64 0 ∧ w' = w1) (fun _ _ _ => 0)
    case atStart => exact ⟨rfl, rfl, rfl⟩
    case round =>
      obtain ⟨rfl, rfl, rfl⟩ := hrel
      go_wp2_with fail
      all_goals (
        go_ret
        exact ⟨rfl, HB.out⟩)
  by_cases g3 : m.frm ≤ 15
  rotate_left
  · clear h
    unfold Msg.cells
    go_enter Tryz.func19, Tryz.ntmps19
    go_upto_region 1 with fail
    refine region_seq ?_
    repeat (go_big_quiet_step ((first | (go_at_call 28; exact quiet_call (by simp) (ris_at (by assumption) _)) | (go_at_call 29; exact quiet_call (by simp) (rplanFields_at (by assumption) (FldsIs.below HI0.out (Later.below _)) hbig)))))
    refine wpQuiet_nil ?_
    intro w1 hb1
    have r : rowAt w1 w.heap.size = some (#[.int .i64 m.kind, .int .i64 m.frm, .int .i64 m.to, .int .i64 m.ver, .int .i64 m.num, .bool m.yes, .slice m.fA m.fn m.fc, .int .i64 m.pk, .string (strT m.pn), .string (strT m.po), .int .i64 m.pa, .int .i64 m.pb], 34) := rowKeep hb1 (rowAt_alloc_at _ _ _ _ rfl)
    have HB := Lib.hid (bthen (below_allocS (Below.refl _ _) _) hb1)
    have n1 := rowAt_lt r
    clear hb1 HI00 HI0
    have k0 : w1.cell? ⟨w.heap.size, 0, none⟩ = some (.int .i64 m.kind) := by rw [cell_of_rowAt r]; rfl
    have k5 : w1.cell? ⟨w.heap.size, 5, none⟩ = some (.bool m.yes) := by rw [cell_of_rowAt r]; rfl
    have k6 : w1.cell? ⟨w.heap.size, 6, none⟩ = some (.slice m.fA m.fn m.fc) := by rw [cell_of_rowAt r]; rfl
    have k7 : w1.cell? ⟨w.heap.size, 7, none⟩ = some (.int .i64 m.pk) := by rw [cell_of_rowAt r]; rfl
    have k8 : w1.cell? ⟨w.heap.size, 8, none⟩ = some (.string (strT m.pn)) := by rw [cell_of_rowAt r]; rfl
    have k9 : w1.cell? ⟨w.heap.size, 9, none⟩ = some (.string (strT m.po)) := by rw [cell_of_rowAt r]; rfl
    have k10 : w1.cell? ⟨w.heap.size, 10, none⟩ = some (.int .i64 m.pa) := by rw [cell_of_rowAt r]; rfl
    have k11 : w1.cell? ⟨w.heap.size, 11, none⟩ = some (.int .i64 m.pb) := by rw [cell_of_rowAt r]; rfl
    clear r
    go_upto_region 2 with fail
    go_wp2_with fail
    go_loopw [3, 4] (fun q i w' => q = .bool false ∧ i = .int .i64 0 ∧ w' = w1) (fun _ _ _ => 0)
    case atStart => exact ⟨rfl, rfl, rfl⟩
    case round =>
      obtain ⟨rfl, rfl, rfl⟩ := hrel
      go_wp2_with fail
      all_goals (
        go_ret
        exact ⟨rfl, HB.out⟩)
  by_cases g4 : 0 ≤ m.to
  rotate_left
  · clear h
    unfold Msg.cells
    go_enter Tryz.func19, Tryz.ntmps19
    go_upto_region 1 with fail
    refine region_seq ?_
    repeat (go_big_quiet_step ((first | (go_at_call 28; exact quiet_call (by simp) (ris_at (by assumption) _)) | (go_at_call 29; exact quiet_call (by simp) (rplanFields_at (by assumption) (FldsIs.below HI0.out (Later.below _)) hbig)))))
    refine wpQuiet_nil ?_
    intro w1 hb1
    have r : rowAt w1 w.heap.size = some (#[.int .i64 m.kind, .int .i64 m.frm, .int .i64 m.to, .int .i64 m.ver, .int .i64 m.num, .bool m.yes, .slice m.fA m.fn m.fc, .int .i64 m.pk, .string (strT m.pn), .string (strT m.po), .int .i64 m.pa, .int .i64 m.pb], 34) := rowKeep hb1 (rowAt_alloc_at _ _ _ _ rfl)
    have HB := Lib.hid (bthen (below_allocS (Below.refl _ _) _) hb1)
    have n1 := rowAt_lt r
    clear hb1 HI00 HI0
    have k0 : w1.cell? ⟨w.heap.size, 0, none⟩ = some (.int .i64 m.kind) := by rw [cell_of_rowAt r]; rfl
    have k5 : w1.cell? ⟨w.heap.size, 5, none⟩ = some (.bool m.yes) := by rw [cell_of_rowAt r]; rfl
    have k6 : w1.cell? ⟨w.heap.size, 6, none⟩ = some (.slice m.fA m.fn m.fc) := by rw [cell_of_rowAt r]; rfl
    have k7 : w1.cell? ⟨w.heap.size, 7, none⟩ = some (.int .i64 m.pk) := by rw [cell_of_rowAt r]; rfl
    have k8 : w1.cell? ⟨w.heap.size, 8, none⟩ = some (.string (strT m.pn)) := by rw [cell_of_rowAt r]; rfl
    have k9 : w1.cell? ⟨w.heap.size, 9, none⟩ = some (.string (strT m.po)) := by rw [cell_of_rowAt r]; rfl
    have k10 : w1.cell? ⟨w.heap.size, 10, none⟩ = some (.int .i64 m.pa) := by rw [cell_of_rowAt r]; rfl
    have k11 : w1.cell? ⟨w.heap.size, 11, none⟩ = some (.int .i64 m.pb) := by rw [cell_of_rowAt r]; rfl
    clear r
    go_upto_region 2 with fail
    go_wp2_with fail
    go_loopw [3, 4] (fun q i w' => q = .bool false ∧ i = .int .i64 0 ∧ w' = w1) (fun _ _ _ => 0)
    case atStart => exact ⟨rfl, rfl, rfl⟩
    case round =>
      obtain ⟨rfl, rfl, rfl⟩ := hrel
      go_wp2_with fail
      all_goals (
        go_ret
        exact ⟨rfl, HB.out⟩)
  by_cases g5 : m.to ≤ 15
  rotate_left
  · clear h
    unfold Msg.cells
    go_enter Tryz.func19, Tryz.ntmps19
    go_upto_region 1 with fail
    refine region_seq ?_
    repeat (go_big_quiet_step ((first | (go_at_call 28; exact quiet_call (by simp) (ris_at (by assumption) _)) | (go_at_call 29; exact quiet_call (by simp) (rplanFields_at (by assumption) (FldsIs.below HI0.out (Later.below _)) hbig)))))
    refine wpQuiet_nil ?_
    intro w1 hb1
    have r : rowAt w1 w.heap.size = some (#[.int .i64 m.kind, .int .i64 m.frm, .int .i64 m.to, .int .i64 m.ver, .int .i64 m.num, .bool m.yes, .slice m.fA m.fn m.fc, .int .i64 m.pk, .string (strT m.pn), .string (strT m.po), .int .i64 m.pa, .int .i64 m.pb], 34) := rowKeep hb1 (rowAt_alloc_at _ _ _ _ rfl)
    have HB := Lib.hid (bthen (below_allocS (Below.refl _ _) _) hb1)
    have n1 := rowAt_lt r
    clear hb1 HI00 HI0
    have k0 : w1.cell? ⟨w.heap.size, 0, none⟩ = some (.int .i64 m.kind) := by rw [cell_of_rowAt r]; rfl
    have k5 : w1.cell? ⟨w.heap.size, 5, none⟩ = some (.bool m.yes) := by rw [cell_of_rowAt r]; rfl
    have k6 : w1.cell? ⟨w.heap.size, 6, none⟩ = some (.slice m.fA m.fn m.fc) := by rw [cell_of_rowAt r]; rfl
    have k7 : w1.cell? ⟨w.heap.size, 7, none⟩ = some (.int .i64 m.pk) := by rw [cell_of_rowAt r]; rfl
    have k8 : w1.cell? ⟨w.heap.size, 8, none⟩ = some (.string (strT m.pn)) := by rw [cell_of_rowAt r]; rfl
    have k9 : w1.cell? ⟨w.heap.size, 9, none⟩ = some (.string (strT m.po)) := by rw [cell_of_rowAt r]; rfl
    have k10 : w1.cell? ⟨w.heap.size, 10, none⟩ = some (.int .i64 m.pa) := by rw [cell_of_rowAt r]; rfl
    have k11 : w1.cell? ⟨w.heap.size, 11, none⟩ = some (.int .i64 m.pb) := by rw [cell_of_rowAt r]; rfl
    clear r
    go_upto_region 2 with fail
    go_wp2_with fail
    go_loopw [3, 4] (fun q i w' => q = .bool false ∧ i = .int .i64 0 ∧ w' = w1) (fun _ _ _ => 0)
    case atStart => exact ⟨rfl, rfl, rfl⟩
    case round =>
      obtain ⟨rfl, rfl, rfl⟩ := hrel
      go_wp2_with fail
      all_goals (
        go_ret
        exact ⟨rfl, HB.out⟩)
  by_cases g6 : m.frm = m.to
  · clear h
    have g10 : (m.frm != m.to) = false := by simp [g6]
    clear g6
    unfold Msg.cells
    go_enter Tryz.func19, Tryz.ntmps19
    go_upto_region 1 with fail
    refine region_seq ?_
    repeat (go_big_quiet_step ((first | (go_at_call 28; exact quiet_call (by simp) (ris_at (by assumption) _)) | (go_at_call 29; exact quiet_call (by simp) (rplanFields_at (by assumption) (FldsIs.below HI0.out (Later.below _)) hbig)))))
    refine wpQuiet_nil ?_
    intro w1 hb1
    have r : rowAt w1 w.heap.size = some (#[.int .i64 m.kind, .int .i64 m.frm, .int .i64 m.to, .int .i64 m.ver, .int .i64 m.num, .bool m.yes, .slice m.fA m.fn m.fc, .int .i64 m.pk, .string (strT m.pn), .string (strT m.po), .int .i64 m.pa, .int .i64 m.pb], 34) := rowKeep hb1 (rowAt_alloc_at _ _ _ _ rfl)
    have HB := Lib.hid (bthen (below_allocS (Below.refl _ _) _) hb1)
    have n1 := rowAt_lt r
    clear hb1 HI00 HI0
    have k0 : w1.cell? ⟨w.heap.size, 0, none⟩ = some (.int .i64 m.kind) := by rw [cell_of_rowAt r]; rfl
    have k5 : w1.cell? ⟨w.heap.size, 5, none⟩ = some (.bool m.yes) := by rw [cell_of_rowAt r]; rfl
    have k6 : w1.cell? ⟨w.heap.size, 6, none⟩ = some (.slice m.fA m.fn m.fc) := by rw [cell_of_rowAt r]; rfl
    have k7 : w1.cell? ⟨w.heap.size, 7, none⟩ = some (.int .i64 m.pk) := by rw [cell_of_rowAt r]; rfl
    have k8 : w1.cell? ⟨w.heap.size, 8, none⟩ = some (.string (strT m.pn)) := by rw [cell_of_rowAt r]; rfl
    have k9 : w1.cell? ⟨w.heap.size, 9, none⟩ = some (.string (strT m.po)) := by rw [cell_of_rowAt r]; rfl
    have k10 : w1.cell? ⟨w.heap.size, 10, none⟩ = some (.int .i64 m.pa) := by rw [cell_of_rowAt r]; rfl
    have k11 : w1.cell? ⟨w.heap.size, 11, none⟩ = some (.int .i64 m.pb) := by rw [cell_of_rowAt r]; rfl
    clear r
    go_upto_region 2 with fail
    go_wp2_with fail
    go_loopw [3, 4] (fun q i w' => q = .bool false ∧ i = .int .i64 0 ∧ w' = w1) (fun _ _ _ => 0)
    case atStart => exact ⟨rfl, rfl, rfl⟩
    case round =>
      obtain ⟨rfl, rfl, rfl⟩ := hrel
      go_wp2_with fail
      all_goals (
        go_ret
        exact ⟨rfl, HB.out⟩)
  have g10 : (m.frm != m.to) = true := by simp [g6]
  by_cases g7 : 1 ≤ m.ver
  rotate_left
  · clear h
    unfold Msg.cells
    go_enter Tryz.func19, Tryz.ntmps19
    go_upto_region 1 with fail
    refine region_seq ?_
    repeat (go_big_quiet_step ((first | (go_at_call 28; exact quiet_call (by simp) (ris_at (by assumption) _)) | (go_at_call 29; exact quiet_call (by simp) (rplanFields_at (by assumption) (FldsIs.below HI0.out (Later.below _)) hbig)))))
    refine wpQuiet_nil ?_
    intro w1 hb1
    have r : rowAt w1 w.heap.size = some (#[.int .i64 m.kind, .int .i64 m.frm, .int .i64 m.to, .int .i64 m.ver, .int .i64 m.num, .bool m.yes, .slice m.fA m.fn m.fc, .int .i64 m.pk, .string (strT m.pn), .string (strT m.po), .int .i64 m.pa, .int .i64 m.pb], 34) := rowKeep hb1 (rowAt_alloc_at _ _ _ _ rfl)
    have HB := Lib.hid (bthen (below_allocS (Below.refl _ _) _) hb1)
    have n1 := rowAt_lt r
    clear hb1 HI00 HI0
    have k0 : w1.cell? ⟨w.heap.size, 0, none⟩ = some (.int .i64 m.kind) := by rw [cell_of_rowAt r]; rfl
    have k5 : w1.cell? ⟨w.heap.size, 5, none⟩ = some (.bool m.yes) := by rw [cell_of_rowAt r]; rfl
    have k6 : w1.cell? ⟨w.heap.size, 6, none⟩ = some (.slice m.fA m.fn m.fc) := by rw [cell_of_rowAt r]; rfl
    have k7 : w1.cell? ⟨w.heap.size, 7, none⟩ = some (.int .i64 m.pk) := by rw [cell_of_rowAt r]; rfl
    have k8 : w1.cell? ⟨w.heap.size, 8, none⟩ = some (.string (strT m.pn)) := by rw [cell_of_rowAt r]; rfl
    have k9 : w1.cell? ⟨w.heap.size, 9, none⟩ = some (.string (strT m.po)) := by rw [cell_of_rowAt r]; rfl
    have k10 : w1.cell? ⟨w.heap.size, 10, none⟩ = some (.int .i64 m.pa) := by rw [cell_of_rowAt r]; rfl
    have k11 : w1.cell? ⟨w.heap.size, 11, none⟩ = some (.int .i64 m.pb) := by rw [cell_of_rowAt r]; rfl
    clear r
    go_upto_region 2 with fail
    go_wp2_with fail
    go_loopw [3, 4] (fun q i w' => q = .bool false ∧ i = .int .i64 0 ∧ w' = w1) (fun _ _ _ => 0)
    case atStart => exact ⟨rfl, rfl, rfl⟩
    case round =>
      obtain ⟨rfl, rfl, rfl⟩ := hrel
      go_wp2_with fail
      all_goals (
        go_ret
        exact ⟨rfl, HB.out⟩)
  by_cases g8 : m.ver ≤ 3
  rotate_left
  · clear h
    unfold Msg.cells
    go_enter Tryz.func19, Tryz.ntmps19
    go_upto_region 1 with fail
    refine region_seq ?_
    repeat (go_big_quiet_step ((first | (go_at_call 28; exact quiet_call (by simp) (ris_at (by assumption) _)) | (go_at_call 29; exact quiet_call (by simp) (rplanFields_at (by assumption) (FldsIs.below HI0.out (Later.below _)) hbig)))))
    refine wpQuiet_nil ?_
    intro w1 hb1
    have r : rowAt w1 w.heap.size = some (#[.int .i64 m.kind, .int .i64 m.frm, .int .i64 m.to, .int .i64 m.ver, .int .i64 m.num, .bool m.yes, .slice m.fA m.fn m.fc, .int .i64 m.pk, .string (strT m.pn), .string (strT m.po), .int .i64 m.pa, .int .i64 m.pb], 34) := rowKeep hb1 (rowAt_alloc_at _ _ _ _ rfl)
    have HB := Lib.hid (bthen (below_allocS (Below.refl _ _) _) hb1)
    have n1 := rowAt_lt r
    clear hb1 HI00 HI0
    have k0 : w1.cell? ⟨w.heap.size, 0, none⟩ = some (.int .i64 m.kind) := by rw [cell_of_rowAt r]; rfl
    have k5 : w1.cell? ⟨w.heap.size, 5, none⟩ = some (.bool m.yes) := by rw [cell_of_rowAt r]; rfl
    have k6 : w1.cell? ⟨w.heap.size, 6, none⟩ = some (.slice m.fA m.fn m.fc) := by rw [cell_of_rowAt r]; rfl
    have k7 : w1.cell? ⟨w.heap.size, 7, none⟩ = some (.int .i64 m.pk) := by rw [cell_of_rowAt r]; rfl
    have k8 : w1.cell? ⟨w.heap.size, 8, none⟩ = some (.string (strT m.pn)) := by rw [cell_of_rowAt r]; rfl
    have k9 : w1.cell? ⟨w.heap.size, 9, none⟩ = some (.string (strT m.po)) := by rw [cell_of_rowAt r]; rfl
    have k10 : w1.cell? ⟨w.heap.size, 10, none⟩ = some (.int .i64 m.pa) := by rw [cell_of_rowAt r]; rfl
    have k11 : w1.cell? ⟨w.heap.size, 11, none⟩ = some (.int .i64 m.pb) := by rw [cell_of_rowAt r]; rfl
    clear r
    go_upto_region 2 with fail
    go_wp2_with fail
    go_loopw [3, 4] (fun q i w' => q = .bool false ∧ i = .int .i64 0 ∧ w' = w1) (fun _ _ _ => 0)
    case atStart => exact ⟨rfl, rfl, rfl⟩
    case round =>
      obtain ⟨rfl, rfl, rfl⟩ := hrel
      go_wp2_with fail
      all_goals (
        go_ret
        exact ⟨rfl, HB.out⟩)
  by_cases g9 : 0 ≤ m.num
  rotate_left
  · clear h
    unfold Msg.cells
    go_enter Tryz.func19, Tryz.ntmps19
    go_upto_region 1 with fail
    refine region_seq ?_
    repeat (go_big_quiet_step ((first | (go_at_call 28; exact quiet_call (by simp) (ris_at (by assumption) _)) | (go_at_call 29; exact quiet_call (by simp) (rplanFields_at (by assumption) (FldsIs.below HI0.out (Later.below _)) hbig)))))
    refine wpQuiet_nil ?_
    intro w1 hb1
    have r : rowAt w1 w.heap.size = some (#[.int .i64 m.kind, .int .i64 m.frm, .int .i64 m.to, .int .i64 m.ver, .int .i64 m.num, .bool m.yes, .slice m.fA m.fn m.fc, .int .i64 m.pk, .string (strT m.pn), .string (strT m.po), .int .i64 m.pa, .int .i64 m.pb], 34) := rowKeep hb1 (rowAt_alloc_at _ _ _ _ rfl)
    have HB := Lib.hid (bthen (below_allocS (Below.refl _ _) _) hb1)
    have n1 := rowAt_lt r
    clear hb1 HI00 HI0
    have k0 : w1.cell? ⟨w.heap.size, 0, none⟩ = some (.int .i64 m.kind) := by rw [cell_of_rowAt r]; rfl
    have k5 : w1.cell? ⟨w.heap.size, 5, none⟩ = some (.bool m.yes) := by rw [cell_of_rowAt r]; rfl
    have k6 : w1.cell? ⟨w.heap.size, 6, none⟩ = some (.slice m.fA m.fn m.fc) := by rw [cell_of_rowAt r]; rfl
    have k7 : w1.cell? ⟨w.heap.size, 7, none⟩ = some (.int .i64 m.pk) := by rw [cell_of_rowAt r]; rfl
    have k8 : w1.cell? ⟨w.heap.size, 8, none⟩ = some (.string (strT m.pn)) := by rw [cell_of_rowAt r]; rfl
    have k9 : w1.cell? ⟨w.heap.size, 9, none⟩ = some (.string (strT m.po)) := by rw [cell_of_rowAt r]; rfl
    have k10 : w1.cell? ⟨w.heap.size, 10, none⟩ = some (.int .i64 m.pa) := by rw [cell_of_rowAt r]; rfl
    have k11 : w1.cell? ⟨w.heap.size, 11, none⟩ = some (.int .i64 m.pb) := by rw [cell_of_rowAt r]; rfl
    clear r
    go_upto_region 2 with fail
    go_wp2_with fail
    go_loopw [3, 4] (fun q i w' => q = .bool false ∧ i = .int .i64 0 ∧ w' = w1) (fun _ _ _ => 0)
    case atStart => exact ⟨rfl, rfl, rfl⟩
    case round =>
      obtain ⟨rfl, rfl, rfl⟩ := hrel
      go_wp2_with fail
      all_goals (
        go_ret
        exact ⟨rfl, HB.out⟩)
  obtain ⟨c2, f2⟩ : ∃ b, isB m.num = b := ⟨_, rfl⟩
  obtain ⟨c3, f3⟩ : ∃ b, fldsB m.fn m.fl = b := ⟨_, rfl⟩
  cases c2
  · clear h
    unfold Msg.cells
    go_enter Tryz.func19, Tryz.ntmps19
    go_upto_region 1 with fail
    refine region_seq ?_
    repeat (go_big_quiet_step ((first | (go_at_call 28; exact quiet_call (by simp) (ris_at (by assumption) _)) | (go_at_call 29; exact quiet_call (by simp) (rplanFields_at (by assumption) (FldsIs.below HI0.out (Later.below _)) hbig)))))
    refine wpQuiet_nil ?_
    intro w1 hb1
    have r : rowAt w1 w.heap.size = some (#[.int .i64 m.kind, .int .i64 m.frm, .int .i64 m.to, .int .i64 m.ver, .int .i64 m.num, .bool m.yes, .slice m.fA m.fn m.fc, .int .i64 m.pk, .string (strT m.pn), .string (strT m.po), .int .i64 m.pa, .int .i64 m.pb], 34) := rowKeep hb1 (rowAt_alloc_at _ _ _ _ rfl)
    have HB := Lib.hid (bthen (below_allocS (Below.refl _ _) _) hb1)
    have n1 := rowAt_lt r
    clear hb1 HI00 HI0
    have k0 : w1.cell? ⟨w.heap.size, 0, none⟩ = some (.int .i64 m.kind) := by rw [cell_of_rowAt r]; rfl
    have k5 : w1.cell? ⟨w.heap.size, 5, none⟩ = some (.bool m.yes) := by rw [cell_of_rowAt r]; rfl
    have k6 : w1.cell? ⟨w.heap.size, 6, none⟩ = some (.slice m.fA m.fn m.fc) := by rw [cell_of_rowAt r]; rfl
    have k7 : w1.cell? ⟨w.heap.size, 7, none⟩ = some (.int .i64 m.pk) := by rw [cell_of_rowAt r]; rfl
    have k8 : w1.cell? ⟨w.heap.size, 8, none⟩ = some (.string (strT m.pn)) := by rw [cell_of_rowAt r]; rfl
    have k9 : w1.cell? ⟨w.heap.size, 9, none⟩ = some (.string (strT m.po)) := by rw [cell_of_rowAt r]; rfl
    have k10 : w1.cell? ⟨w.heap.size, 10, none⟩ = some (.int .i64 m.pa) := by rw [cell_of_rowAt r]; rfl
    have k11 : w1.cell? ⟨w.heap.size, 11, none⟩ = some (.int .i64 m.pb) := by rw [cell_of_rowAt r]; rfl
    clear r
    go_upto_region 2 with fail
    go_wp2_with fail
    go_loopw [3, 4] (fun q i w' => q = .bool false ∧ i = .int .i64 0 ∧ w' = w1) (fun _ _ _ => 0)
    case atStart => exact ⟨rfl, rfl, rfl⟩
    case round =>
      obtain ⟨rfl, rfl, rfl⟩ := hrel
      go_wp2_with fail
      all_goals (
        go_ret
        exact ⟨rfl, HB.out⟩)
  cases c3
  · clear h
    unfold Msg.cells
    go_enter Tryz.func19, Tryz.ntmps19
    go_upto_region 1 with fail
    refine region_seq ?_
    repeat (go_big_quiet_step ((first | (go_at_call 28; exact quiet_call (by simp) (ris_at (by assumption) _)) | (go_at_call 29; exact quiet_call (by simp) (rplanFields_at (by assumption) (FldsIs.below HI0.out (Later.below _)) hbig)))))
    refine wpQuiet_nil ?_
    intro w1 hb1
    have r : rowAt w1 w.heap.size = some (#[.int .i64 m.kind, .int .i64 m.frm, .int .i64 m.to, .int .i64 m.ver, .int .i64 m.num, .bool m.yes, .slice m.fA m.fn m.fc, .int .i64 m.pk, .string (strT m.pn), .string (strT m.po), .int .i64 m.pa, .int .i64 m.pb], 34) := rowKeep hb1 (rowAt_alloc_at _ _ _ _ rfl)
    have HB := Lib.hid (bthen (below_allocS (Below.refl _ _) _) hb1)
    have n1 := rowAt_lt r
    clear hb1 HI00 HI0
    have k0 : w1.cell? ⟨w.heap.size, 0, none⟩ = some (.int .i64 m.kind) := by rw [cell_of_rowAt r]; rfl
    have k5 : w1.cell? ⟨w.heap.size, 5, none⟩ = some (.bool m.yes) := by rw [cell_of_rowAt r]; rfl
    have k6 : w1.cell? ⟨w.heap.size, 6, none⟩ = some (.slice m.fA m.fn m.fc) := by rw [cell_of_rowAt r]; rfl
    have k7 : w1.cell? ⟨w.heap.size, 7, none⟩ = some (.int .i64 m.pk) := by rw [cell_of_rowAt r]; rfl
    have k8 : w1.cell? ⟨w.heap.size, 8, none⟩ = some (.string (strT m.pn)) := by rw [cell_of_rowAt r]; rfl
    have k9 : w1.cell? ⟨w.heap.size, 9, none⟩ = some (.string (strT m.po)) := by rw [cell_of_rowAt r]; rfl
    have k10 : w1.cell? ⟨w.heap.size, 10, none⟩ = some (.int .i64 m.pa) := by rw [cell_of_rowAt r]; rfl
    have k11 : w1.cell? ⟨w.heap.size, 11, none⟩ = some (.int .i64 m.pb) := by rw [cell_of_rowAt r]; rfl
    clear r
    go_upto_region 2 with fail
    go_wp2_with fail
    go_loopw [3, 4] (fun q i w' => q = .bool false ∧ i = .int .i64 0 ∧ w' = w1) (fun _ _ _ => 0)
    case atStart => exact ⟨rfl, rfl, rfl⟩
    case round =>
      obtain ⟨rfl, rfl, rfl⟩ := hrel
      go_wp2_with fail
      all_goals (
        go_ret
        exact ⟨rfl, HB.out⟩)
  exfalso; simp [hd1B, hd2B, tweenB, *] at h
set_option maxHeartbeats 4000000 in
theorem rmright_go (m : Msg) (h1 : hd1B m = true) (h2 : hd2B m = true) (w : World) (hm : MsgOk w m) : Calls Tryz.prog 19 #[.agg m.cells] w fun e w' => e = .returned (.bool (rightM m)) ∧ Below w.heap.size w w' := by
  have hbig := Nat.le_trans hm.le hm.big.2.2
  have hpn := hm.big.1
  have hpo := hm.big.2.1
  have HI0 := Lib.hid (hm.flds.below ((Below.refl w.heap.size w).alloc (Nat.le_refl _) (.cells m.cells 34)))
  have HI00 := Lib.hid hm.flds
  clear hm
  unfold Msg.cells at HI0
  have HH1 := Lib.hid h1
  have HH2 := Lib.hid h2
  simp only [hd1B, tweenB, Bool.and_eq_true, Bool.not_eq_true', decide_eq_true_eq, decide_eq_false_iff_not] at h1
  obtain ⟨⟨⟨⟨g0, g1⟩, g2, g3⟩, g4, g5⟩, g6⟩ := h1
  simp only [hd2B, tweenB, Bool.and_eq_true, decide_eq_true_eq] at h2
  obtain ⟨⟨⟨g9, f2⟩, f3⟩, g7, g8⟩ := h2
  have g10 : (m.frm != m.to) = true := by simp [g6]
  unfold Msg.cells
  go_enter Tryz.func19, Tryz.ntmps19
  go_upto_region 1 with fail
  refine region_seq ?_
  repeat (go_big_quiet_step ((first | (go_at_call 28; exact quiet_call (by simp) (ris_at (by assumption) _)) | (go_at_call 29; exact quiet_call (by simp) (rplanFields_at (by assumption) (FldsIs.below HI0.out (Later.below _)) hbig)))))
  refine wpQuiet_nil ?_
  intro w1 hb1
  have r : rowAt w1 w.heap.size = some (#[.int .i64 m.kind, .int .i64 m.frm, .int .i64 m.to, .int .i64 m.ver, .int .i64 m.num, .bool m.yes, .slice m.fA m.fn m.fc, .int .i64 m.pk, .string (strT m.pn), .string (strT m.po), .int .i64 m.pa, .int .i64 m.pb], 34) := rowKeep hb1 (rowAt_alloc_at _ _ _ _ rfl)
  have HB := Lib.hid (bthen (below_allocS (Below.refl _ _) _) hb1)
  have n1 := rowAt_lt r
  clear hb1
  have HI := Lib.hid (HI00.out.below HB.out)
  clear HI00 HI0
  have k6 : w1.cell? ⟨w.heap.size, 6, none⟩ = some (.slice m.fA m.fn m.fc) := by rw [cell_of_rowAt r]; rfl
  go_upto_region 2 with fail
  go_wp2_with fail
  clear k6
  go_loopw [3, 4] (fun q i w' => ∃ (k : Nat) (b : Bool), k ≤ m.fn ∧ q = .bool b ∧ i = .int .i64 k ∧ (b = true → ∀ j, j < k → sayB m.ver (m.fl j) = true) ∧ (b = false → sayAllB m.ver m.fn m.fl = false) ∧ Below w1.heap.size w1 w') (fun _ i _ => m.fn - (intOf i).toNat)
  case atStart => exact ⟨0, true, Nat.zero_le _, rfl, rfl, fun _ j hj => by omega, fun h => absurd h (by decide), Below.refl _ _⟩
  case round =>
    rename_i wr
    obtain ⟨k, b, hk, rfl, rfl, hy1, hy2, hb⟩ := hrel
    have HY1 := Lib.hid hy1
    have HY2 := Lib.hid hy2
    have rr := rowKeep hb r
    have HIr := HI.out.below hb
    have HBr := Lib.hid hb
    clear hy1 hy2 hb
    have n2 := rowAt_lt rr
    have n3 := Nat.ne_of_lt n2
    cases b
    · have HN := Lib.hid (HY2.out rfl)
      have HB3 := Lib.hid (bthen HB.out HBr.out)
      clear HY1 HY2 HI HIr r HB HBr
      have r := rr
      clear rr
      have k0 : wr.cell? ⟨w.heap.size, 0, none⟩ = some (.int .i64 m.kind) := by rw [cell_of_rowAt r]; rfl
      have k5 : wr.cell? ⟨w.heap.size, 5, none⟩ = some (.bool m.yes) := by rw [cell_of_rowAt r]; rfl
      have k6 : wr.cell? ⟨w.heap.size, 6, none⟩ = some (.slice m.fA m.fn m.fc) := by rw [cell_of_rowAt r]; rfl
      have k7 : wr.cell? ⟨w.heap.size, 7, none⟩ = some (.int .i64 m.pk) := by rw [cell_of_rowAt r]; rfl
      have k8 : wr.cell? ⟨w.heap.size, 8, none⟩ = some (.string (strT m.pn)) := by rw [cell_of_rowAt r]; rfl
      have k9 : wr.cell? ⟨w.heap.size, 9, none⟩ = some (.string (strT m.po)) := by rw [cell_of_rowAt r]; rfl
      have k10 : wr.cell? ⟨w.heap.size, 10, none⟩ = some (.int .i64 m.pa) := by rw [cell_of_rowAt r]; rfl
      have k11 : wr.cell? ⟨w.heap.size, 11, none⟩ = some (.int .i64 m.pb) := by rw [cell_of_rowAt r]; rfl
      go_wp2_with fail
      all_goals (
        go_ret
        exact ⟨by unfold rightM; rw [HN.out]; simp, HB3.out⟩)
    by_cases hlt : k < m.fn
    · have r := rr
      have k3 : wr.cell? ⟨w.heap.size, 3, none⟩ = some (.int .i64 m.ver) := by rw [cell_of_rowAt r]; rfl
      have k6 : wr.cell? ⟨w.heap.size, 6, none⟩ = some (.slice m.fA m.fn m.fc) := by rw [cell_of_rowAt r]; rfl
      obtain ⟨b, o, hA', hlb, hnm, hl⟩ := HIr.at_ hlt
      rw [hA'] at k6
      have HK := Lib.hid (HIr.ok k hlt)
      obtain ⟨G, hG⟩ : ∃ G, m.fl k = G := ⟨_, rfl⟩
      rw [hG] at hnm hl HK
      have hlx : ∀ x : Later wr.heap.size wr, loadAgg Tryz.prog x.wd 79 (.pointer (some ⟨b, o + k * 587, none⟩)) = .ok (.value (.agg G.cells)) x.wd := fun x => hl _ x.below
      have hbne := Nat.ne_of_lt hlb
      clear hl HI HIr
      obtain ⟨s, es⟩ : ∃ s, sayB m.ver G = s := ⟨_, rfl⟩
      go_upto_region 5 with fail
      refine region_quiet (by kernel_rfl) (by kernel_rfl) ?_
      repeat (go_big_quiet_step ((go_at_call 30; exact quiet_call (by simp) (rsays_at es (FldOk.below HK.out (Later.below _))))))
      refine wpQuiet_nil ?_
      intro w3 hb3
      have HB3 := Lib.hid (bthen HBr.out hb3)
      clear hb3
      go_wp2_with fail
      go_roundw
      case rel =>
        refine ⟨k + 1, s, by omega, rfl, by go_num, fun hs j hj => ?_, fun hs => ?_, HB3.out⟩
        · by_cases hjk : j = k
          · rw [hjk, hG, es, hs]
          · exact HY1.out rfl j (by omega)
        · exact sayAll_no hlt (by rw [hG, es, hs])
      case measure => simp [intOf]; omega
    · have hkk : k = m.fn := by omega
      subst hkk
      have HN : Hid (sayAllB m.ver m.fn m.fl = true) := Lib.hid (sayAll_yes (HY1.out rfl))
      have HB3 := Lib.hid (bthen HB.out HBr.out)
      clear HY1 HY2 HI HIr HB HBr r
      have r := rr
      clear rr
      have k0 : wr.cell? ⟨w.heap.size, 0, none⟩ = some (.int .i64 m.kind) := by rw [cell_of_rowAt r]; rfl
      have k5 : wr.cell? ⟨w.heap.size, 5, none⟩ = some (.bool m.yes) := by rw [cell_of_rowAt r]; rfl
      have k6 : wr.cell? ⟨w.heap.size, 6, none⟩ = some (.slice m.fA m.fn m.fc) := by rw [cell_of_rowAt r]; rfl
      have k7 : wr.cell? ⟨w.heap.size, 7, none⟩ = some (.int .i64 m.pk) := by rw [cell_of_rowAt r]; rfl
      have k8 : wr.cell? ⟨w.heap.size, 8, none⟩ = some (.string (strT m.pn)) := by rw [cell_of_rowAt r]; rfl
      have k9 : wr.cell? ⟨w.heap.size, 9, none⟩ = some (.string (strT m.po)) := by rw [cell_of_rowAt r]; rfl
      have k10 : wr.cell? ⟨w.heap.size, 10, none⟩ = some (.int .i64 m.pa) := by rw [cell_of_rowAt r]; rfl
      have k11 : wr.cell? ⟨w.heap.size, 11, none⟩ = some (.int .i64 m.pb) := by rw [cell_of_rowAt r]; rfl
      have HM : Hid (rightM m = tlB m) := Lib.hid (by unfold rightM; rw [HH1.out, HH2.out, HN.out]; rfl)
      clear HN HH1 HH2
      obtain ⟨y, hy⟩ : ∃ y, m.yes = y := ⟨_, rfl⟩
      rw [hy] at k5
      by_cases hk2 : m.kind = 2
      · rw [hk2] at k0
        cases y
        · by_cases hfn : 0 < m.fn
          · go_wp2_with fail
            go_ret
            refine ⟨?_, HB3.out⟩
            rw [HM.out]; simp [tlB, hk2, hy, hfn]
          · obtain ⟨T, hT⟩ : ∃ T, planB m.pk m.pn m.po m.pa m.pb = T := ⟨_, rfl⟩
            go_upto_region 11 with fail
            refine region_seq ?_
            repeat (go_big_quiet_step ((go_at_call 31; exact quiet_call (by simp) (rplanRight_at hT hpn hpo _))))
            refine wpQuiet_nil ?_
            intro w4 hb4
            have HB4 := Lib.hid (bthen HB3.out hb4)
            clear hb4
            go_wp2_with fail
            go_ret
            refine ⟨?_, HB4.out⟩
            rw [HM.out]; simp [tlB, hk2, hy, hfn, hT]
        · go_wp2_with fail
          go_ret
          refine ⟨?_, HB3.out⟩
          rw [HM.out]; simp [tlB, hk2, hy]
      · by_cases hk5 : m.kind = 5
        · rw [hk5] at k0
          cases y
          · go_wp2_with fail
            all_goals (
              go_ret
              refine ⟨?_, HB3.out⟩
              rw [HM.out]
              (try simp only [strT_toList] at *)
              simp [tlB, zeroP, *])
          · go_wp2_with fail
            go_ret
            refine ⟨?_, HB3.out⟩
            rw [HM.out]; simp [tlB, hk5, hy]
        · have hq2 : (m.kind == 2) = false := by simp [hk2]
          have hq5 : (m.kind == 5) = false := by simp [hk5]
          by_cases hk4 : m.kind = 4
          · rw [hk4] at k0
            cases y
            all_goals (
              go_wp2_with fail
              all_goals (
                go_ret
                refine ⟨?_, HB3.out⟩
                rw [HM.out]
                (try simp only [strT_toList] at *)
                simp [tlB, zeroP, *]))
          have hq4 : (m.kind == 4) = false := by simp [hk4]
          have hq6 : (m.kind != 4) = true := by simp [hk4]
          cases y
          all_goals (
            go_wp2_with fail
            all_goals (
              go_ret
              refine ⟨?_, HB3.out⟩
              rw [HM.out]
              (try simp only [strT_toList] at *)
              simp [tlB, zeroP, *]))
theorem rmright_any (m : Msg) (w : World) (hm : MsgOk w m) : Calls Tryz.prog 19 #[.agg m.cells] w fun e w' => e = .returned (.bool (rightM m)) ∧ Below w.heap.size w w' := by
  cases h : (hd1B m && hd2B m) with
  | false => rw [show rightM m = false by simp [rightM, h]]; exact rmright_no m h w hm
  | true =>
    simp only [Bool.and_eq_true] at h
    exact rmright_go m h.1 h.2 w hm
theorem rmright_is {m : Msg} {b : Bool} (e : rightM m = b) {w : World} (hm : MsgOk w m) : Calls Tryz.prog 19 #[.agg m.cells] w fun e w' => e = .returned (.bool b) ∧ Below w.heap.size w w' := by rw [← e]; exact rmright_any m w hm
end Go.Proofs.YtlocoieknabiaaaGreat
