/-
  Layer 14 (message): the walk of MessageKinds.
-/
import Derived.Test.YtmdojegiimhfcaaZMsgRR
import Derived.Test.YtmdojegiimhfcaaZGJ
import Derived.Test.YtmdojegiimhfcaaZFew14
namespace Go.Proofs.Ytmdojegiimhfcaa
set_option maxRecDepth 20000
open Go.RowKit
set_option linter.unusedSimpArgs false
set_option linter.unusedVariables false
attribute [local go_sem] rowCells rowAt_drewN get_ints getE_ints set_ints size_ints rowAt_alloc rowAt_drew setRow_alloc setRow_drewN setRow_drew setCell_alloc setCell_drewN splice_upd splice_put splice_all load_vec_cut load_vecs_cut load_rights_cut load_counter store_vec store_rights store_counter eql_vec neq_vec index_vec eql_rights neq_rights eql_counter index_vecs cut_ints sub_zero
attribute [local go_sem ↓] xload_vec xstore_vec xalloc_vec xeql_vec xneq_vec xindex_vec xbuild_vec0 xload_rights xstore_rights xalloc_rights xeql_rights xneq_rights xbuild_rights0 xload_vecs xindex_vecs xload_counter xstore_counter xalloc_counter xbuild_counter0 xeql_counter xbuild_counter3
attribute [local go_sem] rowAt_setRow rowAt_setCell load_vec_cut_later load_rights_later load_counter_later Later.cell Later.frozen build3_ints
attribute [local go_sem ↓] xload_field xstore_field xalloc_field xload_lock
attribute [local go_sem] load_field load_field_later store_field load_counter_cut load_lock_cut load_lock_later Fld.size Fld.get0 Fld.get1 Fld.get2 Fld.get586 Fld.getE0 Fld.getE1 Fld.getE2 Fld.getE586 Fld.cut_cnt Fld.cut_lock Fld.cut_all Fld.splice_all strT_size
theorem zero_of {m : Msg} (h : zeroP m = true) : m.pk = 0 ∧ m.pn = [] ∧ m.po = [] ∧ m.pa = 0 ∧ m.pb = 0 := by
  simp only [zeroP, Bool.and_eq_true, decide_eq_true_eq, List.isEmpty_iff] at h
  exact ⟨h.1.1.1.1, h.1.1.1.2, h.1.1.2, h.1.2, h.2⟩
theorem right_tl {m : Msg} (h : rightM m = true) : tlB m = true := by
  simp only [rightM, Bool.and_eq_true] at h; exact h.2
theorem right_yes {m : Msg} (h : rightM m = true) (hk : m.kind ≠ 4) : m.yes = false := by
  have := right_tl h
  unfold tlB at this
  cases hy : m.yes with
  | false => rfl
  | true => rw [hy, if_pos (by simp [hk])] at this; cases this
theorem right_none {m : Msg} (h : rightM m = true) (hk : m.kind = 2 ∨ m.kind = 5) : m.fn = 0 := by
  have := right_tl h
  unfold tlB at this
  split at this
  · cases this
  · split at this
    · cases this
    · rename_i h2
      rcases hk with hk | hk <;> simp [hk] at h2 <;> omega
theorem right_zero {m : Msg} (h : rightM m = true) (hk : m.kind ≠ 2) : zeroP m = true := by
  have := right_tl h
  unfold tlB at this
  split at this
  · cases this
  · split at this
    · cases this
    · exact this
def swapM (m : Msg) : Msg := { m with frm := m.to, to := m.frm, num := 0 }
theorem right_swap {m : Msg} (h : rightM m = true) : rightM (swapM m) = true := by
  simp only [rightM, hd1B, hd2B, Bool.and_eq_true] at h ⊢
  obtain ⟨⟨⟨⟨⟨⟨h1, h2⟩, h3⟩, h4⟩, ⟨⟨h5, h6⟩, h7⟩, h8⟩, h9⟩, h10⟩ := h
  refine ⟨⟨⟨⟨⟨⟨h1, h3⟩, h2⟩, ?_⟩, ⟨⟨rfl, show isB 0 = true by decide⟩, h7⟩, h8⟩, h9⟩, h10⟩
  simp only [Bool.not_eq_true', decide_eq_false_iff_not] at h4 ⊢
  exact fun e => h4 e.symm
theorem kinds_cases {m : Msg} (h : rightM m = true) : (m.kind = 2 ∧ m.yes = false ∧ m.fn = 0) ∨
    ((m.pk = 0 ∧ m.pn = [] ∧ m.po = [] ∧ m.pa = 0 ∧ m.pb = 0) ∧ (m.kind = 4 ∨ (m.kind = 5 ∧ m.yes = false ∧ m.fn = 0) ∨ ((m.kind != 2) = true ∧ (m.kind == 2) = false ∧ (m.kind != 4) = true ∧ (m.kind == 5) = false ∧ m.yes = false))) := by
  by_cases h2 : m.kind = 2
  · exact .inl ⟨h2, right_yes h (by omega), right_none h (.inl h2)⟩
  · refine .inr ⟨zero_of (right_zero h h2), ?_⟩
    by_cases h4 : m.kind = 4
    · exact .inl h4
    · by_cases h5 : m.kind = 5
      · exact .inr (.inl ⟨h5, right_yes h h4, right_none h (.inr h5)⟩)
      · exact .inr (.inr ⟨by simp [h2], by simp [h2], by simp [h4], by simp [h5], right_yes h h4⟩)
theorem few14_at {m : Msg} {w : World} {b : Bool} (h : MsgOk w m) (hb : few13B m.fn m.fl m.pn m.po = b) : Calls Try.prog 8 #[.agg m.cells] w fun e w' => e = .returned (.bool b) ∧ Below w.heap.size w w' := by rw [← hb]; exact few14_any m w h
theorem load_msg_at {m : Msg} {w : World} {g : Nat} (h : rowAt w g = some (m.cells, 26)) : loadAgg Try.prog w 26 (.pointer (some ⟨g, 0, none⟩)) = .ok (.value (.agg m.cells)) w := load_msg_row h rfl
set_option maxHeartbeats 4000000 in
theorem messageKinds_walk (m : Msg) (w : World) (h : MsgOk w m) :
    Calls Try.prog 5 #[.agg m.cells] w fun e w' => e = .returned (.bool true) ∧ Below w.heap.size w w' := by
  obtain ⟨b, hb⟩ : ∃ b, few13B m.fn m.fl m.pn m.po = b := ⟨_, rfl⟩
  obtain ⟨R, hR⟩ : ∃ R, rightM m = R := ⟨_, rfl⟩
  have HF := Lib.hid (few14_at (h.below ((Below.refl w.heap.size w).alloc (Nat.le_refl _) (.cells m.cells 26))) hb)
  have HM := Lib.hid h
  have HR := Lib.hid (fun (w' : World) (o : MsgOk w' m) => mright_is hR o)
  have HQ := Lib.hid (fun (w' : World) (o : MsgOk w' m) => rmright_is hR o)
  clear h hb
  unfold Msg.cells at *
  cases b
  · clear HR HQ HM
    go_enter Try.func5, Try.ntmps5
    go_wp2_with fail
    refine HF.out.mono ?_
    rintro e w1 ⟨rfl, hb⟩
    have HB1 := Lib.hid (bthen (below_allocS (Below.refl _ _) _) hb)
    clear hb
    go_wp2_with fail
    refine (awake14 _).mono ?_
    rintro e w2 ⟨rfl, hb⟩
    have HB2 := Lib.hid (bthen HB1.out hb)
    clear hb
    go_wp2
    go_ret
    exact ⟨rfl, HB2.out⟩
  · go_enter Try.func5, Try.ntmps5
    go_wp2_with fail
    refine HF.out.mono ?_
    rintro e w1 ⟨rfl, hb⟩
    have r1 : rowAt w1 w.heap.size = some (m.cells, 26) := rowKeep hb (rowAt_alloc_at _ _ _ _ rfl)
    have HB1 := Lib.hid (bthen (below_allocS (Below.refl _ _) _) hb)
    have HO1 := Lib.hid (HM.out.below HB1.out)
    clear hb HF HM
    have z0 : w1.cell? ⟨w.heap.size, 0, none⟩ = some (.int .i64 m.kind) := by rw [cell_of_rowAt r1]; rfl
    have z1 : w1.cell? ⟨w.heap.size, 1, none⟩ = some (.int .i64 m.frm) := by rw [cell_of_rowAt r1]; rfl
    have z2 : w1.cell? ⟨w.heap.size, 2, none⟩ = some (.int .i64 m.to) := by rw [cell_of_rowAt r1]; rfl
    have z3 : w1.cell? ⟨w.heap.size, 3, none⟩ = some (.int .i64 m.ver) := by rw [cell_of_rowAt r1]; rfl
    have z4 : w1.cell? ⟨w.heap.size, 4, none⟩ = some (.int .i64 m.num) := by rw [cell_of_rowAt r1]; rfl
    have z5 : w1.cell? ⟨w.heap.size, 5, none⟩ = some (.bool m.yes) := by rw [cell_of_rowAt r1]; rfl
    have z6 : w1.cell? ⟨w.heap.size, 6, none⟩ = some (.slice m.fA m.fn m.fc) := by rw [cell_of_rowAt r1]; rfl
    have z7 : w1.cell? ⟨w.heap.size, 7, none⟩ = some (.int .i64 m.pk) := by rw [cell_of_rowAt r1]; rfl
    have z8 : w1.cell? ⟨w.heap.size, 8, none⟩ = some (.string (strT m.pn)) := by rw [cell_of_rowAt r1]; rfl
    have z9 : w1.cell? ⟨w.heap.size, 9, none⟩ = some (.string (strT m.po)) := by rw [cell_of_rowAt r1]; rfl
    have z10 : w1.cell? ⟨w.heap.size, 10, none⟩ = some (.int .i64 m.pa) := by rw [cell_of_rowAt r1]; rfl
    have z11 : w1.cell? ⟨w.heap.size, 11, none⟩ = some (.int .i64 m.pb) := by rw [cell_of_rowAt r1]; rfl
    go_wp2_with fail
    refine (HR.out _ HO1.out).mono ?_
    rintro e w2 ⟨rfl, hb⟩
    have r2 := rowKeep hb r1
    have HB2 := Lib.hid (bthen HB1.out hb)
    have HO2 := Lib.hid (HO1.out.below hb)
    clear hb r1 HR HO1 HB1 z0 z1 z2 z3 z4 z5 z6 z7 z8 z9 z10 z11
    have z0 : w2.cell? ⟨w.heap.size, 0, none⟩ = some (.int .i64 m.kind) := by rw [cell_of_rowAt r2]; rfl
    have z1 : w2.cell? ⟨w.heap.size, 1, none⟩ = some (.int .i64 m.frm) := by rw [cell_of_rowAt r2]; rfl
    have z2 : w2.cell? ⟨w.heap.size, 2, none⟩ = some (.int .i64 m.to) := by rw [cell_of_rowAt r2]; rfl
    have z3 : w2.cell? ⟨w.heap.size, 3, none⟩ = some (.int .i64 m.ver) := by rw [cell_of_rowAt r2]; rfl
    have z4 : w2.cell? ⟨w.heap.size, 4, none⟩ = some (.int .i64 m.num) := by rw [cell_of_rowAt r2]; rfl
    have z5 : w2.cell? ⟨w.heap.size, 5, none⟩ = some (.bool m.yes) := by rw [cell_of_rowAt r2]; rfl
    have z6 : w2.cell? ⟨w.heap.size, 6, none⟩ = some (.slice m.fA m.fn m.fc) := by rw [cell_of_rowAt r2]; rfl
    have z7 : w2.cell? ⟨w.heap.size, 7, none⟩ = some (.int .i64 m.pk) := by rw [cell_of_rowAt r2]; rfl
    have z8 : w2.cell? ⟨w.heap.size, 8, none⟩ = some (.string (strT m.pn)) := by rw [cell_of_rowAt r2]; rfl
    have z9 : w2.cell? ⟨w.heap.size, 9, none⟩ = some (.string (strT m.po)) := by rw [cell_of_rowAt r2]; rfl
    have z10 : w2.cell? ⟨w.heap.size, 10, none⟩ = some (.int .i64 m.pa) := by rw [cell_of_rowAt r2]; rfl
    have z11 : w2.cell? ⟨w.heap.size, 11, none⟩ = some (.int .i64 m.pb) := by rw [cell_of_rowAt r2]; rfl
    have n1 := rowAt_lt r2
    cases R
    · go_upto_region 4 with fail
      refine region_seq ?_
      repeat (go_big_quiet_step ((first | (go_at_call 14; exact quiet_call (by simp) (HQ.out _ (HO2.out.below (Later.below _)))) | (go_at_call 9; exact quiet_call (by simp) (awake14 _)))))
      refine wpQuiet_nil ?_
      intro w3 hb3
      have HB3 := Lib.hid (bthen HB2.out hb3)
      clear hb3
      go_wp2
      go_ret
      exact ⟨rfl, HB3.out⟩
    · clear HQ
      have HS := Lib.hid (fun (w' : World) => mright_is (m := swapM m) (right_swap hR) (w := w'))
      have HO3 := Lib.hid (show MsgOk w2 (swapM m) from ⟨HO2.out.flds, HO2.out.le, HO2.out.nil, HO2.out.big⟩)
      have HK := kinds_cases hR
      clear hR HO2
      go_upto_region 5 with fail
      obtain ⟨kind, frm, to, ver, num, yes, fA, fn, fc, fl, pk, pn, po, pa, pb⟩ := m
      dsimp only [swapM, Msg.cells] at *
      rcases HK with ⟨rfl, rfl, rfl⟩ | ⟨⟨rfl, rfl, rfl, rfl, rfl⟩, rfl | ⟨rfl, rfl, rfl⟩ | ⟨k1, k2, k3, k4, rfl⟩⟩
      · have hst : (strT []).toList = [] := strT_toList []
        go_upto_region 8 with fail
        go_region
        go_upto_region 10 with fail
        have HBW : Hid (∀ o, Below w2.heap.size w2 (w2.alloc o).drew) := Lib.hid (fun o => ((Below.refl _ _).alloc (Nat.le_refl _) o).drew)
        refine region_seq ?_
        repeat (go_big_quiet_step ((first | (go_at_call 13; exact quiet_call (by simp) (HS.out _ ((HO3.out.below (HBW.out _)).below (Later.below _)))) | (go_at_call 9; exact quiet_call (by simp) (awake14 _)))))
        refine wpQuiet_nil ?_
        intro w3 hb3
        have HB3 := Lib.hid (bthen HB2.out (bthen (HBW.out _) hb3))
        clear hb3
        go_wp2
        go_ret
        exact ⟨rfl, HB3.out⟩
      · have hst : (strT []).toList = [] := strT_toList []
        go_upto_region 8 with fail
        go_region
        go_upto_region 10 with fail
        have HBW : Hid (∀ o, Below w2.heap.size w2 (w2.alloc o).drew) := Lib.hid (fun o => ((Below.refl _ _).alloc (Nat.le_refl _) o).drew)
        refine region_seq ?_
        repeat (go_big_quiet_step ((first | (go_at_call 13; exact quiet_call (by simp) (HS.out _ ((HO3.out.below (HBW.out _)).below (Later.below _)))) | (go_at_call 9; exact quiet_call (by simp) (awake14 _)))))
        refine wpQuiet_nil ?_
        intro w3 hb3
        have HB3 := Lib.hid (bthen HB2.out (bthen (HBW.out _) hb3))
        clear hb3
        go_wp2
        go_ret
        exact ⟨rfl, HB3.out⟩
      · have hst : (strT []).toList = [] := strT_toList []
        go_upto_region 8 with fail
        go_region
        go_upto_region 10 with fail
        have HBW : Hid (∀ o, Below w2.heap.size w2 (w2.alloc o).drew) := Lib.hid (fun o => ((Below.refl _ _).alloc (Nat.le_refl _) o).drew)
        refine region_seq ?_
        repeat (go_big_quiet_step ((first | (go_at_call 13; exact quiet_call (by simp) (HS.out _ ((HO3.out.below (HBW.out _)).below (Later.below _)))) | (go_at_call 9; exact quiet_call (by simp) (awake14 _)))))
        refine wpQuiet_nil ?_
        intro w3 hb3
        have HB3 := Lib.hid (bthen HB2.out (bthen (HBW.out _) hb3))
        clear hb3
        go_wp2
        go_ret
        exact ⟨rfl, HB3.out⟩
      · have hst : (strT []).toList = [] := strT_toList []
        go_upto_region 8 with fail
        go_region
        go_upto_region 10 with fail
        have HBW : Hid (∀ o, Below w2.heap.size w2 (w2.alloc o).drew) := Lib.hid (fun o => ((Below.refl _ _).alloc (Nat.le_refl _) o).drew)
        refine region_seq ?_
        repeat (go_big_quiet_step ((first | (go_at_call 13; exact quiet_call (by simp) (HS.out _ ((HO3.out.below (HBW.out _)).below (Later.below _)))) | (go_at_call 9; exact quiet_call (by simp) (awake14 _)))))
        refine wpQuiet_nil ?_
        intro w3 hb3
        have HB3 := Lib.hid (bthen HB2.out (bthen (HBW.out _) hb3))
        clear hb3
        go_wp2
        go_ret
        exact ⟨rfl, HB3.out⟩
end Go.Proofs.Ytmdojegiimhfcaa
