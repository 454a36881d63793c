/-
  Layer 14 (message): the walk of MessageBack.
-/
import Derived.Test.YtmdojegiimhfcaaZMSame
import Derived.Test.YtmdojegiimhfcaaZGJ
import Derived.Test.YtmdojegiimhfcaaZFew14
namespace Go.Proofs.Ytmdojegiimhfcaa
set_option maxRecDepth 20000
open Go.RowKit
set_option linter.unusedSimpArgs false
set_option linter.unusedVariables false
attribute [local go_sem] rowCells rowAt_drewN get_ints getE_ints set_ints size_ints rowAt_alloc rowAt_drew setRow_alloc setRow_drewN setRow_drew setCell_alloc setCell_drewN splice_upd splice_put splice_all load_vec_cut load_vecs_cut load_rights_cut load_counter store_vec store_rights store_counter eql_vec neq_vec index_vec eql_rights neq_rights eql_counter index_vecs cut_ints sub_zero
attribute [local go_sem ↓] xload_vec xstore_vec xalloc_vec xeql_vec xneq_vec xindex_vec xbuild_vec0 xload_rights xstore_rights xalloc_rights xeql_rights xneq_rights xbuild_rights0 xload_vecs xindex_vecs xload_counter xstore_counter xalloc_counter xbuild_counter0 xeql_counter xbuild_counter3
attribute [local go_sem] rowAt_setRow rowAt_setCell load_vec_cut_later load_rights_later load_counter_later Later.cell Later.frozen build3_ints
attribute [local go_sem ↓] xload_field xstore_field xalloc_field xload_lock
attribute [local go_sem] load_field load_field_later store_field load_counter_cut load_lock_cut load_lock_later Fld.size Fld.get0 Fld.get1 Fld.get2 Fld.get586 Fld.getE0 Fld.getE1 Fld.getE2 Fld.getE586 Fld.cut_cnt Fld.cut_lock Fld.cut_all Fld.splice_all strT_size

theorem few14_is {m : Msg} {w : World} {b : Bool} (h : MsgOk w m) (hb : few13B m.fn m.fl m.pn m.po = b) : Calls Try.prog 8 #[.agg m.cells] w fun e w' => e = .returned (.bool b) ∧ Below w.heap.size w w' := by rw [← hb]; exact few14_any m w h
theorem msgW_len {m : Msg} (h : rightM m = true) : (msgW m).length ≤ 30000 := by
  have h1 := catB_len (hdL m)
  have h2 := fldsW_len (v := m.ver) (L := m.fl) m.fn fun i hi => say_right (right_say h hi)
  have h3 := right_fn h
  have h4 : (tlW m).length ≤ 100 := by
    unfold tlW
    split
    · rename_i hk
      have h5 := plan_names (right_plan h hk)
      have h6 := catB_len [m.pk, m.pa, m.pb]
      have h7 := txtW_len m.pn
      have h8 := txtW_len m.po
      simp only [List.length_cons, List.length_nil] at h6
      simp only [List.length_append]
      omega
    · simp
  have h9 : (hdL m).length = 7 := rfl
  unfold msgW
  simp only [List.length_append]
  omega
theorem reM_ok {m : Msg} {w w' : World} {B : Nat} {A' : Option Addr} {c' : Nat} {H : Nat → Option Addr × Nat} (hm : MsgOk w m) (h : RF w' B m.fl m.fn A' c' H) : MsgOk w' (reM m A' c' H) :=
  ⟨h.is.1, h.is.2.1, h.is.2.2.1, ⟨hm.big.1, hm.big.2.1, h.is.2.2.2.1⟩⟩
set_option maxHeartbeats 4000000 in
theorem messageBack_walk (m : Msg) (w : World) (h : MsgOk w m) :
    Calls Try.prog 3 #[.agg m.cells] w fun e w' => e = .returned (.bool true) ∧ Below w.heap.size w w' := by
  obtain ⟨b, hb⟩ : ∃ b, few13B m.fn m.fl m.pn m.po = b := ⟨_, rfl⟩
  obtain ⟨R, hR⟩ : ∃ R, rightM m = R := ⟨_, rfl⟩
  have HF := Lib.hid (few14_is (h.below ((Below.refl w.heap.size w).alloc (Nat.le_refl _) (.cells m.cells 26))) hb)
  have HM := Lib.hid h
  have HR := Lib.hid hR
  have E1 := Lib.hid (fun (w' : World) (o : MsgOk w' m) (e : rightM m = true) => mencode_ok m w' e o)
  have E0 := Lib.hid (fun (w' : World) (o : MsgOk w' m) (e : rightM m = false) => mencode_no m w' e o)
  have ES := Lib.hid (fun (w' : World) (o : MsgOk w' m) A' c' H (q : MsgOk w' (reM m A' c' H)) => msame_yes m A' c' H w' o q)
  clear h hb hR
  unfold Msg.cells at HF E1 E0 ES ⊢
  cases b
  · clear HR HM E1 E0 ES
    go_enter Try.func3, Try.ntmps3
    go_wp2_with fail
    refine HF.out.mono ?_
    rintro e w1 ⟨rfl, hb⟩
    have HB1 := Lib.hid (bthen (below_allocS (Below.refl _ _) _) hb)
    clear hb
    go_wp2_with fail
    refine (awake14 _).mono ?_
    rintro e w2 ⟨rfl, hb⟩
    have HB2 := Lib.hid (bthen HB1.out hb)
    clear hb
    go_wp2
    go_ret
    exact ⟨rfl, HB2.out⟩
  · go_enter Try.func3, Try.ntmps3
    go_wp2_with fail
    refine HF.out.mono ?_
    rintro e w1 ⟨rfl, hb⟩
    have r1 : rowAt w1 w.heap.size = some (m.cells, 26) := rowKeep hb (rowAt_alloc_at _ _ _ _ rfl)
    have HB1 := Lib.hid (bthen (below_allocS (Below.refl _ _) _) hb)
    have HO1 := Lib.hid (HM.out.below HB1.out)
    clear hb HF HM
    have z0 : w1.cell? ⟨w.heap.size, 0, none⟩ = some (.int .i64 m.kind) := by rw [cell_of_rowAt r1]; rfl
    have z1 : w1.cell? ⟨w.heap.size, 1, none⟩ = some (.int .i64 m.frm) := by rw [cell_of_rowAt r1]; rfl
    have z2 : w1.cell? ⟨w.heap.size, 2, none⟩ = some (.int .i64 m.to) := by rw [cell_of_rowAt r1]; rfl
    have z3 : w1.cell? ⟨w.heap.size, 3, none⟩ = some (.int .i64 m.ver) := by rw [cell_of_rowAt r1]; rfl
    have z4 : w1.cell? ⟨w.heap.size, 4, none⟩ = some (.int .i64 m.num) := by rw [cell_of_rowAt r1]; rfl
    have z5 : w1.cell? ⟨w.heap.size, 5, none⟩ = some (.bool m.yes) := by rw [cell_of_rowAt r1]; rfl
    have z6 : w1.cell? ⟨w.heap.size, 6, none⟩ = some (.slice m.fA m.fn m.fc) := by rw [cell_of_rowAt r1]; rfl
    have z7 : w1.cell? ⟨w.heap.size, 7, none⟩ = some (.int .i64 m.pk) := by rw [cell_of_rowAt r1]; rfl
    have z8 : w1.cell? ⟨w.heap.size, 8, none⟩ = some (.string (strT m.pn)) := by rw [cell_of_rowAt r1]; rfl
    have z9 : w1.cell? ⟨w.heap.size, 9, none⟩ = some (.string (strT m.po)) := by rw [cell_of_rowAt r1]; rfl
    have z10 : w1.cell? ⟨w.heap.size, 10, none⟩ = some (.int .i64 m.pa) := by rw [cell_of_rowAt r1]; rfl
    have z11 : w1.cell? ⟨w.heap.size, 11, none⟩ = some (.int .i64 m.pb) := by rw [cell_of_rowAt r1]; rfl
    go_wp2_with fail
    cases R
    · refine (E0.out _ HO1.out HR.out).mono ?_
      rintro e w2 ⟨rfl, hb⟩
      have HB2 := Lib.hid (bthen HB1.out hb)
      clear hb r1 z0 z1 z2 z3 z4 z5 z6 z7 z8 z9 z10 z11
      go_wp2_with fail
      refine (awake14 _).mono ?_
      rintro e w3 ⟨rfl, hb⟩
      have HB3 := Lib.hid (bthen HB2.out hb)
      clear hb
      go_wp2
      go_ret
      exact ⟨rfl, HB3.out⟩
    · refine (E1.out _ HO1.out HR.out).mono ?_
      rintro e w2 ⟨A, c, rfl, hI, hN, -, -, hb⟩
      have r2 := rowKeep hb r1
      have HB2 := Lib.hid (bthen HB1.out hb)
      have HO2 := Lib.hid (HO1.out.below hb)
      have HI := Lib.hid hI
      have HN := Lib.hid hN
      have hl := msgW_len HR.out
      clear hb r1 hI hN HB1 HO1 z0 z1 z2 z3 z4 z5 z6 z7 z8 z9 z10 z11
      generalize hX : msgW m = X at *
      have HX := Lib.hid hX
      clear hX
      go_wp2_with fail
      refine (mdecode_ok m A c X [] false w2 HR.out HI.out HN.out (Nat.le_trans hl (by decide)) (by show X = msgW m ++ []; rw [HX.out, List.append_nil])).mono ?_
      rintro x w3 ⟨hb, -, -, hx⟩
      obtain ⟨A', c', H, rfl, hrf⟩ := hx rfl rfl
      have r3 := rowKeep hb r2
      have HB3 := Lib.hid (bthen HB2.out hb)
      have HO3 := Lib.hid (HO2.out.below hb)
      have HQ3 := Lib.hid (reM_ok HO2.out hrf)
      clear hb hx hrf r2 HI HN HX HB2 HO2
      unfold reM Msg.cells at *
      dsimp only at *
      have z0 : w3.cell? ⟨w.heap.size, 0, none⟩ = some (.int .i64 m.kind) := by rw [cell_of_rowAt r3]; rfl
      have z1 : w3.cell? ⟨w.heap.size, 1, none⟩ = some (.int .i64 m.frm) := by rw [cell_of_rowAt r3]; rfl
      have z2 : w3.cell? ⟨w.heap.size, 2, none⟩ = some (.int .i64 m.to) := by rw [cell_of_rowAt r3]; rfl
      have z3 : w3.cell? ⟨w.heap.size, 3, none⟩ = some (.int .i64 m.ver) := by rw [cell_of_rowAt r3]; rfl
      have z4 : w3.cell? ⟨w.heap.size, 4, none⟩ = some (.int .i64 m.num) := by rw [cell_of_rowAt r3]; rfl
      have z5 : w3.cell? ⟨w.heap.size, 5, none⟩ = some (.bool m.yes) := by rw [cell_of_rowAt r3]; rfl
      have z6 : w3.cell? ⟨w.heap.size, 6, none⟩ = some (.slice m.fA m.fn m.fc) := by rw [cell_of_rowAt r3]; rfl
      have z7 : w3.cell? ⟨w.heap.size, 7, none⟩ = some (.int .i64 m.pk) := by rw [cell_of_rowAt r3]; rfl
      have z8 : w3.cell? ⟨w.heap.size, 8, none⟩ = some (.string (strT m.pn)) := by rw [cell_of_rowAt r3]; rfl
      have z9 : w3.cell? ⟨w.heap.size, 9, none⟩ = some (.string (strT m.po)) := by rw [cell_of_rowAt r3]; rfl
      have z10 : w3.cell? ⟨w.heap.size, 10, none⟩ = some (.int .i64 m.pa) := by rw [cell_of_rowAt r3]; rfl
      have z11 : w3.cell? ⟨w.heap.size, 11, none⟩ = some (.int .i64 m.pb) := by rw [cell_of_rowAt r3]; rfl
      have n1 := rowAt_lt r3
      go_wp2_with fail
      have hal := fun o => ((Below.refl w3.heap.size w3).alloc (Nat.le_refl _) o)
      refine (ES.out _ (HO3.out.below (hal _)) A' c' H (HQ3.out.below (hal _))).mono ?_
      rintro e w4 ⟨rfl, hb⟩
      have HB4 := Lib.hid (bthen (below_allocS HB3.out _) hb)
      clear hb r3 z0 z1 z2 z3 z4 z5 z6 z7 z8 z9 z10 z11
      go_wp2_with fail
      refine (awake14 _).mono ?_
      rintro e w5 ⟨rfl, hb⟩
      have HB5 := Lib.hid (bthen HB4.out hb)
      clear hb
      go_wp2
      go_ret
      exact ⟨rfl, HB5.out⟩
end Go.Proofs.Ytmdojegiimhfcaa
