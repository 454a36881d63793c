/-
  Layer 14 (message): whether a message may be.
-/
import Derived.Test.YtlocoieknabiaaaGreatZMsg1
import Derived.Test.YtlocoieknabiaaaGreatZField6
import Derived.Test.YtlocoieknabiaaaGreatZPlan2
namespace Go.Proofs.YtlocoieknabiaaaGreat
set_option maxRecDepth 20000
open Go.RowKit
set_option linter.unusedSimpArgs false
set_option linter.unusedVariables false
attribute [local go_sem] rowCells rowAt_drewN get_ints getE_ints set_ints size_ints rowAt_alloc rowAt_drew setRow_alloc setRow_drewN setRow_drew setCell_alloc setCell_drewN splice_upd splice_put splice_all load_vec_cut load_vecs_cut load_rights_cut load_counter store_vec store_rights store_counter eql_vec neq_vec index_vec eql_rights neq_rights eql_counter index_vecs cut_ints sub_zero
attribute [local go_sem ↓] xload_vec xstore_vec xalloc_vec xeql_vec xneq_vec xindex_vec xbuild_vec0 xload_rights xstore_rights xalloc_rights xeql_rights xneq_rights xbuild_rights0 xload_vecs xindex_vecs xload_counter xstore_counter xalloc_counter xbuild_counter0 xeql_counter xbuild_counter3
attribute [local go_sem] rowAt_setRow rowAt_setCell load_vec_cut_later load_rights_later load_counter_later Later.cell Later.frozen build3_ints
attribute [local go_sem ↓] xload_field xstore_field xalloc_field xload_lock
attribute [local go_sem] load_field load_field_later store_field load_counter_cut load_lock_cut load_lock_later Fld.size Fld.get0 Fld.get1 Fld.get2 Fld.get586 Fld.getE0 Fld.getE1 Fld.getE2 Fld.getE586 Fld.cut_cnt Fld.cut_lock Fld.cut_all Fld.splice_all strT_size

def tweenB (n a b : Int) : Bool := decide (a ≤ n) && decide (n ≤ b)
def hd1B (m : Msg) : Bool := tweenB m.kind 1 5 && tweenB m.frm 0 15 && tweenB m.to 0 15 && !decide (m.frm = m.to)
def hd2B (m : Msg) : Bool := decide (0 ≤ m.num) && isB m.num && fldsB m.fn m.fl && tweenB m.ver 1 3
def sayAllB (v : Int) (n : Nat) (L : Nat → Fld) : Bool := (List.range n).all fun i => sayB v (L i)
def zeroP (m : Msg) : Bool := decide (m.pk = 0) && m.pn.isEmpty && m.po.isEmpty && decide (m.pa = 0) && decide (m.pb = 0)
def tlB (m : Msg) : Bool := if m.yes && !decide (m.kind = 4) then false else if (decide (m.kind = 2) || decide (m.kind = 5) || decide (m.kind = 4) && !m.yes) && decide (0 < m.fn) then false else if m.kind = 2 then planB m.pk m.pn m.po m.pa m.pb else zeroP m
def rightM (m : Msg) : Bool := hd1B m && hd2B m && sayAllB m.ver m.fn m.fl && tlB m
theorem sayAll_no {v : Int} {n : Nat} {L : Nat → Fld} {i : Nat} (hi : i < n) (h : sayB v (L i) = false) : sayAllB v n L = false := by
  unfold sayAllB
  rw [List.all_eq_false]
  exact ⟨i, List.mem_range.2 hi, by rw [h]; decide⟩
theorem sayAll_yes {v : Int} {n : Nat} {L : Nat → Fld} (h : ∀ i, i < n → sayB v (L i) = true) : sayAllB v n L = true := by
  unfold sayAllB
  rw [List.all_eq_true]
  exact fun i hi => h i (List.mem_range.1 hi)
theorem tween_is {n a b : Int} {r : Bool} (h : tweenB n a b = r) (w : World) : Calls Tryz.prog 49 #[.int .i64 n, .int .i64 a, .int .i64 b] w fun e w' => e = .returned (.bool r) ∧ Below w.heap.size w w' := within_is h w
theorem planFields_at {A : Option Addr} {c n : Nat} {L : Nat → Fld} {b : Bool} (e : fldsB n L = b) {w : World} (h : FldsIs w A n L) (hn : n ≤ 9223372036854775807) : Calls Tryz.prog 51 #[.slice A n c] w fun e w' => e = .returned (.bool b) ∧ Below w.heap.size w w' := by rw [← e]; exact planFields_any A c n L w h hn
theorem saysW_at {v : Int} {F : Fld} {b : Bool} (e : sayB v F = b) {w : World} (h : FldOk w F) : Calls Tryz.prog 52 #[.int .i64 v, .agg F.cells] w fun e w' => e = .returned (.bool b) ∧ Below w.heap.size w w' := by rw [← e]; exact saysW_any v F w h
set_option maxHeartbeats 4000000 in
theorem mright_no1 (m : Msg) (h : hd1B m = false) (w : World) (hm : MsgOk w m) : Calls Tryz.prog 32 #[.agg m.cells] w fun e w' => e = .returned (.bool false) ∧ Below w.heap.size w w' := by
  obtain ⟨b1, e1⟩ : ∃ b, tweenB m.kind 1 5 = b := ⟨_, rfl⟩
  obtain ⟨b2, e2⟩ : ∃ b, tweenB m.frm 0 15 = b := ⟨_, rfl⟩
  obtain ⟨b3, e3⟩ : ∃ b, tweenB m.to 0 15 = b := ⟨_, rfl⟩
  clear hm
  cases b1
  · clear h
    unfold Msg.cells
    go_enter Tryz.func32, Tryz.ntmps32
    go_upto_region 1 with fail
    refine region_seq ?_
    repeat (go_big_quiet_step ((go_at_call 49; exact quiet_call (by simp) (tween_is (by assumption) _))))
    refine wpQuiet_nil ?_
    intro w1 hb1
    have HB := Lib.hid (bthen (below_allocS (Below.refl _ _) _) hb1)
    clear hb1
    go_wp2_with fail
    go_ret
    exact ⟨rfl, HB.out⟩
  cases b2
  · clear h
    unfold Msg.cells
    go_enter Tryz.func32, Tryz.ntmps32
    go_upto_region 1 with fail
    refine region_seq ?_
    repeat (go_big_quiet_step ((go_at_call 49; exact quiet_call (by simp) (tween_is (by assumption) _))))
    refine wpQuiet_nil ?_
    intro w1 hb1
    have HB := Lib.hid (bthen (below_allocS (Below.refl _ _) _) hb1)
    clear hb1
    go_wp2_with fail
    go_ret
    exact ⟨rfl, HB.out⟩
  cases b3
  · clear h
    unfold Msg.cells
    go_enter Tryz.func32, Tryz.ntmps32
    go_upto_region 1 with fail
    refine region_seq ?_
    repeat (go_big_quiet_step ((go_at_call 49; exact quiet_call (by simp) (tween_is (by assumption) _))))
    refine wpQuiet_nil ?_
    intro w1 hb1
    have HB := Lib.hid (bthen (below_allocS (Below.refl _ _) _) hb1)
    clear hb1
    go_wp2_with fail
    go_ret
    exact ⟨rfl, HB.out⟩
  by_cases h4 : m.frm = m.to
  · clear h
    unfold Msg.cells
    go_enter Tryz.func32, Tryz.ntmps32
    go_upto_region 1 with fail
    refine region_seq ?_
    repeat (go_big_quiet_step ((go_at_call 49; exact quiet_call (by simp) (tween_is (by assumption) _))))
    refine wpQuiet_nil ?_
    intro w1 hb1
    have HB := Lib.hid (bthen (below_allocS (Below.refl _ _) _) hb1)
    clear hb1
    go_wp2_with fail
    go_ret
    exact ⟨rfl, HB.out⟩
  · exfalso; simp [hd1B, e1, e2, e3, h4] at h
set_option maxHeartbeats 4000000 in
theorem mright_no2 (m : Msg) (h1 : hd1B m = true) (h : hd2B m = false) (w : World) (hm : MsgOk w m) : Calls Tryz.prog 32 #[.agg m.cells] w fun e w' => e = .returned (.bool false) ∧ Below w.heap.size w w' := by
  simp only [hd1B, Bool.and_eq_true, Bool.not_eq_true', decide_eq_false_iff_not] at h1
  obtain ⟨⟨⟨e1, e2⟩, e3⟩, h4⟩ := h1
  obtain ⟨c2, f2⟩ : ∃ b, isB m.num = b := ⟨_, rfl⟩
  obtain ⟨c3, f3⟩ : ∃ b, fldsB m.fn m.fl = b := ⟨_, rfl⟩
  obtain ⟨c4, f4⟩ : ∃ b, tweenB m.ver 1 3 = b := ⟨_, rfl⟩
  by_cases f1 : m.num < 0
  · clear h
    unfold Msg.cells
    go_enter Tryz.func32, Tryz.ntmps32
    go_upto_region 1 with fail
    refine region_seq ?_
    repeat (go_big_quiet_step ((go_at_call 49; exact quiet_call (by simp) (tween_is (by assumption) _))))
    refine wpQuiet_nil ?_
    intro w1 hb1
    have r : rowAt w1 w.heap.size = some (#[.int .i64 m.kind, .int .i64 m.frm, .int .i64 m.to, .int .i64 m.ver, .int .i64 m.num, .bool m.yes, .slice m.fA m.fn m.fc, .int .i64 m.pk, .string (strT m.pn), .string (strT m.po), .int .i64 m.pa, .int .i64 m.pb], 34) := rowKeep hb1 (rowAt_alloc_at _ _ _ _ rfl)
    have HB := Lib.hid (bthen (below_allocS (Below.refl _ _) _) hb1)
    have HI := Lib.hid (hm.flds.below HB.out)
    have n1 := rowAt_lt r
    have hbig := Nat.le_trans hm.le hm.big.2.2
    have hpn := hm.big.1
    have hpo := hm.big.2.1
    have k3 : w1.cell? ⟨w.heap.size, 3, none⟩ = some (.int .i64 m.ver) := by rw [cell_of_rowAt r]; rfl
    have k4 : w1.cell? ⟨w.heap.size, 4, none⟩ = some (.int .i64 m.num) := by rw [cell_of_rowAt r]; rfl
    have k6 : w1.cell? ⟨w.heap.size, 6, none⟩ = some (.slice m.fA m.fn m.fc) := by rw [cell_of_rowAt r]; rfl
    clear hb1 hm
    clear r
    go_upto_region 3 with fail
    refine region_seq ?_
    repeat (go_big_quiet_step ((first | (go_at_call 49; exact quiet_call (by simp) (tween_is (by assumption) _)) | (go_at_call 50; exact quiet_call (by simp) (is_at (by assumption) _)) | (go_at_call 51; exact quiet_call (by simp) (planFields_at (by assumption) (FldsIs.below HI.out (Later.below _)) hbig)))))
    refine wpQuiet_nil ?_
    intro w2 hb2
    have HB2 := Lib.hid (bthen HB.out hb2)
    clear hb2 HB
    go_wp2_with fail
    go_ret
    exact ⟨rfl, HB2.out⟩
  have f1 : 0 ≤ m.num := by omega
  cases c2
  · clear h
    unfold Msg.cells
    go_enter Tryz.func32, Tryz.ntmps32
    go_upto_region 1 with fail
    refine region_seq ?_
    repeat (go_big_quiet_step ((go_at_call 49; exact quiet_call (by simp) (tween_is (by assumption) _))))
    refine wpQuiet_nil ?_
    intro w1 hb1
    have r : rowAt w1 w.heap.size = some (#[.int .i64 m.kind, .int .i64 m.frm, .int .i64 m.to, .int .i64 m.ver, .int .i64 m.num, .bool m.yes, .slice m.fA m.fn m.fc, .int .i64 m.pk, .string (strT m.pn), .string (strT m.po), .int .i64 m.pa, .int .i64 m.pb], 34) := rowKeep hb1 (rowAt_alloc_at _ _ _ _ rfl)
    have HB := Lib.hid (bthen (below_allocS (Below.refl _ _) _) hb1)
    have HI := Lib.hid (hm.flds.below HB.out)
    have n1 := rowAt_lt r
    have hbig := Nat.le_trans hm.le hm.big.2.2
    have hpn := hm.big.1
    have hpo := hm.big.2.1
    have k3 : w1.cell? ⟨w.heap.size, 3, none⟩ = some (.int .i64 m.ver) := by rw [cell_of_rowAt r]; rfl
    have k4 : w1.cell? ⟨w.heap.size, 4, none⟩ = some (.int .i64 m.num) := by rw [cell_of_rowAt r]; rfl
    have k6 : w1.cell? ⟨w.heap.size, 6, none⟩ = some (.slice m.fA m.fn m.fc) := by rw [cell_of_rowAt r]; rfl
    clear hb1 hm
    clear r
    go_upto_region 3 with fail
    refine region_seq ?_
    repeat (go_big_quiet_step ((first | (go_at_call 49; exact quiet_call (by simp) (tween_is (by assumption) _)) | (go_at_call 50; exact quiet_call (by simp) (is_at (by assumption) _)) | (go_at_call 51; exact quiet_call (by simp) (planFields_at (by assumption) (FldsIs.below HI.out (Later.below _)) hbig)))))
    refine wpQuiet_nil ?_
    intro w2 hb2
    have HB2 := Lib.hid (bthen HB.out hb2)
    clear hb2 HB
    go_wp2_with fail
    go_ret
    exact ⟨rfl, HB2.out⟩
  cases c3
  · clear h
    unfold Msg.cells
    go_enter Tryz.func32, Tryz.ntmps32
    go_upto_region 1 with fail
    refine region_seq ?_
    repeat (go_big_quiet_step ((go_at_call 49; exact quiet_call (by simp) (tween_is (by assumption) _))))
    refine wpQuiet_nil ?_
    intro w1 hb1
    have r : rowAt w1 w.heap.size = some (#[.int .i64 m.kind, .int .i64 m.frm, .int .i64 m.to, .int .i64 m.ver, .int .i64 m.num, .bool m.yes, .slice m.fA m.fn m.fc, .int .i64 m.pk, .string (strT m.pn), .string (strT m.po), .int .i64 m.pa, .int .i64 m.pb], 34) := rowKeep hb1 (rowAt_alloc_at _ _ _ _ rfl)
    have HB := Lib.hid (bthen (below_allocS (Below.refl _ _) _) hb1)
    have HI := Lib.hid (hm.flds.below HB.out)
    have n1 := rowAt_lt r
    have hbig := Nat.le_trans hm.le hm.big.2.2
    have hpn := hm.big.1
    have hpo := hm.big.2.1
    have k3 : w1.cell? ⟨w.heap.size, 3, none⟩ = some (.int .i64 m.ver) := by rw [cell_of_rowAt r]; rfl
    have k4 : w1.cell? ⟨w.heap.size, 4, none⟩ = some (.int .i64 m.num) := by rw [cell_of_rowAt r]; rfl
    have k6 : w1.cell? ⟨w.heap.size, 6, none⟩ = some (.slice m.fA m.fn m.fc) := by rw [cell_of_rowAt r]; rfl
    clear hb1 hm
    clear r
    go_upto_region 3 with fail
    refine region_seq ?_
    repeat (go_big_quiet_step ((first | (go_at_call 49; exact quiet_call (by simp) (tween_is (by assumption) _)) | (go_at_call 50; exact quiet_call (by simp) (is_at (by assumption) _)) | (go_at_call 51; exact quiet_call (by simp) (planFields_at (by assumption) (FldsIs.below HI.out (Later.below _)) hbig)))))
    refine wpQuiet_nil ?_
    intro w2 hb2
    have HB2 := Lib.hid (bthen HB.out hb2)
    clear hb2 HB
    go_wp2_with fail
    go_ret
    exact ⟨rfl, HB2.out⟩
  cases c4
  · clear h
    unfold Msg.cells
    go_enter Tryz.func32, Tryz.ntmps32
    go_upto_region 1 with fail
    refine region_seq ?_
    repeat (go_big_quiet_step ((go_at_call 49; exact quiet_call (by simp) (tween_is (by assumption) _))))
    refine wpQuiet_nil ?_
    intro w1 hb1
    have r : rowAt w1 w.heap.size = some (#[.int .i64 m.kind, .int .i64 m.frm, .int .i64 m.to, .int .i64 m.ver, .int .i64 m.num, .bool m.yes, .slice m.fA m.fn m.fc, .int .i64 m.pk, .string (strT m.pn), .string (strT m.po), .int .i64 m.pa, .int .i64 m.pb], 34) := rowKeep hb1 (rowAt_alloc_at _ _ _ _ rfl)
    have HB := Lib.hid (bthen (below_allocS (Below.refl _ _) _) hb1)
    have HI := Lib.hid (hm.flds.below HB.out)
    have n1 := rowAt_lt r
    have hbig := Nat.le_trans hm.le hm.big.2.2
    have hpn := hm.big.1
    have hpo := hm.big.2.1
    have k3 : w1.cell? ⟨w.heap.size, 3, none⟩ = some (.int .i64 m.ver) := by rw [cell_of_rowAt r]; rfl
    have k4 : w1.cell? ⟨w.heap.size, 4, none⟩ = some (.int .i64 m.num) := by rw [cell_of_rowAt r]; rfl
    have k6 : w1.cell? ⟨w.heap.size, 6, none⟩ = some (.slice m.fA m.fn m.fc) := by rw [cell_of_rowAt r]; rfl
    clear hb1 hm
    clear r
    go_upto_region 3 with fail
    refine region_seq ?_
    repeat (go_big_quiet_step ((first | (go_at_call 49; exact quiet_call (by simp) (tween_is (by assumption) _)) | (go_at_call 50; exact quiet_call (by simp) (is_at (by assumption) _)) | (go_at_call 51; exact quiet_call (by simp) (planFields_at (by assumption) (FldsIs.below HI.out (Later.below _)) hbig)))))
    refine wpQuiet_nil ?_
    intro w2 hb2
    have HB2 := Lib.hid (bthen HB.out hb2)
    clear hb2 HB
    go_wp2_with fail
    go_ret
    exact ⟨rfl, HB2.out⟩
  exfalso; simp [hd2B, f1, f2, f3, f4] at h
set_option maxHeartbeats 4000000 in
theorem mright_go (m : Msg) (h1 : hd1B m = true) (h2 : hd2B m = true) (w : World) (hm : MsgOk w m) : Calls Tryz.prog 32 #[.agg m.cells] w fun e w' => e = .returned (.bool (rightM m)) ∧ Below w.heap.size w w' := by
  have HH1 := Lib.hid h1
  have HH2 := Lib.hid h2
  simp only [hd1B, Bool.and_eq_true, Bool.not_eq_true', decide_eq_false_iff_not] at h1
  obtain ⟨⟨⟨e1, e2⟩, e3⟩, h4⟩ := h1
  simp only [hd2B, Bool.and_eq_true, decide_eq_true_eq] at h2
  obtain ⟨⟨⟨f1, f2⟩, f3⟩, f4⟩ := h2
  have f5 : ¬ m.num < 0 := by omega
  unfold Msg.cells
  go_enter Tryz.func32, Tryz.ntmps32
  go_upto_region 1 with fail
  refine region_seq ?_
  repeat (go_big_quiet_step ((go_at_call 49; exact quiet_call (by simp) (tween_is (by assumption) _))))
  refine wpQuiet_nil ?_
  intro w1 hb1
  have r : rowAt w1 w.heap.size = some (#[.int .i64 m.kind, .int .i64 m.frm, .int .i64 m.to, .int .i64 m.ver, .int .i64 m.num, .bool m.yes, .slice m.fA m.fn m.fc, .int .i64 m.pk, .string (strT m.pn), .string (strT m.po), .int .i64 m.pa, .int .i64 m.pb], 34) := rowKeep hb1 (rowAt_alloc_at _ _ _ _ rfl)
  have HB := Lib.hid (bthen (below_allocS (Below.refl _ _) _) hb1)
  have HI := Lib.hid (hm.flds.below HB.out)
  have n1 := rowAt_lt r
  have hbig := Nat.le_trans hm.le hm.big.2.2
  have hpn := hm.big.1
  have hpo := hm.big.2.1
  have k3 : w1.cell? ⟨w.heap.size, 3, none⟩ = some (.int .i64 m.ver) := by rw [cell_of_rowAt r]; rfl
  have k4 : w1.cell? ⟨w.heap.size, 4, none⟩ = some (.int .i64 m.num) := by rw [cell_of_rowAt r]; rfl
  have k6 : w1.cell? ⟨w.heap.size, 6, none⟩ = some (.slice m.fA m.fn m.fc) := by rw [cell_of_rowAt r]; rfl
  clear hb1 hm
  go_upto_region 3 with fail
  refine region_seq ?_
  repeat (go_big_quiet_step ((first | (go_at_call 49; exact quiet_call (by simp) (tween_is (by assumption) _)) | (go_at_call 50; exact quiet_call (by simp) (is_at (by assumption) _)) | (go_at_call 51; exact quiet_call (by simp) (planFields_at (by assumption) (FldsIs.below HI.out (Later.below _)) hbig)))))
  refine wpQuiet_nil ?_
  intro w2 hb2
  have r := rowKeep hb2 r
  have HB2 := Lib.hid (bthen HB.out hb2)
  have HI := Lib.hid (HI.out.below hb2)
  clear hb2 HB k3 k4 k6
  have k6 : w2.cell? ⟨w.heap.size, 6, none⟩ = some (.slice m.fA m.fn m.fc) := by rw [cell_of_rowAt r]; rfl
  have n1 := rowAt_lt r
  go_upto_region 5 with fail
  go_wp2_with fail
  clear k6
  go_loopw [53] (fun i w' => ∃ k : Nat, k ≤ m.fn ∧ i = .int .i64 k ∧ (∀ j, j < k → sayB m.ver (m.fl j) = true) ∧ Below w2.heap.size w2 w') (fun i _ => m.fn - (intOf i).toNat)
  case atStart => exact ⟨0, Nat.zero_le _, rfl, fun j hj => by omega, Below.refl _ _⟩
  case round =>
    rename_i wr
    obtain ⟨k, hk, rfl, hall, hb⟩ := hrel
    have HA := Lib.hid hall
    have rr := rowKeep hb r
    have HIr := HI.out.below hb
    have HB := Lib.hid hb
    clear hall hb
    have n2 := rowAt_lt rr
    have n3 := Nat.ne_of_lt n2
    by_cases hlt : k < m.fn
    · have r := rr
      have k3 : wr.cell? ⟨w.heap.size, 3, none⟩ = some (.int .i64 m.ver) := by rw [cell_of_rowAt r]; rfl
      obtain ⟨b, o, hA', hlb, hnm, hl⟩ := HIr.at_ hlt
      rw [hA'] at *
      have HK := Lib.hid (HIr.ok k hlt)
      obtain ⟨G, hG⟩ : ∃ G, m.fl k = G := ⟨_, rfl⟩
      rw [hG] at hnm hl HK
      have hl1 := hl wr (Below.refl _ _)
      have HKx := Lib.hid (HK.out.below ((Below.refl wr.heap.size wr).alloc (Nat.le_refl _) (.cells G.cells 79)))
      have hbne := Nat.ne_of_lt hlb
      clear hl HI HK HIr
      obtain ⟨s, es⟩ : ∃ s, sayB m.ver G = s := ⟨_, rfl⟩
      cases s
      · have HN : Hid (sayAllB m.ver m.fn m.fl = false) := Lib.hid (sayAll_no hlt (by rw [hG]; exact es))
        clear HA hG
        go_upto_region 8 with fail
        refine region_seq ?_
        repeat (go_big_quiet_step ((go_at_call 52; exact quiet_call (by simp) (saysW_at (by assumption) (FldOk.below HKx.out (Later.below _))))))
        refine wpQuiet_nil ?_
        intro w3 hb3
        have HB3 := Lib.hid (bthen HB2.out (bthen (below_allocS HB.out _) hb3))
        clear hb3
        go_wp2_with fail
        go_ret
        exact ⟨by unfold rightM; rw [HN.out]; simp, HB3.out⟩
      · have HC : Hid (sayB m.ver (m.fl k) = true) := Lib.hid (by rw [hG]; exact es)
        clear hG
        go_upto_region 8 with fail
        refine region_seq ?_
        repeat (go_big_quiet_step ((go_at_call 52; exact quiet_call (by simp) (saysW_at (by assumption) (FldOk.below HKx.out (Later.below _))))))
        refine wpQuiet_nil ?_
        intro w3 hb3
        have HB3 := Lib.hid (bthen (below_allocS HB.out _) hb3)
        clear hb3
        go_wp2_with fail
        go_roundw
        case rel =>
          refine ⟨k + 1, by omega, by go_num, fun j hj => ?_, HB3.out⟩
          by_cases hjk : j = k
          · rw [hjk]; exact HC.out
          · exact HA.out j (by omega)
        case measure => simp [intOf]; omega
    · have hkk : k = m.fn := by omega
      subst hkk
      have HN : Hid (sayAllB m.ver m.fn m.fl = true) := Lib.hid (sayAll_yes HA.out)
      have HB3 := Lib.hid (bthen HB2.out HB.out)
      clear HA HI HIr HB HB2 r
      have r := rr
      clear rr
      have k0 : wr.cell? ⟨w.heap.size, 0, none⟩ = some (.int .i64 m.kind) := by rw [cell_of_rowAt r]; rfl
      have k5 : wr.cell? ⟨w.heap.size, 5, none⟩ = some (.bool m.yes) := by rw [cell_of_rowAt r]; rfl
      have k6 : wr.cell? ⟨w.heap.size, 6, none⟩ = some (.slice m.fA m.fn m.fc) := by rw [cell_of_rowAt r]; rfl
      have k7 : wr.cell? ⟨w.heap.size, 7, none⟩ = some (.int .i64 m.pk) := by rw [cell_of_rowAt r]; rfl
      have k8 : wr.cell? ⟨w.heap.size, 8, none⟩ = some (.string (strT m.pn)) := by rw [cell_of_rowAt r]; rfl
      have k9 : wr.cell? ⟨w.heap.size, 9, none⟩ = some (.string (strT m.po)) := by rw [cell_of_rowAt r]; rfl
      have k10 : wr.cell? ⟨w.heap.size, 10, none⟩ = some (.int .i64 m.pa) := by rw [cell_of_rowAt r]; rfl
      have k11 : wr.cell? ⟨w.heap.size, 11, none⟩ = some (.int .i64 m.pb) := by rw [cell_of_rowAt r]; rfl
      have HM : Hid (rightM m = tlB m) := Lib.hid (by unfold rightM; rw [HH1.out, HH2.out, HN.out]; rfl)
      clear HN HH1 HH2
      obtain ⟨y, hy⟩ : ∃ y, m.yes = y := ⟨_, rfl⟩
      rw [hy] at k5
      by_cases hk2 : m.kind = 2
      · rw [hk2] at k0
        cases y
        · by_cases hfn : 0 < m.fn
          · go_wp2_with fail
            go_ret
            refine ⟨?_, HB3.out⟩
            rw [HM.out]; simp [tlB, hk2, hy, hfn]
          · go_wp2_with fail
            refine (planRight_any _ _ _ _ _ hpn hpo _).mono ?_
            rintro e w3 ⟨rfl, hb3⟩
            have HB4 := Lib.hid (bthen HB3.out hb3)
            clear hb3
            go_wp2_with fail
            go_ret
            refine ⟨?_, HB4.out⟩
            rw [HM.out]; simp [tlB, hk2, hy, hfn]
        · go_wp2_with fail
          go_ret
          refine ⟨?_, HB3.out⟩
          rw [HM.out]; simp [tlB, hk2, hy]
      · by_cases hk5 : m.kind = 5
        · rw [hk5] at k0
          cases y
          · go_wp2_with fail
            all_goals (
              go_ret
              refine ⟨?_, HB3.out⟩
              rw [HM.out]
              (try simp only [strT_toList] at *)
              simp [tlB, zeroP, *])
          · go_wp2_with fail
            go_ret
            refine ⟨?_, HB3.out⟩
            rw [HM.out]; simp [tlB, hk5, hy]
        · have hq2 : (m.kind == 2) = false := by simp [hk2]
          have hq5 : (m.kind == 5) = false := by simp [hk5]
          by_cases hk4 : m.kind = 4
          · rw [hk4] at k0
            cases y
            all_goals (
              go_wp2_with fail
              all_goals (
                go_ret
                refine ⟨?_, HB3.out⟩
                rw [HM.out]
                (try simp only [strT_toList] at *)
                simp [tlB, zeroP, *]))
          have hq4 : (m.kind == 4) = false := by simp [hk4]
          have hq6 : (m.kind != 4) = true := by simp [hk4]
          cases y
          all_goals (
            go_wp2_with fail
            all_goals (
              go_ret
              refine ⟨?_, HB3.out⟩
              rw [HM.out]
              (try simp only [strT_toList] at *)
              simp [tlB, zeroP, *]))
theorem mright_any (m : Msg) (w : World) (hm : MsgOk w m) : Calls Tryz.prog 32 #[.agg m.cells] w fun e w' => e = .returned (.bool (rightM m)) ∧ Below w.heap.size w w' := by
  cases h1 : hd1B m with
  | false => rw [show rightM m = false by simp [rightM, h1]]; exact mright_no1 m h1 w hm
  | true =>
    cases h2 : hd2B m with
    | false => rw [show rightM m = false by simp [rightM, h2]]; exact mright_no2 m h1 h2 w hm
    | true => exact mright_go m h1 h2 w hm
theorem mright_is {m : Msg} {b : Bool} (e : rightM m = b) {w : World} (hm : MsgOk w m) : Calls Tryz.prog 32 #[.agg m.cells] w fun e w' => e = .returned (.bool b) ∧ Below w.heap.size w w' := by rw [← e]; exact mright_any m w hm
end Go.Proofs.YtlocoieknabiaaaGreat
