/-
  Fields and messages that are the same.
-/
import Derived.Test.YtlocoieknabiaaaGreatZField5
import Derived.Test.YtlocoieknabiaaaGreatZGJ
import Derived.Test.YtlocoieknabiaaaGreatZMDec
namespace Go.Proofs.YtlocoieknabiaaaGreat
set_option maxRecDepth 20000
open Go.RowKit
set_option linter.unusedSimpArgs false
set_option linter.unusedVariables false
attribute [local go_sem] rowCells rowAt_drewN get_ints getE_ints set_ints size_ints rowAt_alloc rowAt_drew setRow_alloc setRow_drewN setRow_drew setCell_alloc setCell_drewN splice_upd splice_put splice_all load_vec_cut load_vecs_cut load_rights_cut load_counter store_vec store_rights store_counter eql_vec neq_vec index_vec eql_rights neq_rights eql_counter index_vecs cut_ints sub_zero
attribute [local go_sem ↓] xload_vec xstore_vec xalloc_vec xeql_vec xneq_vec xindex_vec xbuild_vec0 xload_rights xstore_rights xalloc_rights xeql_rights xneq_rights xbuild_rights0 xload_vecs xindex_vecs xload_counter xstore_counter xalloc_counter xbuild_counter0 xeql_counter xbuild_counter3
attribute [local go_sem] rowAt_setRow rowAt_setCell load_vec_cut_later load_rights_later load_counter_later Later.cell Later.frozen build3_ints
attribute [local go_sem ↓] xload_field xstore_field xalloc_field xload_lock
attribute [local go_sem] load_field load_field_later store_field load_counter_cut load_lock_cut load_lock_later Fld.size Fld.get0 Fld.get1 Fld.get2 Fld.get586 Fld.getE0 Fld.getE1 Fld.getE2 Fld.getE586 Fld.cut_cnt Fld.cut_lock Fld.cut_all Fld.splice_all strT_size

attribute [local go_sem ↓] xload_hold xstore_hold xalloc_hold
attribute [local go_sem] load_hold load_hold_later store_hold
attribute [local go_sem ↓] xbuild_lock0 xeql_lock xneq_lock xneq_counter
attribute [local go_sem] eql_lock neq_lock neq_counter
section
variable (ρ : Operand → Value) (d : Option Tmp) (T : TypeId) (p : String) (af : Array Edge) (gd : Option (Nat × Bool)) (x y : Operand) (ty' : TypeId) (w : World)
theorem xneq_hold : (execOp ρ ⟨d, .binOp .neq 102 x y ty', T, p, af, gd⟩).run Tryz.prog w = eqlAgg Tryz.prog w .neq 102 x y (ρ x) (ρ y) := rfl
end
theorem eq_hold' : EqInt Tryz.prog 2 102 (1 + (1 + (1 + (1 + (1 + 0))))) := by
  refine EqInt.struct (D := 1) Tryz.underlying102 (by kernel_rfl) (by kernel_rfl) ?_
  refine EqFields.cons (by decide) rfl (int_of (EqInt.int Tryz.underlying3) (by omega)) ?_
  refine EqFields.cons (by decide) rfl (int_of (EqInt.int Tryz.underlying3) (by omega)) ?_
  refine EqFields.cons (by decide) rfl (int_of (EqInt.int Tryz.underlying3) (by omega)) ?_
  refine EqFields.cons (by decide) rfl (int_of (EqInt.int Tryz.underlying3) (by omega)) ?_
  exact EqFields.cons (by decide) rfl (int_of (EqInt.int Tryz.underlying3) (by omega)) (EqFields.nil _)
theorem neq_hold (w : World) (x y : Operand) (f g : Nat → Int) : eqlAgg Tryz.prog w .neq 102 x y (.agg (ints 5 f)) (.agg (ints 5 g)) = .ok (.value (.bool (!eqI 5 f g))) w :=
  (eqlAgg_ints Tryz.underlying102 rfl (by kernel_rfl) (by kernel_rfl) (int_of eq_hold' (by omega)) w x y f g).2
attribute [local go_sem ↓] xneq_hold
attribute [local go_sem] neq_hold eqI_self
theorem str_neq (s : ByteArray) : (s.toList != s.toList) = false := by simp
set_option maxHeartbeats 4000000 in
theorem fsame_yes (F : Fld) (A' : Option Addr) (c' : Nat) (w : World) (h1 : FldOk w F) (h2 : FldOk w { F with hA := A', hc := c' }) :
    Calls Tryz.prog 25 #[.agg F.cells, .agg ({ F with hA := A', hc := c' } : Fld).cells] w fun e w' => e = .returned (.bool true) ∧ Below w.heap.size w w' := by
  have hhn := Nat.le_trans h1.le h1.big.2
  obtain ⟨G, hG⟩ : ∃ G : Fld, ({ F with hA := A', hc := c' } : Fld) = G := ⟨_, rfl⟩
  have e1 : G.name = F.name := by rw [← hG]
  have e2 : G.kind = F.kind := by rw [← hG]
  have e3 : G.epoch = F.epoch := by rw [← hG]
  have e4 : G.cnt = F.cnt := by rw [← hG]
  have e5 : G.lock = F.lock := by rw [← hG]
  have e6 : G.hn = F.hn := by rw [← hG]
  have e7 : G.hs = F.hs := by rw [← hG]
  rw [hG] at h2 ⊢
  clear hG
  have hb0 : Below w.heap.size w ((w.alloc (.cells F.cells 79)).alloc (.cells G.cells 79)) := below_allocS ((Below.refl _ _).alloc (Nat.le_refl _) _) _
  obtain ⟨W, hW⟩ : ∃ W, (w.alloc (.cells F.cells 79)).alloc (.cells G.cells 79) = W := ⟨_, rfl⟩
  have r1 : rowAt W w.heap.size = some (F.cells, 79) := by rw [← hW]; exact rowPast (rowAt_alloc_at _ _ _ _ rfl)
  have r2 : rowAt W (w.heap.size + 1) = some (G.cells, 79) := by rw [← hW]; exact rowAt_alloc_at _ _ _ _ (by simp)
  rw [hW] at hb0
  have H1 := Lib.hid (h1.below hb0)
  have H2 := Lib.hid (h2.below hb0)
  have HB := Lib.hid hb0
  have a0 : W.cell? ⟨w.heap.size, 0, none⟩ = some (.string (strT F.name)) := by rw [cell_of_rowAt r1, F.get0]
  have a1 : W.cell? ⟨w.heap.size, 1, none⟩ = some (.int .i64 F.kind) := by rw [cell_of_rowAt r1, F.get1]
  have a2 : W.cell? ⟨w.heap.size, 2, none⟩ = some (.int .i64 F.epoch) := by rw [cell_of_rowAt r1, F.get2]
  have a3 : W.cell? ⟨w.heap.size, 586, none⟩ = some (.slice F.hA F.hn F.hc) := by rw [cell_of_rowAt r1, F.get586]
  have b0 : W.cell? ⟨w.heap.size + 1, 0, none⟩ = some (.string (strT F.name)) := by rw [cell_of_rowAt r2, G.get0, e1]
  have b1 : W.cell? ⟨w.heap.size + 1, 1, none⟩ = some (.int .i64 F.kind) := by rw [cell_of_rowAt r2, G.get1, e2]
  have b2 : W.cell? ⟨w.heap.size + 1, 2, none⟩ = some (.int .i64 F.epoch) := by rw [cell_of_rowAt r2, G.get2, e3]
  have b3 : W.cell? ⟨w.heap.size + 1, 586, none⟩ = some (.slice G.hA F.hn G.hc) := by rw [cell_of_rowAt r2, G.get586, e6]
  have l1 : loadAgg Tryz.prog W 74 (.pointer (some ⟨w.heap.size, 3, none⟩)) = .ok (.value (.agg (ints 579 F.cnt))) W := by
    rw [load_counter_cut W _ 3 (by rw [r1]; rfl) (by simp [rowCells, r1, Fld.size])]; simp [rowCells, r1, Fld.cut_cnt]
  have l2 : loadAgg Tryz.prog W 74 (.pointer (some ⟨w.heap.size + 1, 3, none⟩)) = .ok (.value (.agg (ints 579 F.cnt))) W := by
    rw [load_counter_cut W _ 3 (by rw [r2]; rfl) (by simp [rowCells, r2, Fld.size])]; simp [rowCells, r2, Fld.cut_cnt, e4]
  have l3 : loadAgg Tryz.prog W 76 (.pointer (some ⟨w.heap.size, 582, none⟩)) = .ok (.value (.agg (ints 4 F.lock))) W := by
    rw [load_lock_cut W _ 582 (by rw [r1]; rfl) (by simp [rowCells, r1, Fld.size])]; simp [rowCells, r1, Fld.cut_lock]
  have l4 : loadAgg Tryz.prog W 76 (.pointer (some ⟨w.heap.size + 1, 582, none⟩)) = .ok (.value (.agg (ints 4 F.lock))) W := by
    rw [load_lock_cut W _ 582 (by rw [r2]; rfl) (by simp [rowCells, r2, Fld.size])]; simp [rowCells, r2, Fld.cut_lock, e5]
  have R1 := Lib.hid r1
  have R2 := Lib.hid r2
  have E6 := Lib.hid e6
  have E7 := Lib.hid e7
  clear e1 e2 e3 e4 e5 e6 e7 r1 r2 hb0 h1 h2
  go_enter Tryz.func25, Tryz.ntmps25
  go_wp2_with fail
  clear l1 l2 l3 l4 a0 a1 a2 a3 b0 b1 b2 b3
  clear hW
  go_loopw [5] (fun i w' => ∃ k : Nat, k ≤ F.hn ∧ i = .int .i64 k ∧ Below W.heap.size W w') (fun i _ => F.hn - (intOf i).toNat)
  case atStart => exact ⟨0, Nat.zero_le _, rfl, Below.refl _ _⟩
  case round =>
    rename World => wr
    obtain ⟨k, hk, rfl, hb⟩ := hrel
    have HBR := Lib.hid hb
    have rr1 := rowKeep hb R1.out
    have rr2 := rowKeep hb R2.out
    have a3 : wr.cell? ⟨w.heap.size, 586, none⟩ = some (.slice F.hA F.hn F.hc) := by rw [cell_of_rowAt rr1, F.get586]
    have b3 : wr.cell? ⟨w.heap.size + 1, 586, none⟩ = some (.slice G.hA F.hn G.hc) := by rw [cell_of_rowAt rr2, G.get586, E6.out]
    have n1 := rowAt_lt rr1
    have n2 := rowAt_lt rr2
    by_cases hlt : k < F.hn
    · obtain ⟨u1, o1, hA1, q1⟩ := (H1.out.below hb).holds.load hlt
      obtain ⟨u2, o2, hA2, q2⟩ := (H2.out.below hb).holds.load (i := k) (by rw [E6.out]; exact hlt)
      rw [E7.out] at q2
      rw [hA1] at a3
      rw [hA2] at b3
      have p1 : ∀ x : Later wr.heap.size wr, loadAgg Tryz.prog x.wd 102 (.pointer (some ⟨u1, o1 + k * 5, none⟩)) = .ok (.value (.agg (ints 5 (sub (5 * k) F.hs)))) x.wd := fun x => q1 _ x.below
      have p2 : ∀ x : Later wr.heap.size wr, loadAgg Tryz.prog x.wd 102 (.pointer (some ⟨u2, o2 + k * 5, none⟩)) = .ok (.value (.agg (ints 5 (sub (5 * k) F.hs)))) x.wd := fun x => q2 _ x.below
      clear hb rr1 rr2 q1 q2 hA1 hA2
      go_upto_region 6 with fail
      refine region_quiet (by kernel_rfl) (by kernel_rfl) ?_
      repeat (go_big_quiet_step (fail))
      refine wpQuiet_nil ?_
      intro w1 hb1
      have HB1 := Lib.hid (bthen HBR.out hb1)
      clear hb1 p1 p2 a3 b3
      go_wp2_with fail
      go_roundw
      case rel => exact ⟨k + 1, by omega, by go_num, HB1.out⟩
      case measure => simp [intOf]; omega
    · clear hb rr1 rr2
      go_wp2_with fail
      go_ret
      exact ⟨rfl, bthen HB.out HBR.out⟩
set_option maxHeartbeats 4000000 in
theorem msame_yes (m : Msg) (A' : Option Addr) (c' : Nat) (H : Nat → Option Addr × Nat) (w : World) (h1 : MsgOk w m) (h2 : MsgOk w (reM m A' c' H)) :
    Calls Tryz.prog 11 #[.agg m.cells, .agg (reM m A' c' H).cells] w fun e w' => e = .returned (.bool true) ∧ Below w.heap.size w w' := by
  have hhn := Nat.le_trans h1.le h1.big.2.2
  have hb0 : Below w.heap.size w ((w.alloc (.cells m.cells 34)).alloc (.cells (reM m A' c' H).cells 34)) := below_allocS ((Below.refl _ _).alloc (Nat.le_refl _) _) _
  obtain ⟨W, hW⟩ : ∃ W, (w.alloc (.cells m.cells 34)).alloc (.cells (reM m A' c' H).cells 34) = W := ⟨_, rfl⟩
  have r1 : rowAt W w.heap.size = some (m.cells, 34) := by rw [← hW]; exact rowPast (rowAt_alloc_at _ _ _ _ rfl)
  have r2 : rowAt W (w.heap.size + 1) = some ((reM m A' c' H).cells, 34) := by rw [← hW]; exact rowAt_alloc_at _ _ _ _ (by simp)
  rw [hW] at hb0
  have H1 := Lib.hid (h1.below hb0).flds
  have H2 := Lib.hid (h2.below hb0).flds
  have HB := Lib.hid hb0
  have a0 : W.cell? ⟨w.heap.size, 0, none⟩ = some (.int .i64 m.kind) := by rw [cell_of_rowAt r1]; rfl
  have b0 : W.cell? ⟨w.heap.size + 1, 0, none⟩ = some (.int .i64 m.kind) := by rw [cell_of_rowAt r2]; rfl
  have a1 : W.cell? ⟨w.heap.size, 1, none⟩ = some (.int .i64 m.frm) := by rw [cell_of_rowAt r1]; rfl
  have b1 : W.cell? ⟨w.heap.size + 1, 1, none⟩ = some (.int .i64 m.frm) := by rw [cell_of_rowAt r2]; rfl
  have a2 : W.cell? ⟨w.heap.size, 2, none⟩ = some (.int .i64 m.to) := by rw [cell_of_rowAt r1]; rfl
  have b2 : W.cell? ⟨w.heap.size + 1, 2, none⟩ = some (.int .i64 m.to) := by rw [cell_of_rowAt r2]; rfl
  have a3 : W.cell? ⟨w.heap.size, 3, none⟩ = some (.int .i64 m.ver) := by rw [cell_of_rowAt r1]; rfl
  have b3 : W.cell? ⟨w.heap.size + 1, 3, none⟩ = some (.int .i64 m.ver) := by rw [cell_of_rowAt r2]; rfl
  have a4 : W.cell? ⟨w.heap.size, 4, none⟩ = some (.int .i64 m.num) := by rw [cell_of_rowAt r1]; rfl
  have b4 : W.cell? ⟨w.heap.size + 1, 4, none⟩ = some (.int .i64 m.num) := by rw [cell_of_rowAt r2]; rfl
  have a5 : W.cell? ⟨w.heap.size, 5, none⟩ = some (.bool m.yes) := by rw [cell_of_rowAt r1]; rfl
  have b5 : W.cell? ⟨w.heap.size + 1, 5, none⟩ = some (.bool m.yes) := by rw [cell_of_rowAt r2]; rfl
  have a6 : W.cell? ⟨w.heap.size, 6, none⟩ = some (.slice m.fA m.fn m.fc) := by rw [cell_of_rowAt r1]; rfl
  have b6 : W.cell? ⟨w.heap.size + 1, 6, none⟩ = some (.slice A' m.fn c') := by rw [cell_of_rowAt r2]; rfl
  have a7 : W.cell? ⟨w.heap.size, 7, none⟩ = some (.int .i64 m.pk) := by rw [cell_of_rowAt r1]; rfl
  have b7 : W.cell? ⟨w.heap.size + 1, 7, none⟩ = some (.int .i64 m.pk) := by rw [cell_of_rowAt r2]; rfl
  have a8 : W.cell? ⟨w.heap.size, 8, none⟩ = some (.string (strT m.pn)) := by rw [cell_of_rowAt r1]; rfl
  have b8 : W.cell? ⟨w.heap.size + 1, 8, none⟩ = some (.string (strT m.pn)) := by rw [cell_of_rowAt r2]; rfl
  have a9 : W.cell? ⟨w.heap.size, 9, none⟩ = some (.string (strT m.po)) := by rw [cell_of_rowAt r1]; rfl
  have b9 : W.cell? ⟨w.heap.size + 1, 9, none⟩ = some (.string (strT m.po)) := by rw [cell_of_rowAt r2]; rfl
  have a10 : W.cell? ⟨w.heap.size, 10, none⟩ = some (.int .i64 m.pa) := by rw [cell_of_rowAt r1]; rfl
  have b10 : W.cell? ⟨w.heap.size + 1, 10, none⟩ = some (.int .i64 m.pa) := by rw [cell_of_rowAt r2]; rfl
  have a11 : W.cell? ⟨w.heap.size, 11, none⟩ = some (.int .i64 m.pb) := by rw [cell_of_rowAt r1]; rfl
  have b11 : W.cell? ⟨w.heap.size + 1, 11, none⟩ = some (.int .i64 m.pb) := by rw [cell_of_rowAt r2]; rfl
  have R1 := Lib.hid r1
  have R2 := Lib.hid r2
  clear r1 r2 hb0 h1 h2
  unfold reM Msg.cells at *
  dsimp only at *
  go_enter Tryz.func11, Tryz.ntmps11
  go_wp2_with fail
  clear a0 b0 a1 b1 a2 b2 a3 b3 a4 b4 a5 b5 a6 b6 a7 b7 a8 b8 a9 b9 a10 b10 a11 b11
  clear hW
  go_loopw [5] (fun i w' => ∃ k : Nat, k ≤ m.fn ∧ i = .int .i64 k ∧ Below W.heap.size W w') (fun i _ => m.fn - (intOf i).toNat)
  case atStart => exact ⟨0, Nat.zero_le _, rfl, Below.refl _ _⟩
  case round =>
    rename World => wr
    obtain ⟨k, hk, rfl, hb⟩ := hrel
    have HBR := Lib.hid hb
    have rr1 := rowKeep hb R1.out
    have rr2 := rowKeep hb R2.out
    have a3 : wr.cell? ⟨w.heap.size, 6, none⟩ = some (.slice m.fA m.fn m.fc) := by rw [cell_of_rowAt rr1]; rfl
    have b3 : wr.cell? ⟨w.heap.size + 1, 6, none⟩ = some (.slice A' m.fn c') := by rw [cell_of_rowAt rr2]; rfl
    have n1 := rowAt_lt rr1
    have n2 := rowAt_lt rr2
    by_cases hlt : k < m.fn
    · obtain ⟨u1, o1, hA1, _, _, q1⟩ := (H1.out.below hb).at_ hlt
      obtain ⟨u2, o2, hA2, _, _, q2⟩ := (H2.out.below hb).at_ (i := k) hlt
      have HS : Hid (∀ x : Later wr.heap.size wr, Calls Tryz.prog 25 #[.agg (m.fl k).cells, .agg (reF m.fl H k).cells] x.wd fun e w' => e = .returned (.bool true) ∧ Below x.wd.heap.size x.wd w') := Lib.hid (fun x => fsame_yes (m.fl k) (H k).1 (H k).2 x.wd (((H1.out.below hb).ok k hlt).below x.below) (((H2.out.below hb).ok k hlt).below x.below))
      generalize m.fl k = F1 at *
      generalize reF m.fl H k = F2 at *
      rw [hA1] at a3
      rw [hA2] at b3
      have p1 : ∀ x : Later wr.heap.size wr, loadAgg Tryz.prog x.wd 79 (.pointer (some ⟨u1, o1 + k * 587, none⟩)) = .ok (.value (.agg F1.cells)) x.wd := fun x => q1 _ x.below
      have p2 : ∀ x : Later wr.heap.size wr, loadAgg Tryz.prog x.wd 79 (.pointer (some ⟨u2, o2 + k * 587, none⟩)) = .ok (.value (.agg F2.cells)) x.wd := fun x => q2 _ x.below
      clear hb rr1 rr2 q1 q2 hA1 hA2
      go_upto_region 6 with fail
      refine region_quiet (by kernel_rfl) (by kernel_rfl) ?_
      repeat (go_big_quiet_step ((go_at_call 25; exact quiet_call (by simp) (HS.out _))))
      refine wpQuiet_nil ?_
      intro w3 hb1
      have HB1 := Lib.hid (bthen HBR.out hb1)
      clear hb1 p1 p2 a3 b3
      go_wp2_with fail
      go_roundw
      case rel => exact ⟨k + 1, by omega, by go_num, HB1.out⟩
      case measure => simp [intOf]; omega
    · clear hb rr1 rr2
      go_wp2_with fail
      go_ret
      exact ⟨rfl, bthen HB.out HBR.out⟩
set_option maxHeartbeats 1000000 in
theorem mencode_no (m : Msg) (w : World) (hr : rightM m = false) (hm : MsgOk w m) :
    Calls Tryz.prog 20 #[.agg m.cells] w fun e w' => e = .returned (.tuple #[.slice none 0 0, .int .i64 1]) ∧ Below w.heap.size w w' := by
  have HM := Lib.hid hm
  have C1 := Lib.hid (fun (w' : World) (h : MsgOk w' m) => mright_is hr h)
  clear hr hm
  unfold Msg.cells at C1 ⊢
  go_enter Tryz.func20, Tryz.ntmps20
  go_wp2_with fail
  refine (C1.out _ (HM.out.below ((Below.refl _ _).alloc (Nat.le_refl _) _))).mono ?_
  rintro e w1 ⟨rfl, hb⟩
  have HB := Lib.hid (bthen (below_allocS (Below.refl _ _) _) hb)
  clear hb
  go_wp2_with fail
  go_ret2
  exact ⟨rfl, HB.out⟩
end Go.Proofs.YtlocoieknabiaaaGreat
