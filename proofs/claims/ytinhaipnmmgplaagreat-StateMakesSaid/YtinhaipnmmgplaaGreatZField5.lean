/-
  Layer 7 (field): whether a field may be; the reference's.
-/
import Derived.Test.YtinhaipnmmgplaaGreatZField4
namespace Go.Proofs.YtinhaipnmmgplaaGreat
set_option maxRecDepth 20000
open Go.RowKit
set_option linter.unusedSimpArgs false
section
variable (ρ : Operand → Value) (d : Option Tmp) (T : TypeId) (p : String) (af : Array Edge) (gd : Option (Nat × Bool)) (x y : Operand) (ty' : TypeId) (w : World)
theorem xbuild_lock0 : (execOp ρ ⟨d, .build 55 #[], T, p, af, gd⟩).run Tryz.prog w = .ok (.value (.agg (ints 4 fun _ => 0))) w := by kernel_rfl
theorem xeql_lock : (execOp ρ ⟨d, .binOp .eql 55 x y ty', T, p, af, gd⟩).run Tryz.prog w = eqlAgg Tryz.prog w .eql 55 x y (ρ x) (ρ y) := rfl
theorem xneq_lock : (execOp ρ ⟨d, .binOp .neq 55 x y ty', T, p, af, gd⟩).run Tryz.prog w = eqlAgg Tryz.prog w .neq 55 x y (ρ x) (ρ y) := rfl
theorem xneq_counter : (execOp ρ ⟨d, .binOp .neq 53 x y ty', T, p, af, gd⟩).run Tryz.prog w = eqlAgg Tryz.prog w .neq 53 x y (ρ x) (ρ y) := rfl
end
theorem eq_lock' : EqInt Tryz.prog 2 55 (1 + (1 + (1 + (1 + 0)))) := by
  refine EqInt.struct (D := 1) Tryz.underlying55 (by kernel_rfl) (by kernel_rfl) ?_
  refine EqFields.cons (by decide) rfl (int_of (EqInt.int Tryz.underlying3) (by omega)) ?_
  refine EqFields.cons (by decide) rfl (int_of (EqInt.int Tryz.underlying3) (by omega)) ?_
  refine EqFields.cons (by decide) rfl (int_of (EqInt.int Tryz.underlying3) (by omega)) ?_
  exact EqFields.cons (by decide) rfl (int_of (EqInt.int Tryz.underlying3) (by omega)) (EqFields.nil _)
theorem eql_lock (w : World) (x y : Operand) (f g : Nat → Int) : eqlAgg Tryz.prog w .eql 55 x y (.agg (ints 4 f)) (.agg (ints 4 g)) = .ok (.value (.bool (eqI 4 f g))) w :=
  (eqlAgg_ints Tryz.underlying55 rfl (by kernel_rfl) (by kernel_rfl) (int_of eq_lock' (by omega)) w x y f g).1
theorem neq_lock (w : World) (x y : Operand) (f g : Nat → Int) : eqlAgg Tryz.prog w .neq 55 x y (.agg (ints 4 f)) (.agg (ints 4 g)) = .ok (.value (.bool (!eqI 4 f g))) w :=
  (eqlAgg_ints Tryz.underlying55 rfl (by kernel_rfl) (by kernel_rfl) (int_of eq_lock' (by omega)) w x y f g).2
theorem neq_counter (w : World) (x y : Operand) (f g : Nat → Int) : eqlAgg Tryz.prog w .neq 53 x y (.agg (ints 579 f)) (.agg (ints 579 g)) = .ok (.value (.bool (!eqI 579 f g))) w :=
  (eqlAgg_ints Tryz.underlying53 rfl (by kernel_rfl) (by kernel_rfl) (int_of eq_counter (by omega)) w x y f g).2
attribute [local go_sem] rowCells rowAt_drewN get_ints getE_ints set_ints size_ints rowAt_alloc rowAt_drew setRow_alloc setRow_drewN setRow_drew setCell_alloc setCell_drewN splice_upd splice_put splice_all load_vec_cut load_vecs_cut load_rights_cut load_counter store_vec store_rights store_counter eql_vec neq_vec index_vec eql_rights neq_rights eql_counter index_vecs cut_ints sub_zero
attribute [local go_sem ↓] xload_vec xstore_vec xalloc_vec xeql_vec xneq_vec xindex_vec xbuild_vec0 xload_rights xstore_rights xalloc_rights xeql_rights xneq_rights xbuild_rights0 xload_vecs xindex_vecs xload_counter xstore_counter xalloc_counter xbuild_counter0 xeql_counter xbuild_counter3
attribute [local go_sem] rowAt_setRow rowAt_setCell load_vec_cut_later load_rights_later load_counter_later Later.cell Later.frozen build3_ints
attribute [local go_sem ↓] xload_field xstore_field xalloc_field xload_lock
attribute [local go_sem] load_field load_field_later store_field load_counter_cut load_lock_cut load_lock_later Fld.size Fld.get0 Fld.get1 Fld.get2 Fld.get586 Fld.getE0 Fld.getE1 Fld.getE2 Fld.getE586 Fld.cut_cnt Fld.cut_lock Fld.cut_all Fld.splice_all strT_size
attribute [local go_sem ↓] xbuild_lock0 xeql_lock xneq_lock xneq_counter
attribute [local go_sem] eql_lock neq_lock neq_counter
def z0 : Nat → Int := fun _ => 0
def rightF (F : Fld) : Bool := nameB F.name && decide (0 ≤ F.epoch) && isB F.epoch &&
  (if F.kind = 1 then rightC F.cnt && holdsB F.hn F.hs && eqI 4 F.lock (fun _ => 0) else if F.kind = 2 then lockB F.lock && decide (F.hn = 0) && eqI 579 F.cnt (fun _ => 0) else false)
theorem name_at {l : List UInt8} {b : Bool} (h : nameB l = b) (hl : l.length ≤ 9223372036854775807) (w : World) : Calls Tryz.prog 54 #[.string (strT l)] w fun e w' => e = .returned (.bool b) ∧ Below w.heap.size w w' :=
  (name_any l hl w).mono fun _ _ ⟨h1, h2⟩ => ⟨h1.trans (by rw [h]), h2 ▸ Below.refl _ _⟩
theorem rname_at {l : List UInt8} {b : Bool} (h : nameB l = b) (hl : l.length ≤ 9223372036854775807) (w : World) : Calls Tryz.prog 35 #[.string (strT l)] w fun e w' => e = .returned (.bool b) ∧ Below w.heap.size w w' :=
  (rname_any l hl w).mono fun _ _ ⟨h1, h2⟩ => ⟨h1.trans (by rw [h]), h2 ▸ Below.refl _ _⟩
theorem crightF_at {c : Nat → Int} {b : Bool} (h : rightC c = b) (w : World) : Calls Tryz.prog 55 #[.agg (ints 579 c)] w fun e w' => e = .returned (.bool b) ∧ Below w.heap.size w w' := by rw [← h]; exact cright_any c w
theorem crrightF_at {c : Nat → Int} {b : Bool} (h : rightC c = b) (w : World) : Calls Tryz.prog 37 #[.agg (ints 579 c)] w fun e w' => e = .returned (.bool b) ∧ Below w.heap.size w w' := by rw [← h]; exact crright_any c w
theorem lockRight_at {c : Nat → Int} {b : Bool} (h : lockB c = b) (w : World) : Calls Tryz.prog 57 #[.agg (ints 4 c)] w fun e w' => e = .returned (.bool b) ∧ Below w.heap.size w w' := by rw [← h]; exact lockRight_any c w
theorem rlockRight_at {c : Nat → Int} {b : Bool} (h : lockB c = b) (w : World) : Calls Tryz.prog 39 #[.agg (ints 4 c)] w fun e w' => e = .returned (.bool b) ∧ Below w.heap.size w w' := by rw [← h]; exact rlockRight_any c w
theorem holdRights_at {A : Option Addr} {c n : Nat} {f : Nat → Int} {b : Bool} (e : holdsB n f = b) {w : World} (h : IntsIs w A (5 * n) f) (hn : n ≤ 9223372036854775807) : Calls Tryz.prog 56 #[.slice A n c] w fun e w' => e = .returned (.bool b) ∧ Below w.heap.size w w' := by rw [← e]; exact holdRights_any A c n f w h hn
theorem rholdRights_at {A : Option Addr} {c n : Nat} {f : Nat → Int} {b : Bool} (e : holdsB n f = b) {w : World} (h : IntsIs w A (5 * n) f) (hn : n ≤ 9223372036854775807) : Calls Tryz.prog 38 #[.slice A n c] w fun e w' => e = .returned (.bool b) ∧ Below w.heap.size w w' := by rw [← e]; exact rholdRights_any A c n f w h hn
theorem fieldCases (F : Fld) : ∃ b1 b2 b3 b4 b5 b6 b7, nameB F.name = b1 ∧ isB F.epoch = b2 ∧ rightC F.cnt = b3 ∧ holdsB F.hn F.hs = b4 ∧ eqI 4 F.lock (fun _ => 0) = b5 ∧ lockB F.lock = b6 ∧ eqI 579 F.cnt (fun _ => 0) = b7 ∧
    ((b1 = false ∧ rightF F = false) ∨ (b1 = true ∧ F.epoch < 0 ∧ rightF F = false) ∨ (b1 = true ∧ ¬ F.epoch < 0 ∧ b2 = false ∧ rightF F = false) ∨
     (b1 = true ∧ ¬ F.epoch < 0 ∧ b2 = true ∧ F.kind = 1 ∧ b3 = false ∧ rightF F = false) ∨
     (b1 = true ∧ ¬ F.epoch < 0 ∧ b2 = true ∧ F.kind = 1 ∧ b3 = true ∧ b4 = false ∧ rightF F = false) ∨
     (b1 = true ∧ ¬ F.epoch < 0 ∧ b2 = true ∧ F.kind = 1 ∧ b3 = true ∧ b4 = true ∧ b5 = rightF F) ∨
     (b1 = true ∧ ¬ F.epoch < 0 ∧ b2 = true ∧ F.kind = 2 ∧ b6 = false ∧ rightF F = false) ∨
     (b1 = true ∧ ¬ F.epoch < 0 ∧ b2 = true ∧ F.kind = 2 ∧ b6 = true ∧ ¬ F.hn = 0 ∧ rightF F = false) ∨
     (b1 = true ∧ ¬ F.epoch < 0 ∧ b2 = true ∧ F.kind = 2 ∧ b6 = true ∧ F.hn = 0 ∧ b7 = rightF F) ∨
     (b1 = true ∧ ¬ F.epoch < 0 ∧ b2 = true ∧ ¬ F.kind = 1 ∧ ¬ F.kind = 2 ∧ rightF F = false)) := by
  refine ⟨_, _, _, _, _, _, _, rfl, rfl, rfl, rfl, rfl, rfl, rfl, ?_⟩
  unfold rightF
  by_cases h1 : F.epoch < 0
  · cases nameB F.name <;> simp [h1, Int.not_le.2 h1]
  · by_cases k1 : F.kind = 1
    · cases nameB F.name <;> cases isB F.epoch <;> cases rightC F.cnt <;> cases holdsB F.hn F.hs <;> simp [h1, k1, Int.not_lt.1 h1]
    · by_cases k2 : F.kind = 2
      · by_cases k3 : F.hn = 0
        · cases nameB F.name <;> cases isB F.epoch <;> cases lockB F.lock <;> simp [h1, k2, k3, Int.not_lt.1 h1]
        · cases nameB F.name <;> cases isB F.epoch <;> cases lockB F.lock <;> simp [h1, k2, k3, Int.not_lt.1 h1]
      · cases nameB F.name <;> cases isB F.epoch <;> simp [h1, k1, k2, Int.not_lt.1 h1]
set_option maxHeartbeats 4000000 in
theorem fieldRight_any (F : Fld) (w : World) (h : FldOk w F) : Calls Tryz.prog 33 #[.agg F.cells] w fun e w' => e = .returned (.bool (rightF F)) ∧ Below w.heap.size w w' := by
  obtain ⟨b1, b2, b3, b4, b5, b6, b7, e1, e2, e3, e4, e5, e6, e7, H⟩ := fieldCases F
  generalize hR : rightF F = R at *
  have HO := Lib.hid h.holds
  have hbig := h.big
  have hbig2 : F.hn ≤ 9223372036854775807 := Nat.le_trans h.le h.big.2
  clear h
  rcases H with H | H | H | H | H | H | H | H | H | H
  · obtain ⟨rfl, rfl⟩ := H
    clear hR
    go_enter Tryz.func33, Tryz.ntmps33
    go_upto_region 1 with fail
    refine region_seq ?_
    repeat (go_big_quiet_step ((first | (go_at_call 54; exact quiet_call (by simp) (name_at e1 hbig.1 _)) | (go_at_call 43; exact quiet_call (by simp) (is_at e2 _)))))
    refine wpQuiet_nil ?_
    intro w1 hb1
    have r1 : rowAt w1 w.heap.size = some (F.cells, 58) := rowKeep hb1 (rowAt_alloc_at _ _ _ _ rfl)
    have n1 := rowAt_lt r1
    have c1 : w1.cell? ⟨w.heap.size, 1, none⟩ = some (.int .i64 F.kind) := by rw [cell_of_rowAt r1]; exact F.get1
    have c5 : w1.cell? ⟨w.heap.size, 586, none⟩ = some (.slice F.hA F.hn F.hc) := by rw [cell_of_rowAt r1]; exact F.get586
    have HH := Lib.hid (HO.out.below (bthen (below_allocS (Below.refl _ _) _) hb1))
    have HB := Lib.hid (bthen (below_allocS (Below.refl _ _) _) hb1)
    clear hb1 HO
    go_wp2_with fail
    go_ret
    exact ⟨by first | rfl | simp [*], HB.out⟩
  · obtain ⟨rfl, g1, rfl⟩ := H
    clear hR
    go_enter Tryz.func33, Tryz.ntmps33
    go_upto_region 1 with fail
    refine region_seq ?_
    repeat (go_big_quiet_step ((first | (go_at_call 54; exact quiet_call (by simp) (name_at e1 hbig.1 _)) | (go_at_call 43; exact quiet_call (by simp) (is_at e2 _)))))
    refine wpQuiet_nil ?_
    intro w1 hb1
    have r1 : rowAt w1 w.heap.size = some (F.cells, 58) := rowKeep hb1 (rowAt_alloc_at _ _ _ _ rfl)
    have n1 := rowAt_lt r1
    have c1 : w1.cell? ⟨w.heap.size, 1, none⟩ = some (.int .i64 F.kind) := by rw [cell_of_rowAt r1]; exact F.get1
    have c5 : w1.cell? ⟨w.heap.size, 586, none⟩ = some (.slice F.hA F.hn F.hc) := by rw [cell_of_rowAt r1]; exact F.get586
    have HH := Lib.hid (HO.out.below (bthen (below_allocS (Below.refl _ _) _) hb1))
    have HB := Lib.hid (bthen (below_allocS (Below.refl _ _) _) hb1)
    clear hb1 HO
    go_wp2_with fail
    go_ret
    exact ⟨by first | rfl | simp [*], HB.out⟩
  · obtain ⟨rfl, g1, rfl, rfl⟩ := H
    clear hR
    go_enter Tryz.func33, Tryz.ntmps33
    go_upto_region 1 with fail
    refine region_seq ?_
    repeat (go_big_quiet_step ((first | (go_at_call 54; exact quiet_call (by simp) (name_at e1 hbig.1 _)) | (go_at_call 43; exact quiet_call (by simp) (is_at e2 _)))))
    refine wpQuiet_nil ?_
    intro w1 hb1
    have r1 : rowAt w1 w.heap.size = some (F.cells, 58) := rowKeep hb1 (rowAt_alloc_at _ _ _ _ rfl)
    have n1 := rowAt_lt r1
    have c1 : w1.cell? ⟨w.heap.size, 1, none⟩ = some (.int .i64 F.kind) := by rw [cell_of_rowAt r1]; exact F.get1
    have c5 : w1.cell? ⟨w.heap.size, 586, none⟩ = some (.slice F.hA F.hn F.hc) := by rw [cell_of_rowAt r1]; exact F.get586
    have HH := Lib.hid (HO.out.below (bthen (below_allocS (Below.refl _ _) _) hb1))
    have HB := Lib.hid (bthen (below_allocS (Below.refl _ _) _) hb1)
    clear hb1 HO
    go_wp2_with fail
    go_ret
    exact ⟨by first | rfl | simp [*], HB.out⟩
  · obtain ⟨rfl, g1, rfl, g2, rfl, rfl⟩ := H
    clear hR
    go_enter Tryz.func33, Tryz.ntmps33
    go_upto_region 1 with fail
    refine region_seq ?_
    repeat (go_big_quiet_step ((first | (go_at_call 54; exact quiet_call (by simp) (name_at e1 hbig.1 _)) | (go_at_call 43; exact quiet_call (by simp) (is_at e2 _)))))
    refine wpQuiet_nil ?_
    intro w1 hb1
    have r1 : rowAt w1 w.heap.size = some (F.cells, 58) := rowKeep hb1 (rowAt_alloc_at _ _ _ _ rfl)
    have n1 := rowAt_lt r1
    have c1 : w1.cell? ⟨w.heap.size, 1, none⟩ = some (.int .i64 F.kind) := by rw [cell_of_rowAt r1]; exact F.get1
    have c5 : w1.cell? ⟨w.heap.size, 586, none⟩ = some (.slice F.hA F.hn F.hc) := by rw [cell_of_rowAt r1]; exact F.get586
    have HH := Lib.hid (HO.out.below (bthen (below_allocS (Below.refl _ _) _) hb1))
    have HB := Lib.hid (bthen (below_allocS (Below.refl _ _) _) hb1)
    clear hb1 HO
    go_upto_region 5 with fail
    refine region_seq ?_
    repeat (go_big_quiet_step ((first | (go_at_call 55; exact quiet_call (by simp) (crightF_at e3 _)) | (go_at_call 56; exact quiet_call (by simp) (holdRights_at e4 (HH.out.below (Later.below _)) hbig2)))))
    refine wpQuiet_nil ?_
    intro w2 hb2
    have HB2 := Lib.hid (bthen HB.out hb2)
    clear hb2
    go_wp2_with fail
    go_ret
    exact ⟨by first | rfl | simp [*], HB2.out⟩
  · obtain ⟨rfl, g1, rfl, g2, rfl, rfl, rfl⟩ := H
    clear hR
    go_enter Tryz.func33, Tryz.ntmps33
    go_upto_region 1 with fail
    refine region_seq ?_
    repeat (go_big_quiet_step ((first | (go_at_call 54; exact quiet_call (by simp) (name_at e1 hbig.1 _)) | (go_at_call 43; exact quiet_call (by simp) (is_at e2 _)))))
    refine wpQuiet_nil ?_
    intro w1 hb1
    have r1 : rowAt w1 w.heap.size = some (F.cells, 58) := rowKeep hb1 (rowAt_alloc_at _ _ _ _ rfl)
    have n1 := rowAt_lt r1
    have c1 : w1.cell? ⟨w.heap.size, 1, none⟩ = some (.int .i64 F.kind) := by rw [cell_of_rowAt r1]; exact F.get1
    have c5 : w1.cell? ⟨w.heap.size, 586, none⟩ = some (.slice F.hA F.hn F.hc) := by rw [cell_of_rowAt r1]; exact F.get586
    have HH := Lib.hid (HO.out.below (bthen (below_allocS (Below.refl _ _) _) hb1))
    have HB := Lib.hid (bthen (below_allocS (Below.refl _ _) _) hb1)
    clear hb1 HO
    go_upto_region 5 with fail
    refine region_seq ?_
    repeat (go_big_quiet_step ((first | (go_at_call 55; exact quiet_call (by simp) (crightF_at e3 _)) | (go_at_call 56; exact quiet_call (by simp) (holdRights_at e4 (HH.out.below (Later.below _)) hbig2)))))
    refine wpQuiet_nil ?_
    intro w2 hb2
    have HB2 := Lib.hid (bthen HB.out hb2)
    clear hb2
    go_wp2_with fail
    go_ret
    exact ⟨by first | rfl | simp [*], HB2.out⟩
  · obtain ⟨rfl, g1, rfl, g2, rfl, rfl, rfl⟩ := H
    clear hR
    go_enter Tryz.func33, Tryz.ntmps33
    go_upto_region 1 with fail
    refine region_seq ?_
    repeat (go_big_quiet_step ((first | (go_at_call 54; exact quiet_call (by simp) (name_at e1 hbig.1 _)) | (go_at_call 43; exact quiet_call (by simp) (is_at e2 _)))))
    refine wpQuiet_nil ?_
    intro w1 hb1
    have r1 : rowAt w1 w.heap.size = some (F.cells, 58) := rowKeep hb1 (rowAt_alloc_at _ _ _ _ rfl)
    have n1 := rowAt_lt r1
    have c1 : w1.cell? ⟨w.heap.size, 1, none⟩ = some (.int .i64 F.kind) := by rw [cell_of_rowAt r1]; exact F.get1
    have c5 : w1.cell? ⟨w.heap.size, 586, none⟩ = some (.slice F.hA F.hn F.hc) := by rw [cell_of_rowAt r1]; exact F.get586
    have HH := Lib.hid (HO.out.below (bthen (below_allocS (Below.refl _ _) _) hb1))
    have HB := Lib.hid (bthen (below_allocS (Below.refl _ _) _) hb1)
    clear hb1 HO
    go_upto_region 5 with fail
    refine region_seq ?_
    repeat (go_big_quiet_step ((first | (go_at_call 55; exact quiet_call (by simp) (crightF_at e3 _)) | (go_at_call 56; exact quiet_call (by simp) (holdRights_at e4 (HH.out.below (Later.below _)) hbig2)))))
    refine wpQuiet_nil ?_
    intro w2 hb2
    have HB2 := Lib.hid (bthen HB.out hb2)
    clear hb2
    go_wp2_with fail
    go_ret
    exact ⟨by first | rfl | simp [*], HB2.out⟩
  · obtain ⟨rfl, g1, rfl, g2, rfl, rfl⟩ := H
    clear hR
    go_enter Tryz.func33, Tryz.ntmps33
    go_upto_region 1 with fail
    refine region_seq ?_
    repeat (go_big_quiet_step ((first | (go_at_call 54; exact quiet_call (by simp) (name_at e1 hbig.1 _)) | (go_at_call 43; exact quiet_call (by simp) (is_at e2 _)))))
    refine wpQuiet_nil ?_
    intro w1 hb1
    have r1 : rowAt w1 w.heap.size = some (F.cells, 58) := rowKeep hb1 (rowAt_alloc_at _ _ _ _ rfl)
    have n1 := rowAt_lt r1
    have c1 : w1.cell? ⟨w.heap.size, 1, none⟩ = some (.int .i64 F.kind) := by rw [cell_of_rowAt r1]; exact F.get1
    have c5 : w1.cell? ⟨w.heap.size, 586, none⟩ = some (.slice F.hA F.hn F.hc) := by rw [cell_of_rowAt r1]; exact F.get586
    have HH := Lib.hid (HO.out.below (bthen (below_allocS (Below.refl _ _) _) hb1))
    have HB := Lib.hid (bthen (below_allocS (Below.refl _ _) _) hb1)
    clear hb1 HO
    go_upto_region 7 with fail
    refine region_seq ?_
    repeat (go_big_quiet_step ((go_at_call 57; exact quiet_call (by simp) (lockRight_at e6 _))))
    refine wpQuiet_nil ?_
    intro w2 hb2
    have HB2 := Lib.hid (bthen HB.out hb2)
    clear hb2
    go_wp2_with fail
    go_ret
    exact ⟨by first | rfl | simp [*], HB2.out⟩
  · obtain ⟨rfl, g1, rfl, g2, rfl, g3, rfl⟩ := H
    clear hR
    have g4 : decide ((F.hn : Int) = 0) = decide (F.hn = 0) := decide_eq_decide.2 (by omega)
    have g5 : ((F.hn : Int) == 0) = false := beq_eq_false_iff_ne.2 (by omega)
    go_enter Tryz.func33, Tryz.ntmps33
    go_upto_region 1 with fail
    refine region_seq ?_
    repeat (go_big_quiet_step ((first | (go_at_call 54; exact quiet_call (by simp) (name_at e1 hbig.1 _)) | (go_at_call 43; exact quiet_call (by simp) (is_at e2 _)))))
    refine wpQuiet_nil ?_
    intro w1 hb1
    have r1 : rowAt w1 w.heap.size = some (F.cells, 58) := rowKeep hb1 (rowAt_alloc_at _ _ _ _ rfl)
    have n1 := rowAt_lt r1
    have c1 : w1.cell? ⟨w.heap.size, 1, none⟩ = some (.int .i64 F.kind) := by rw [cell_of_rowAt r1]; exact F.get1
    have c5 : w1.cell? ⟨w.heap.size, 586, none⟩ = some (.slice F.hA F.hn F.hc) := by rw [cell_of_rowAt r1]; exact F.get586
    have HH := Lib.hid (HO.out.below (bthen (below_allocS (Below.refl _ _) _) hb1))
    have HB := Lib.hid (bthen (below_allocS (Below.refl _ _) _) hb1)
    clear hb1 HO
    go_upto_region 7 with fail
    refine region_seq ?_
    repeat (go_big_quiet_step ((go_at_call 57; exact quiet_call (by simp) (lockRight_at e6 _))))
    refine wpQuiet_nil ?_
    intro w2 hb2
    have HB2 := Lib.hid (bthen HB.out hb2)
    clear hb2
    go_wp2_with fail
    go_ret
    exact ⟨by first | rfl | simp [*], HB2.out⟩
  · obtain ⟨rfl, g1, rfl, g2, rfl, g3, rfl⟩ := H
    clear hR
    have g4 : decide ((F.hn : Int) = 0) = decide (F.hn = 0) := decide_eq_decide.2 (by omega)
    go_enter Tryz.func33, Tryz.ntmps33
    go_upto_region 1 with fail
    refine region_seq ?_
    repeat (go_big_quiet_step ((first | (go_at_call 54; exact quiet_call (by simp) (name_at e1 hbig.1 _)) | (go_at_call 43; exact quiet_call (by simp) (is_at e2 _)))))
    refine wpQuiet_nil ?_
    intro w1 hb1
    have r1 : rowAt w1 w.heap.size = some (F.cells, 58) := rowKeep hb1 (rowAt_alloc_at _ _ _ _ rfl)
    have n1 := rowAt_lt r1
    have c1 : w1.cell? ⟨w.heap.size, 1, none⟩ = some (.int .i64 F.kind) := by rw [cell_of_rowAt r1]; exact F.get1
    have c5 : w1.cell? ⟨w.heap.size, 586, none⟩ = some (.slice F.hA F.hn F.hc) := by rw [cell_of_rowAt r1]; exact F.get586
    have HH := Lib.hid (HO.out.below (bthen (below_allocS (Below.refl _ _) _) hb1))
    have HB := Lib.hid (bthen (below_allocS (Below.refl _ _) _) hb1)
    clear hb1 HO
    go_upto_region 7 with fail
    refine region_seq ?_
    repeat (go_big_quiet_step ((go_at_call 57; exact quiet_call (by simp) (lockRight_at e6 _))))
    refine wpQuiet_nil ?_
    intro w2 hb2
    have HB2 := Lib.hid (bthen HB.out hb2)
    clear hb2
    go_wp2_with fail
    go_ret
    exact ⟨by first | rfl | simp [*], HB2.out⟩
  · obtain ⟨rfl, g1, rfl, g2, g3, rfl⟩ := H
    clear hR
    go_enter Tryz.func33, Tryz.ntmps33
    go_upto_region 1 with fail
    refine region_seq ?_
    repeat (go_big_quiet_step ((first | (go_at_call 54; exact quiet_call (by simp) (name_at e1 hbig.1 _)) | (go_at_call 43; exact quiet_call (by simp) (is_at e2 _)))))
    refine wpQuiet_nil ?_
    intro w1 hb1
    have r1 : rowAt w1 w.heap.size = some (F.cells, 58) := rowKeep hb1 (rowAt_alloc_at _ _ _ _ rfl)
    have n1 := rowAt_lt r1
    have c1 : w1.cell? ⟨w.heap.size, 1, none⟩ = some (.int .i64 F.kind) := by rw [cell_of_rowAt r1]; exact F.get1
    have c5 : w1.cell? ⟨w.heap.size, 586, none⟩ = some (.slice F.hA F.hn F.hc) := by rw [cell_of_rowAt r1]; exact F.get586
    have HH := Lib.hid (HO.out.below (bthen (below_allocS (Below.refl _ _) _) hb1))
    have HB := Lib.hid (bthen (below_allocS (Below.refl _ _) _) hb1)
    clear hb1 HO
    go_wp2_with fail
    go_ret
    exact ⟨by first | rfl | simp [*], HB.out⟩
set_option maxHeartbeats 4000000 in
theorem rfieldRight_any (F : Fld) (w : World) (h : FldOk w F) : Calls Tryz.prog 16 #[.agg F.cells] w fun e w' => e = .returned (.bool (rightF F)) ∧ Below w.heap.size w w' := by
  obtain ⟨b1, b2, b3, b4, b5, b6, b7, e1, e2, e3, e4, e5, e6, e7, H⟩ := fieldCases F
  generalize hR : rightF F = R at *
  have HO := Lib.hid h.holds
  have hbig := h.big
  have hbig2 : F.hn ≤ 9223372036854775807 := Nat.le_trans h.le h.big.2
  clear h
  rcases H with H | H | H | H | H | H | H | H | H | H
  · obtain ⟨rfl, rfl⟩ := H
    clear hR
    go_enter Tryz.func16, Tryz.ntmps16
    go_upto_region 1 with fail
    refine region_seq ?_
    repeat (go_big_quiet_step ((first | (go_at_call 35; exact quiet_call (by simp) (rname_at e1 hbig.1 _)) | (go_at_call 36; exact quiet_call (by simp) (ris_at e2 _)))))
    refine wpQuiet_nil ?_
    intro w1 hb1
    have r1 : rowAt w1 w.heap.size = some (F.cells, 58) := rowKeep hb1 (rowAt_alloc_at _ _ _ _ rfl)
    have n1 := rowAt_lt r1
    have c1 : w1.cell? ⟨w.heap.size, 1, none⟩ = some (.int .i64 F.kind) := by rw [cell_of_rowAt r1]; exact F.get1
    have c5 : w1.cell? ⟨w.heap.size, 586, none⟩ = some (.slice F.hA F.hn F.hc) := by rw [cell_of_rowAt r1]; exact F.get586
    have HH := Lib.hid (HO.out.below (bthen (below_allocS (Below.refl _ _) _) hb1))
    have HB := Lib.hid (bthen (below_allocS (Below.refl _ _) _) hb1)
    clear hb1 HO
    go_wp2_with fail
    go_ret
    exact ⟨by first | rfl | simp [*], HB.out⟩
  · obtain ⟨rfl, g1, rfl⟩ := H
    clear hR
    go_enter Tryz.func16, Tryz.ntmps16
    go_upto_region 1 with fail
    refine region_seq ?_
    repeat (go_big_quiet_step ((first | (go_at_call 35; exact quiet_call (by simp) (rname_at e1 hbig.1 _)) | (go_at_call 36; exact quiet_call (by simp) (ris_at e2 _)))))
    refine wpQuiet_nil ?_
    intro w1 hb1
    have r1 : rowAt w1 w.heap.size = some (F.cells, 58) := rowKeep hb1 (rowAt_alloc_at _ _ _ _ rfl)
    have n1 := rowAt_lt r1
    have c1 : w1.cell? ⟨w.heap.size, 1, none⟩ = some (.int .i64 F.kind) := by rw [cell_of_rowAt r1]; exact F.get1
    have c5 : w1.cell? ⟨w.heap.size, 586, none⟩ = some (.slice F.hA F.hn F.hc) := by rw [cell_of_rowAt r1]; exact F.get586
    have HH := Lib.hid (HO.out.below (bthen (below_allocS (Below.refl _ _) _) hb1))
    have HB := Lib.hid (bthen (below_allocS (Below.refl _ _) _) hb1)
    clear hb1 HO
    go_wp2_with fail
    go_ret
    exact ⟨by first | rfl | simp [*], HB.out⟩
  · obtain ⟨rfl, g1, rfl, rfl⟩ := H
    clear hR
    go_enter Tryz.func16, Tryz.ntmps16
    go_upto_region 1 with fail
    refine region_seq ?_
    repeat (go_big_quiet_step ((first | (go_at_call 35; exact quiet_call (by simp) (rname_at e1 hbig.1 _)) | (go_at_call 36; exact quiet_call (by simp) (ris_at e2 _)))))
    refine wpQuiet_nil ?_
    intro w1 hb1
    have r1 : rowAt w1 w.heap.size = some (F.cells, 58) := rowKeep hb1 (rowAt_alloc_at _ _ _ _ rfl)
    have n1 := rowAt_lt r1
    have c1 : w1.cell? ⟨w.heap.size, 1, none⟩ = some (.int .i64 F.kind) := by rw [cell_of_rowAt r1]; exact F.get1
    have c5 : w1.cell? ⟨w.heap.size, 586, none⟩ = some (.slice F.hA F.hn F.hc) := by rw [cell_of_rowAt r1]; exact F.get586
    have HH := Lib.hid (HO.out.below (bthen (below_allocS (Below.refl _ _) _) hb1))
    have HB := Lib.hid (bthen (below_allocS (Below.refl _ _) _) hb1)
    clear hb1 HO
    go_wp2_with fail
    go_ret
    exact ⟨by first | rfl | simp [*], HB.out⟩
  · obtain ⟨rfl, g1, rfl, g2, rfl, rfl⟩ := H
    clear hR
    go_enter Tryz.func16, Tryz.ntmps16
    go_upto_region 1 with fail
    refine region_seq ?_
    repeat (go_big_quiet_step ((first | (go_at_call 35; exact quiet_call (by simp) (rname_at e1 hbig.1 _)) | (go_at_call 36; exact quiet_call (by simp) (ris_at e2 _)))))
    refine wpQuiet_nil ?_
    intro w1 hb1
    have r1 : rowAt w1 w.heap.size = some (F.cells, 58) := rowKeep hb1 (rowAt_alloc_at _ _ _ _ rfl)
    have n1 := rowAt_lt r1
    have c1 : w1.cell? ⟨w.heap.size, 1, none⟩ = some (.int .i64 F.kind) := by rw [cell_of_rowAt r1]; exact F.get1
    have c5 : w1.cell? ⟨w.heap.size, 586, none⟩ = some (.slice F.hA F.hn F.hc) := by rw [cell_of_rowAt r1]; exact F.get586
    have HH := Lib.hid (HO.out.below (bthen (below_allocS (Below.refl _ _) _) hb1))
    have HB := Lib.hid (bthen (below_allocS (Below.refl _ _) _) hb1)
    clear hb1 HO
    go_upto_region 4 with fail
    refine region_seq ?_
    repeat (go_big_quiet_step ((first | (go_at_call 37; exact quiet_call (by simp) (crrightF_at e3 _)) | (go_at_call 38; exact quiet_call (by simp) (rholdRights_at e4 (HH.out.below (Later.below _)) hbig2)))))
    refine wpQuiet_nil ?_
    intro w2 hb2
    have HB2 := Lib.hid (bthen HB.out hb2)
    clear hb2
    go_wp2_with fail
    go_ret
    exact ⟨by first | rfl | simp [*], HB2.out⟩
  · obtain ⟨rfl, g1, rfl, g2, rfl, rfl, rfl⟩ := H
    clear hR
    go_enter Tryz.func16, Tryz.ntmps16
    go_upto_region 1 with fail
    refine region_seq ?_
    repeat (go_big_quiet_step ((first | (go_at_call 35; exact quiet_call (by simp) (rname_at e1 hbig.1 _)) | (go_at_call 36; exact quiet_call (by simp) (ris_at e2 _)))))
    refine wpQuiet_nil ?_
    intro w1 hb1
    have r1 : rowAt w1 w.heap.size = some (F.cells, 58) := rowKeep hb1 (rowAt_alloc_at _ _ _ _ rfl)
    have n1 := rowAt_lt r1
    have c1 : w1.cell? ⟨w.heap.size, 1, none⟩ = some (.int .i64 F.kind) := by rw [cell_of_rowAt r1]; exact F.get1
    have c5 : w1.cell? ⟨w.heap.size, 586, none⟩ = some (.slice F.hA F.hn F.hc) := by rw [cell_of_rowAt r1]; exact F.get586
    have HH := Lib.hid (HO.out.below (bthen (below_allocS (Below.refl _ _) _) hb1))
    have HB := Lib.hid (bthen (below_allocS (Below.refl _ _) _) hb1)
    clear hb1 HO
    go_upto_region 4 with fail
    refine region_seq ?_
    repeat (go_big_quiet_step ((first | (go_at_call 37; exact quiet_call (by simp) (crrightF_at e3 _)) | (go_at_call 38; exact quiet_call (by simp) (rholdRights_at e4 (HH.out.below (Later.below _)) hbig2)))))
    refine wpQuiet_nil ?_
    intro w2 hb2
    have HB2 := Lib.hid (bthen HB.out hb2)
    clear hb2
    go_wp2_with fail
    go_ret
    exact ⟨by first | rfl | simp [*], HB2.out⟩
  · obtain ⟨rfl, g1, rfl, g2, rfl, rfl, rfl⟩ := H
    clear hR
    go_enter Tryz.func16, Tryz.ntmps16
    go_upto_region 1 with fail
    refine region_seq ?_
    repeat (go_big_quiet_step ((first | (go_at_call 35; exact quiet_call (by simp) (rname_at e1 hbig.1 _)) | (go_at_call 36; exact quiet_call (by simp) (ris_at e2 _)))))
    refine wpQuiet_nil ?_
    intro w1 hb1
    have r1 : rowAt w1 w.heap.size = some (F.cells, 58) := rowKeep hb1 (rowAt_alloc_at _ _ _ _ rfl)
    have n1 := rowAt_lt r1
    have c1 : w1.cell? ⟨w.heap.size, 1, none⟩ = some (.int .i64 F.kind) := by rw [cell_of_rowAt r1]; exact F.get1
    have c5 : w1.cell? ⟨w.heap.size, 586, none⟩ = some (.slice F.hA F.hn F.hc) := by rw [cell_of_rowAt r1]; exact F.get586
    have HH := Lib.hid (HO.out.below (bthen (below_allocS (Below.refl _ _) _) hb1))
    have HB := Lib.hid (bthen (below_allocS (Below.refl _ _) _) hb1)
    clear hb1 HO
    go_upto_region 4 with fail
    refine region_seq ?_
    repeat (go_big_quiet_step ((first | (go_at_call 37; exact quiet_call (by simp) (crrightF_at e3 _)) | (go_at_call 38; exact quiet_call (by simp) (rholdRights_at e4 (HH.out.below (Later.below _)) hbig2)))))
    refine wpQuiet_nil ?_
    intro w2 hb2
    have HB2 := Lib.hid (bthen HB.out hb2)
    clear hb2
    go_wp2_with fail
    go_ret
    exact ⟨by first | rfl | simp [*], HB2.out⟩
  · obtain ⟨rfl, g1, rfl, g2, rfl, rfl⟩ := H
    clear hR
    go_enter Tryz.func16, Tryz.ntmps16
    go_upto_region 1 with fail
    refine region_seq ?_
    repeat (go_big_quiet_step ((first | (go_at_call 35; exact quiet_call (by simp) (rname_at e1 hbig.1 _)) | (go_at_call 36; exact quiet_call (by simp) (ris_at e2 _)))))
    refine wpQuiet_nil ?_
    intro w1 hb1
    have r1 : rowAt w1 w.heap.size = some (F.cells, 58) := rowKeep hb1 (rowAt_alloc_at _ _ _ _ rfl)
    have n1 := rowAt_lt r1
    have c1 : w1.cell? ⟨w.heap.size, 1, none⟩ = some (.int .i64 F.kind) := by rw [cell_of_rowAt r1]; exact F.get1
    have c5 : w1.cell? ⟨w.heap.size, 586, none⟩ = some (.slice F.hA F.hn F.hc) := by rw [cell_of_rowAt r1]; exact F.get586
    have HH := Lib.hid (HO.out.below (bthen (below_allocS (Below.refl _ _) _) hb1))
    have HB := Lib.hid (bthen (below_allocS (Below.refl _ _) _) hb1)
    clear hb1 HO
    go_upto_region 5 with fail
    refine region_seq ?_
    repeat (go_big_quiet_step ((go_at_call 39; exact quiet_call (by simp) (rlockRight_at e6 _))))
    refine wpQuiet_nil ?_
    intro w2 hb2
    have HB2 := Lib.hid (bthen HB.out hb2)
    clear hb2
    go_wp2_with fail
    go_ret
    exact ⟨by first | rfl | simp [*], HB2.out⟩
  · obtain ⟨rfl, g1, rfl, g2, rfl, g3, rfl⟩ := H
    clear hR
    have g4 : decide ((F.hn : Int) = 0) = decide (F.hn = 0) := decide_eq_decide.2 (by omega)
    have g5 : ((F.hn : Int) == 0) = false := beq_eq_false_iff_ne.2 (by omega)
    go_enter Tryz.func16, Tryz.ntmps16
    go_upto_region 1 with fail
    refine region_seq ?_
    repeat (go_big_quiet_step ((first | (go_at_call 35; exact quiet_call (by simp) (rname_at e1 hbig.1 _)) | (go_at_call 36; exact quiet_call (by simp) (ris_at e2 _)))))
    refine wpQuiet_nil ?_
    intro w1 hb1
    have r1 : rowAt w1 w.heap.size = some (F.cells, 58) := rowKeep hb1 (rowAt_alloc_at _ _ _ _ rfl)
    have n1 := rowAt_lt r1
    have c1 : w1.cell? ⟨w.heap.size, 1, none⟩ = some (.int .i64 F.kind) := by rw [cell_of_rowAt r1]; exact F.get1
    have c5 : w1.cell? ⟨w.heap.size, 586, none⟩ = some (.slice F.hA F.hn F.hc) := by rw [cell_of_rowAt r1]; exact F.get586
    have HH := Lib.hid (HO.out.below (bthen (below_allocS (Below.refl _ _) _) hb1))
    have HB := Lib.hid (bthen (below_allocS (Below.refl _ _) _) hb1)
    clear hb1 HO
    go_upto_region 5 with fail
    refine region_seq ?_
    repeat (go_big_quiet_step ((go_at_call 39; exact quiet_call (by simp) (rlockRight_at e6 _))))
    refine wpQuiet_nil ?_
    intro w2 hb2
    have HB2 := Lib.hid (bthen HB.out hb2)
    clear hb2
    go_wp2_with fail
    go_ret
    exact ⟨by first | rfl | simp [*], HB2.out⟩
  · obtain ⟨rfl, g1, rfl, g2, rfl, g3, rfl⟩ := H
    clear hR
    have g4 : decide ((F.hn : Int) = 0) = decide (F.hn = 0) := decide_eq_decide.2 (by omega)
    go_enter Tryz.func16, Tryz.ntmps16
    go_upto_region 1 with fail
    refine region_seq ?_
    repeat (go_big_quiet_step ((first | (go_at_call 35; exact quiet_call (by simp) (rname_at e1 hbig.1 _)) | (go_at_call 36; exact quiet_call (by simp) (ris_at e2 _)))))
    refine wpQuiet_nil ?_
    intro w1 hb1
    have r1 : rowAt w1 w.heap.size = some (F.cells, 58) := rowKeep hb1 (rowAt_alloc_at _ _ _ _ rfl)
    have n1 := rowAt_lt r1
    have c1 : w1.cell? ⟨w.heap.size, 1, none⟩ = some (.int .i64 F.kind) := by rw [cell_of_rowAt r1]; exact F.get1
    have c5 : w1.cell? ⟨w.heap.size, 586, none⟩ = some (.slice F.hA F.hn F.hc) := by rw [cell_of_rowAt r1]; exact F.get586
    have HH := Lib.hid (HO.out.below (bthen (below_allocS (Below.refl _ _) _) hb1))
    have HB := Lib.hid (bthen (below_allocS (Below.refl _ _) _) hb1)
    clear hb1 HO
    go_upto_region 5 with fail
    refine region_seq ?_
    repeat (go_big_quiet_step ((go_at_call 39; exact quiet_call (by simp) (rlockRight_at e6 _))))
    refine wpQuiet_nil ?_
    intro w2 hb2
    have HB2 := Lib.hid (bthen HB.out hb2)
    clear hb2
    go_wp2_with fail
    go_ret
    exact ⟨by first | rfl | simp [*], HB2.out⟩
  · obtain ⟨rfl, g1, rfl, g2, g3, rfl⟩ := H
    clear hR
    have g5 : (F.kind == 2) = false := beq_eq_false_iff_ne.2 g3
    go_enter Tryz.func16, Tryz.ntmps16
    go_upto_region 1 with fail
    refine region_seq ?_
    repeat (go_big_quiet_step ((first | (go_at_call 35; exact quiet_call (by simp) (rname_at e1 hbig.1 _)) | (go_at_call 36; exact quiet_call (by simp) (ris_at e2 _)))))
    refine wpQuiet_nil ?_
    intro w1 hb1
    have r1 : rowAt w1 w.heap.size = some (F.cells, 58) := rowKeep hb1 (rowAt_alloc_at _ _ _ _ rfl)
    have n1 := rowAt_lt r1
    have c1 : w1.cell? ⟨w.heap.size, 1, none⟩ = some (.int .i64 F.kind) := by rw [cell_of_rowAt r1]; exact F.get1
    have c5 : w1.cell? ⟨w.heap.size, 586, none⟩ = some (.slice F.hA F.hn F.hc) := by rw [cell_of_rowAt r1]; exact F.get586
    have HH := Lib.hid (HO.out.below (bthen (below_allocS (Below.refl _ _) _) hb1))
    have HB := Lib.hid (bthen (below_allocS (Below.refl _ _) _) hb1)
    clear hb1 HO
    go_upto_region 5 with fail
    refine region_seq ?_
    repeat (go_big_quiet_step ((go_at_call 39; exact quiet_call (by simp) (rlockRight_at e6 _))))
    refine wpQuiet_nil ?_
    intro w2 hb2
    have HB2 := Lib.hid (bthen HB.out hb2)
    clear hb2
    go_wp2_with fail
    go_ret
    exact ⟨by first | rfl | simp [*], HB2.out⟩
end Go.Proofs.YtinhaipnmmgplaaGreat
