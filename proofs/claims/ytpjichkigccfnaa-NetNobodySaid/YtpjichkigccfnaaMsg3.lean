/-
  Layer 14 (message): the want's bytes are read.
-/
import Derived.Test.YtpjichkigccfnaaMsg2
namespace Go.Proofs.Ytpjichkigccfnaa
set_option maxRecDepth 20000
open Go.RowKit
set_option linter.unusedSimpArgs false
attribute [local go_sem] rowCells rowAt_drewN get_ints getE_ints set_ints size_ints rowAt_alloc rowAt_drew setRow_alloc setRow_drewN setRow_drew setCell_alloc setCell_drewN splice_upd splice_put splice_all load_vec_cut load_vecs_cut load_rights_cut load_counter store_vec store_rights store_counter eql_vec neq_vec index_vec eql_rights neq_rights eql_counter index_vecs cut_ints sub_zero
attribute [local go_sem ↓] xload_vec xstore_vec xalloc_vec xeql_vec xneq_vec xindex_vec xbuild_vec0 xload_rights xstore_rights xalloc_rights xeql_rights xneq_rights xbuild_rights0 xload_vecs xindex_vecs xload_counter xstore_counter xalloc_counter xbuild_counter0 xeql_counter xbuild_counter3
attribute [local go_sem] rowAt_setRow rowAt_setCell load_vec_cut_later load_rights_later load_counter_later Later.cell Later.frozen build3_ints
attribute [local go_sem ↓] xload_field xstore_field xalloc_field xload_lock
attribute [local go_sem] load_field load_field_later store_field load_counter_cut load_lock_cut load_lock_later Fld.size Fld.get0 Fld.get1 Fld.get2 Fld.get586 Fld.getE0 Fld.getE1 Fld.getE2 Fld.getE586 Fld.cut_cnt Fld.cut_lock Fld.cut_all Fld.splice_all strT_size
def ptrsC (q : Nat) : Array Value := #[.pointer (some ⟨q, 0, none⟩), .pointer (some ⟨q, 1, none⟩), .pointer (some ⟨q, 2, none⟩), .pointer (some ⟨q, 3, none⟩), .pointer (some ⟨q, 4, none⟩)]
def msgK (k : Nat) : Array Value := msgC (if 0 < k then 5 else 0) 0 (if 2 < k then 1 else 0) (if 3 < k then 3 else 0) 0
theorem new_len {A : Option Addr} {c n : Nat} {l : List UInt8} {w : World} (hl : IsBy w A l) (hA : A = none → c = 0) (hlen : l.length ≤ 70368744177664) (hn : n = l.length) :
    Calls Try.prog 35 #[.slice A n c] w fun e w' => ∃ p, e = .returned (.pointer (some ⟨p, 0, none⟩)) ∧ Rd w' p l 0 ∧ w.heap.size ≤ p ∧ Below w.heap.size w w' := by
  subst hn
  exact new_any A c l w hl hA hlen
theorem fields_nil (p : Nat) (v : Int) (w : World) (h : Rd w p [0] 0) : Calls Try.prog 38 #[.pointer (some ⟨p, 0, none⟩), .int .i64 v] w fun e w' => e = .returned (.tuple #[.slice none 0 0, .int .i64 0]) ∧ Rd w' p [] 0 ∧ Only p w w' := by
  have HR := Lib.hid h
  clear h
  go_enter Try.func38, Try.ntmps38
  go_wp2_with fail
  refine (count_only (n := 0) (m := 4) (r := []) HR.out (by decide) (by decide +kernel) (by decide) (by decide)).mono ?_
  rintro e w1 ⟨rfl, hr, ho⟩
  have HR1 := Lib.hid hr
  have HO := Lib.hid ho
  clear hr ho HR
  go_wp2_with fail
  go_loopw [6, 14] (fun v i w' => v = .slice none 0 0 ∧ i = .int .i64 0 ∧ w' = w1) (fun _ _ _ => 0)
  case atStart => exact ⟨rfl, rfl, rfl⟩
  case round =>
    obtain ⟨rfl, rfl, rfl⟩ := hrel
    go_wp2_with (go_at_call 61; refine (err_any HR1.out).mono ?_; rintro e w' ⟨rfl, rfl⟩)
    go_ret2
    exact ⟨rfl, HR1.out, HO.out⟩
theorem set12 {w : World} {g : Nat} {a0 a1 a2 a3 a4 a5 a6 a7 a8 a9 a10 a11 v0 v1 v2 v3 v4 v5 v6 v7 v8 v9 v10 v11 : Value} (h : rowAt w g = some (#[a0, a1, a2, a3, a4, a5, a6, a7, a8, a9, a10, a11], 26)) : rowAt ((((((((((((w.setCell ⟨g, 0, none⟩ v0).setCell ⟨g, 1, none⟩ v1).setCell ⟨g, 2, none⟩ v2).setCell ⟨g, 3, none⟩ v3).setCell ⟨g, 4, none⟩ v4).setCell ⟨g, 5, none⟩ v5).setCell ⟨g, 6, none⟩ v6).setCell ⟨g, 7, none⟩ v7).setCell ⟨g, 8, none⟩ v8).setCell ⟨g, 9, none⟩ v9).setCell ⟨g, 10, none⟩ v10).setCell ⟨g, 11, none⟩ v11) g = some (#[v0, v1, v2, v3, v4, v5, v6, v7, v8, v9, v10, v11], 26) := by
  simp only [rowAt_setCell, if_true, h, Option.map_some, List.setIfInBounds_toArray, List.set_cons_succ, List.set_cons_zero]
theorem load_msg_row {w : World} {g : Nat} {c : Array Value} {t : TypeId} (h : rowAt w g = some (c, t)) (hc : c.size = 12) : loadAgg Try.prog w 26 (.pointer (some ⟨g, 0, none⟩)) = .ok (.value (.agg c)) w := by
  rw [loadAgg_row (n := 12) Try.underlying26 rfl (by kernel_rfl) (by rw [h]; rfl) (by simp [rowCells, h, hc])]
  congr 3
  simp [rowCells, h, ← hc]
set_option maxHeartbeats 1000000 in
theorem decode_want (A : Option Addr) (c : Nat) (w : World) (hI : IsBy w A wantB) (hN : A = none → c = 0) : Calls Try.prog 14 #[.slice A 7 c] w fun e w' => e = .returned (.tuple #[.agg (msgC 5 0 1 3 0), .int .i64 0]) ∧ Below w.heap.size w w' := by
  have HI := Lib.hid (fun o => hI.alloc o)
  clear hI
  go_enter Try.func14, Try.ntmps14
  go_wp2_with fail
  refine (new_len (HI.out _) hN (by decide) (by decide)).mono ?_
  rintro e w1 ⟨p, rfl, hr, hp, hb⟩
  have r0 : rowAt w1 w.heap.size = some (msgK 0, 26) := rowKeep hb (rowAt_alloc_at _ _ _ _ rfl)
  have hp1 : w.heap.size < p := by have := hp; simp at this; omega
  have hp2 := hr.lt
  have HR := Lib.hid hr
  have HB1 := Lib.hid (bthen (below_allocS (Below.refl _ _) _) hb)
  clear hr hb hp
  have hq1 : w.heap.size ≠ w1.heap.size := by omega
  have S0 : ∀ W : World, W = (w1.alloc (.cells (msgK 0) 26)).alloc (.cells (ptrsC w1.heap.size) 75) → Rd W p (wantB.drop 0) 0 ∧ rowAt W w1.heap.size = some (msgK 0, 26) ∧ rowAt W (w1.heap.size + 1) = some (ptrsC w1.heap.size, 75) ∧ rowAt W w.heap.size = some (msgK 0, 26) ∧ Below w.heap.size w W := by
    rintro W rfl
    refine ⟨HR.out.below (B := w1.heap.size) (((Below.refl _ _).alloc (Nat.le_refl _) _).alloc (by simp) _) hp2, rowPast (rowAt_alloc_at _ _ _ _ rfl), rowAt_alloc_at _ _ _ _ (by simp), rowPast (rowPast r0), below_allocS (below_allocS HB1.out _) _⟩
  have HS0 := Lib.hid S0
  clear S0
  go_wp2_with fail
  go_loopw [20] (fun i w' => ∃ k : Nat, k ≤ 5 ∧ i = .int .i64 k ∧ Rd w' p (wantB.drop k) 0 ∧ rowAt w' w1.heap.size = some (msgK k, 26) ∧ rowAt w' (w1.heap.size + 1) = some (ptrsC w1.heap.size, 75) ∧ rowAt w' w.heap.size = some (msgK 0, 26) ∧ Below w.heap.size w w') (fun i _ => 5 - (intOf i).toNat)
  case atStart => exact ⟨0, by omega, rfl, HS0.out _ rfl⟩
  case round =>
    rename_i wr
    obtain ⟨k, hk, rfl, hr, s1, s2, s3, hb⟩ := hrel
    have HRr := Lib.hid hr
    have HBr := Lib.hid hb
    clear hr hb HS0 HR HB1 r0
    have hk2 : k = 0 ∨ k = 1 ∨ k = 2 ∨ k = 3 ∨ k = 4 ∨ k = 5 := by omega
    clear hk
    rcases hk2 with rfl | rfl | rfl | rfl | rfl | rfl
    · have c1 : wr.cell? ⟨w1.heap.size + 1, 0, none⟩ = some (.pointer (some ⟨w1.heap.size, 0, none⟩)) := by rw [cell_of_rowAt s2]; rfl
      go_wp2_with fail
      refine (rnum_iso (n := 5) (e' := 0) (l' := wantB.drop 1) HRr.out (by decide) (by decide +kernel)).mono ?_
      rintro e w2 ⟨rfl, hr, ho⟩
      have t1 := ho.row (by omega : w1.heap.size ≠ p) s1
      have t2 := ho.row (by omega : w1.heap.size + 1 ≠ p) s2
      have t3 := ho.row (by omega : w.heap.size ≠ p) s3
      have f1 := frozen_of_rowAt t1 0
      have g1 : w2.cell? ⟨w1.heap.size, 0, none⟩ = some (.int .i64 0) := by rw [cell_of_rowAt t1]; rfl
      have HW : Hid (Rd (w2.setCell ⟨w1.heap.size, 0, none⟩ (.int .i64 5)) p (wantB.drop 1) 0 ∧ rowAt (w2.setCell ⟨w1.heap.size, 0, none⟩ (.int .i64 5)) w1.heap.size = some (msgK 1, 26) ∧ rowAt (w2.setCell ⟨w1.heap.size, 0, none⟩ (.int .i64 5)) (w1.heap.size + 1) = some (ptrsC w1.heap.size, 75) ∧ rowAt (w2.setCell ⟨w1.heap.size, 0, none⟩ (.int .i64 5)) w.heap.size = some (msgK 0, 26) ∧ Below w.heap.size w (w2.setCell ⟨w1.heap.size, 0, none⟩ (.int .i64 5))) :=
        Lib.hid ⟨hr.below (B := w1.heap.size) (below_setCell' (Below.refl _ _) (Nat.le_refl _)) hp2, by rw [rowAt_setCell, if_pos rfl, t1]; rfl, by rw [rowAt_setCell, if_neg (by omega)]; exact t2, by rw [rowAt_setCell, if_neg hq1]; exact t3, below_setCell' (HBr.out.trans (ho.2.1.mono (by omega))) (by omega)⟩
      clear hr ho t1 t2 t3 s1 s2 s3 c1 HBr HRr
      go_wp2_with fail
      go_roundw
      case rel => exact ⟨1, by omega, by go_num, HW.out⟩
      case measure => simp [intOf]
    · have c1 : wr.cell? ⟨w1.heap.size + 1, 1, none⟩ = some (.pointer (some ⟨w1.heap.size, 1, none⟩)) := by rw [cell_of_rowAt s2]; rfl
      go_wp2_with fail
      refine (rnum_iso (n := 0) (e' := 0) (l' := wantB.drop 2) HRr.out (by decide) (by decide +kernel)).mono ?_
      rintro e w2 ⟨rfl, hr, ho⟩
      have t1 := ho.row (by omega : w1.heap.size ≠ p) s1
      have t2 := ho.row (by omega : w1.heap.size + 1 ≠ p) s2
      have t3 := ho.row (by omega : w.heap.size ≠ p) s3
      have f1 := frozen_of_rowAt t1 1
      have g1 : w2.cell? ⟨w1.heap.size, 1, none⟩ = some (.int .i64 0) := by rw [cell_of_rowAt t1]; rfl
      have HW : Hid (Rd (w2.setCell ⟨w1.heap.size, 1, none⟩ (.int .i64 0)) p (wantB.drop 2) 0 ∧ rowAt (w2.setCell ⟨w1.heap.size, 1, none⟩ (.int .i64 0)) w1.heap.size = some (msgK 2, 26) ∧ rowAt (w2.setCell ⟨w1.heap.size, 1, none⟩ (.int .i64 0)) (w1.heap.size + 1) = some (ptrsC w1.heap.size, 75) ∧ rowAt (w2.setCell ⟨w1.heap.size, 1, none⟩ (.int .i64 0)) w.heap.size = some (msgK 0, 26) ∧ Below w.heap.size w (w2.setCell ⟨w1.heap.size, 1, none⟩ (.int .i64 0))) :=
        Lib.hid ⟨hr.below (B := w1.heap.size) (below_setCell' (Below.refl _ _) (Nat.le_refl _)) hp2, by rw [rowAt_setCell, if_pos rfl, t1]; rfl, by rw [rowAt_setCell, if_neg (by omega)]; exact t2, by rw [rowAt_setCell, if_neg hq1]; exact t3, below_setCell' (HBr.out.trans (ho.2.1.mono (by omega))) (by omega)⟩
      clear hr ho t1 t2 t3 s1 s2 s3 c1 HBr HRr
      go_wp2_with fail
      go_roundw
      case rel => exact ⟨2, by omega, by go_num, HW.out⟩
      case measure => simp [intOf]
    · have c1 : wr.cell? ⟨w1.heap.size + 1, 2, none⟩ = some (.pointer (some ⟨w1.heap.size, 2, none⟩)) := by rw [cell_of_rowAt s2]; rfl
      go_wp2_with fail
      refine (rnum_iso (n := 1) (e' := 0) (l' := wantB.drop 3) HRr.out (by decide) (by decide +kernel)).mono ?_
      rintro e w2 ⟨rfl, hr, ho⟩
      have t1 := ho.row (by omega : w1.heap.size ≠ p) s1
      have t2 := ho.row (by omega : w1.heap.size + 1 ≠ p) s2
      have t3 := ho.row (by omega : w.heap.size ≠ p) s3
      have f1 := frozen_of_rowAt t1 2
      have g1 : w2.cell? ⟨w1.heap.size, 2, none⟩ = some (.int .i64 0) := by rw [cell_of_rowAt t1]; rfl
      have HW : Hid (Rd (w2.setCell ⟨w1.heap.size, 2, none⟩ (.int .i64 1)) p (wantB.drop 3) 0 ∧ rowAt (w2.setCell ⟨w1.heap.size, 2, none⟩ (.int .i64 1)) w1.heap.size = some (msgK 3, 26) ∧ rowAt (w2.setCell ⟨w1.heap.size, 2, none⟩ (.int .i64 1)) (w1.heap.size + 1) = some (ptrsC w1.heap.size, 75) ∧ rowAt (w2.setCell ⟨w1.heap.size, 2, none⟩ (.int .i64 1)) w.heap.size = some (msgK 0, 26) ∧ Below w.heap.size w (w2.setCell ⟨w1.heap.size, 2, none⟩ (.int .i64 1))) :=
        Lib.hid ⟨hr.below (B := w1.heap.size) (below_setCell' (Below.refl _ _) (Nat.le_refl _)) hp2, by rw [rowAt_setCell, if_pos rfl, t1]; rfl, by rw [rowAt_setCell, if_neg (by omega)]; exact t2, by rw [rowAt_setCell, if_neg hq1]; exact t3, below_setCell' (HBr.out.trans (ho.2.1.mono (by omega))) (by omega)⟩
      clear hr ho t1 t2 t3 s1 s2 s3 c1 HBr HRr
      go_wp2_with fail
      go_roundw
      case rel => exact ⟨3, by omega, by go_num, HW.out⟩
      case measure => simp [intOf]
    · have c1 : wr.cell? ⟨w1.heap.size + 1, 3, none⟩ = some (.pointer (some ⟨w1.heap.size, 3, none⟩)) := by rw [cell_of_rowAt s2]; rfl
      go_wp2_with fail
      refine (rnum_iso (n := 3) (e' := 0) (l' := wantB.drop 4) HRr.out (by decide) (by decide +kernel)).mono ?_
      rintro e w2 ⟨rfl, hr, ho⟩
      have t1 := ho.row (by omega : w1.heap.size ≠ p) s1
      have t2 := ho.row (by omega : w1.heap.size + 1 ≠ p) s2
      have t3 := ho.row (by omega : w.heap.size ≠ p) s3
      have f1 := frozen_of_rowAt t1 3
      have g1 : w2.cell? ⟨w1.heap.size, 3, none⟩ = some (.int .i64 0) := by rw [cell_of_rowAt t1]; rfl
      have HW : Hid (Rd (w2.setCell ⟨w1.heap.size, 3, none⟩ (.int .i64 3)) p (wantB.drop 4) 0 ∧ rowAt (w2.setCell ⟨w1.heap.size, 3, none⟩ (.int .i64 3)) w1.heap.size = some (msgK 4, 26) ∧ rowAt (w2.setCell ⟨w1.heap.size, 3, none⟩ (.int .i64 3)) (w1.heap.size + 1) = some (ptrsC w1.heap.size, 75) ∧ rowAt (w2.setCell ⟨w1.heap.size, 3, none⟩ (.int .i64 3)) w.heap.size = some (msgK 0, 26) ∧ Below w.heap.size w (w2.setCell ⟨w1.heap.size, 3, none⟩ (.int .i64 3))) :=
        Lib.hid ⟨hr.below (B := w1.heap.size) (below_setCell' (Below.refl _ _) (Nat.le_refl _)) hp2, by rw [rowAt_setCell, if_pos rfl, t1]; rfl, by rw [rowAt_setCell, if_neg (by omega)]; exact t2, by rw [rowAt_setCell, if_neg hq1]; exact t3, below_setCell' (HBr.out.trans (ho.2.1.mono (by omega))) (by omega)⟩
      clear hr ho t1 t2 t3 s1 s2 s3 c1 HBr HRr
      go_wp2_with fail
      go_roundw
      case rel => exact ⟨4, by omega, by go_num, HW.out⟩
      case measure => simp [intOf]
    · have c1 : wr.cell? ⟨w1.heap.size + 1, 4, none⟩ = some (.pointer (some ⟨w1.heap.size, 4, none⟩)) := by rw [cell_of_rowAt s2]; rfl
      go_wp2_with fail
      refine (rnum_iso (n := 0) (e' := 0) (l' := wantB.drop 5) HRr.out (by decide) (by decide +kernel)).mono ?_
      rintro e w2 ⟨rfl, hr, ho⟩
      have t1 := ho.row (by omega : w1.heap.size ≠ p) s1
      have t2 := ho.row (by omega : w1.heap.size + 1 ≠ p) s2
      have t3 := ho.row (by omega : w.heap.size ≠ p) s3
      have f1 := frozen_of_rowAt t1 4
      have g1 : w2.cell? ⟨w1.heap.size, 4, none⟩ = some (.int .i64 0) := by rw [cell_of_rowAt t1]; rfl
      have HW : Hid (Rd (w2.setCell ⟨w1.heap.size, 4, none⟩ (.int .i64 0)) p (wantB.drop 5) 0 ∧ rowAt (w2.setCell ⟨w1.heap.size, 4, none⟩ (.int .i64 0)) w1.heap.size = some (msgK 5, 26) ∧ rowAt (w2.setCell ⟨w1.heap.size, 4, none⟩ (.int .i64 0)) (w1.heap.size + 1) = some (ptrsC w1.heap.size, 75) ∧ rowAt (w2.setCell ⟨w1.heap.size, 4, none⟩ (.int .i64 0)) w.heap.size = some (msgK 0, 26) ∧ Below w.heap.size w (w2.setCell ⟨w1.heap.size, 4, none⟩ (.int .i64 0))) :=
        Lib.hid ⟨hr.below (B := w1.heap.size) (below_setCell' (Below.refl _ _) (Nat.le_refl _)) hp2, by rw [rowAt_setCell, if_pos rfl, t1]; rfl, by rw [rowAt_setCell, if_neg (by omega)]; exact t2, by rw [rowAt_setCell, if_neg hq1]; exact t3, below_setCell' (HBr.out.trans (ho.2.1.mono (by omega))) (by omega)⟩
      clear hr ho t1 t2 t3 s1 s2 s3 c1 HBr HRr
      go_wp2_with fail
      go_roundw
      case rel => exact ⟨5, by omega, by go_num, HW.out⟩
      case measure => simp [intOf]
    · go_wp2_with fail
      refine (count_only (n := 0) (m := 1) (r := [0]) HRr.out (by decide) (by decide +kernel) (by decide) (by decide)).mono ?_
      rintro e w2 ⟨rfl, hr, ho⟩
      have t1 := ho.row (by omega : w1.heap.size ≠ p) s1
      have t3 := ho.row (by omega : w.heap.size ≠ p) s3
      have f1 := frozen_of_rowAt t1 5
      have g1 : w2.cell? ⟨w1.heap.size, 5, none⟩ = some (.bool false) := by rw [cell_of_rowAt t1]; rfl
      have HW : Hid (Rd (w2.setCell ⟨w1.heap.size, 5, none⟩ (.bool false)) p [0] 0 ∧ rowAt (w2.setCell ⟨w1.heap.size, 5, none⟩ (.bool false)) w1.heap.size = some (msgK 5, 26) ∧ rowAt (w2.setCell ⟨w1.heap.size, 5, none⟩ (.bool false)) w.heap.size = some (msgK 0, 26) ∧ Below w.heap.size w (w2.setCell ⟨w1.heap.size, 5, none⟩ (.bool false))) :=
        Lib.hid ⟨hr.below (B := w1.heap.size) (below_setCell' (Below.refl _ _) (Nat.le_refl _)) hp2, by rw [rowAt_setCell, if_pos rfl, t1]; rfl, by rw [rowAt_setCell, if_neg hq1]; exact t3, below_setCell' (HBr.out.trans (ho.2.1.mono (by omega))) (by omega)⟩
      clear hr ho t1 t3 s1 s2 s3 HBr HRr
      obtain ⟨W2, hW2⟩ : ∃ W2, w2.setCell ⟨w1.heap.size, 5, none⟩ (.bool false) = W2 := ⟨_, rfl⟩
      rw [hW2] at HW
      obtain ⟨hr, t1, t3, hb⟩ := HW.out
      have HR2 := Lib.hid hr
      have HB2 := Lib.hid hb
      have g3 : W2.cell? ⟨w1.heap.size, 3, none⟩ = some (.int .i64 3) := by rw [cell_of_rowAt t1]; rfl
      clear HW hr hb
      go_wp2_with fail
      refine (fields_nil p 3 W2 HR2.out).mono ?_
      rintro e w3 ⟨rfl, hr, ho⟩
      have t4 := ho.row (by omega : w1.heap.size ≠ p) t1
      have t5 := ho.row (by omega : w.heap.size ≠ p) t3
      have f3 := frozen_of_rowAt t4 6
      have g4 : w3.cell? ⟨w1.heap.size, 6, none⟩ = some (.slice none 0 0) := by rw [cell_of_rowAt t4]; rfl
      have HW : Hid (Rd (w3.setCell ⟨w1.heap.size, 6, none⟩ (.slice none 0 0)) p [] 0 ∧ rowAt (w3.setCell ⟨w1.heap.size, 6, none⟩ (.slice none 0 0)) w1.heap.size = some (msgC 5 0 1 3 0, 26) ∧ rowAt (w3.setCell ⟨w1.heap.size, 6, none⟩ (.slice none 0 0)) w.heap.size = some (msgK 0, 26) ∧ Below w.heap.size w (w3.setCell ⟨w1.heap.size, 6, none⟩ (.slice none 0 0))) :=
        Lib.hid ⟨hr.below (B := w1.heap.size) (below_setCell' (Below.refl _ _) (Nat.le_refl _)) hp2, by rw [rowAt_setCell, if_pos rfl, t4]; rfl, by rw [rowAt_setCell, if_neg hq1]; exact t5, below_setCell' (HB2.out.trans (ho.2.1.mono (by omega))) (by omega)⟩
      clear hr ho t4 t5 t1 t3 HR2 HB2 g3 hW2 f1 g1
      obtain ⟨W3, hW3⟩ : ∃ W3, w3.setCell ⟨w1.heap.size, 6, none⟩ (.slice none 0 0) = W3 := ⟨_, rfl⟩
      rw [hW3] at HW
      obtain ⟨hr, t1, t3, hb⟩ := HW.out
      have HR3 := Lib.hid hr
      have HB3 := Lib.hid hb
      have n1 := rowAt_lt t1
      have g0 : W3.cell? ⟨w1.heap.size, 0, none⟩ = some (.int .i64 5) := by rw [cell_of_rowAt t1]; rfl
      have g1 : W3.cell? ⟨w1.heap.size, 1, none⟩ = some (.int .i64 0) := by rw [cell_of_rowAt t1]; rfl
      have g2 : W3.cell? ⟨w1.heap.size, 2, none⟩ = some (.int .i64 1) := by rw [cell_of_rowAt t1]; rfl
      have g3 : W3.cell? ⟨w1.heap.size, 3, none⟩ = some (.int .i64 3) := by rw [cell_of_rowAt t1]; rfl
      have g4 : W3.cell? ⟨w1.heap.size, 4, none⟩ = some (.int .i64 0) := by rw [cell_of_rowAt t1]; rfl
      have g5 : W3.cell? ⟨w1.heap.size, 5, none⟩ = some (.bool false) := by rw [cell_of_rowAt t1]; rfl
      have g6 : W3.cell? ⟨w1.heap.size, 6, none⟩ = some (.slice none 0 0) := by rw [cell_of_rowAt t1]; rfl
      have g7 : W3.cell? ⟨w1.heap.size, 7, none⟩ = some (.int .i64 0) := by rw [cell_of_rowAt t1]; rfl
      have g8 : W3.cell? ⟨w1.heap.size, 8, none⟩ = some (.string ByteArray.empty) := by rw [cell_of_rowAt t1]; rfl
      have g9 : W3.cell? ⟨w1.heap.size, 9, none⟩ = some (.string ByteArray.empty) := by rw [cell_of_rowAt t1]; rfl
      have g10 : W3.cell? ⟨w1.heap.size, 10, none⟩ = some (.int .i64 0) := by rw [cell_of_rowAt t1]; rfl
      have g11 : W3.cell? ⟨w1.heap.size, 11, none⟩ = some (.int .i64 0) := by rw [cell_of_rowAt t1]; rfl
      clear HW hr hb
      go_wp2_with (go_at_call 40; refine (end_is (n := 0) HR3.out (by decide)).mono ?_; rintro e w' ⟨rfl, rfl⟩)
      refine (right_want W3).mono ?_
      rintro e w5 ⟨rfl, hb⟩
      have u1 := rowKeep hb t1
      have u3 := rowKeep hb t3
      have HB5 := Lib.hid (bthen HB3.out hb)
      clear hb t1 t3 HB3 HR3 g0 g1 g2 g3 g4 g5 g6 g7 g8 g9 g10 g11 n1 hW3
      have e0 : w5.cell? ⟨w1.heap.size, 0, none⟩ = some (.int .i64 5) := by rw [cell_of_rowAt u1]; rfl
      have e1 : w5.cell? ⟨w1.heap.size, 1, none⟩ = some (.int .i64 0) := by rw [cell_of_rowAt u1]; rfl
      have e2 : w5.cell? ⟨w1.heap.size, 2, none⟩ = some (.int .i64 1) := by rw [cell_of_rowAt u1]; rfl
      have e3 : w5.cell? ⟨w1.heap.size, 3, none⟩ = some (.int .i64 3) := by rw [cell_of_rowAt u1]; rfl
      have e4 : w5.cell? ⟨w1.heap.size, 4, none⟩ = some (.int .i64 0) := by rw [cell_of_rowAt u1]; rfl
      have e5 : w5.cell? ⟨w1.heap.size, 5, none⟩ = some (.bool false) := by rw [cell_of_rowAt u1]; rfl
      have e6 : w5.cell? ⟨w1.heap.size, 6, none⟩ = some (.slice none 0 0) := by rw [cell_of_rowAt u1]; rfl
      have e7 : w5.cell? ⟨w1.heap.size, 7, none⟩ = some (.int .i64 0) := by rw [cell_of_rowAt u1]; rfl
      have e8 : w5.cell? ⟨w1.heap.size, 8, none⟩ = some (.string ByteArray.empty) := by rw [cell_of_rowAt u1]; rfl
      have e9 : w5.cell? ⟨w1.heap.size, 9, none⟩ = some (.string ByteArray.empty) := by rw [cell_of_rowAt u1]; rfl
      have e10 : w5.cell? ⟨w1.heap.size, 10, none⟩ = some (.int .i64 0) := by rw [cell_of_rowAt u1]; rfl
      have e11 : w5.cell? ⟨w1.heap.size, 11, none⟩ = some (.int .i64 0) := by rw [cell_of_rowAt u1]; rfl
      have z0 : w5.cell? ⟨w.heap.size, 0, none⟩ = some (.int .i64 0) := by rw [cell_of_rowAt u3]; rfl
      have z1 : w5.cell? ⟨w.heap.size, 1, none⟩ = some (.int .i64 0) := by rw [cell_of_rowAt u3]; rfl
      have z2 : w5.cell? ⟨w.heap.size, 2, none⟩ = some (.int .i64 0) := by rw [cell_of_rowAt u3]; rfl
      have z3 : w5.cell? ⟨w.heap.size, 3, none⟩ = some (.int .i64 0) := by rw [cell_of_rowAt u3]; rfl
      have z4 : w5.cell? ⟨w.heap.size, 4, none⟩ = some (.int .i64 0) := by rw [cell_of_rowAt u3]; rfl
      have z5 : w5.cell? ⟨w.heap.size, 5, none⟩ = some (.bool false) := by rw [cell_of_rowAt u3]; rfl
      have z6 : w5.cell? ⟨w.heap.size, 6, none⟩ = some (.slice none 0 0) := by rw [cell_of_rowAt u3]; rfl
      have z7 : w5.cell? ⟨w.heap.size, 7, none⟩ = some (.int .i64 0) := by rw [cell_of_rowAt u3]; rfl
      have z8 : w5.cell? ⟨w.heap.size, 8, none⟩ = some (.string ByteArray.empty) := by rw [cell_of_rowAt u3]; rfl
      have z9 : w5.cell? ⟨w.heap.size, 9, none⟩ = some (.string ByteArray.empty) := by rw [cell_of_rowAt u3]; rfl
      have z10 : w5.cell? ⟨w.heap.size, 10, none⟩ = some (.int .i64 0) := by rw [cell_of_rowAt u3]; rfl
      have z11 : w5.cell? ⟨w.heap.size, 11, none⟩ = some (.int .i64 0) := by rw [cell_of_rowAt u3]; rfl
      have zz := frozen_of_rowAt u3
      go_wp2_with fail
      have hfin := set12 (v0 := .int .i64 5) (v1 := .int .i64 0) (v2 := .int .i64 1) (v3 := .int .i64 3) (v4 := .int .i64 0) (v5 := .bool false) (v6 := .slice none 0 0) (v7 := .int .i64 0) (v8 := .string ByteArray.empty) (v9 := .string ByteArray.empty) (v10 := .int .i64 0) (v11 := .int .i64 0) u3
      have hl := load_msg_row hfin rfl
      refine ret_ct (v := .agg (msgC 5 0 1 3 0)) (u := .int .i64 0) (by rfl) (by with_unfolding_all rfl) (by with_unfolding_all rfl) (by rfl) hl ?_
      refine ⟨rfl, ?_⟩
      iterate 12 refine below_setCell' ?_ (Nat.le_refl _)
      exact HB5.out
end Go.Proofs.Ytpjichkigccfnaa
