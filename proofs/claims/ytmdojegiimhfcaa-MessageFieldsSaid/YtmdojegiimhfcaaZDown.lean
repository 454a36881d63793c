/-
  Layer 10 (wire): what a format can say of a field, and the rest; holds cloned.
-/
import Derived.Test.YtmdojegiimhfcaaZMSame
namespace Go.Proofs.Ytmdojegiimhfcaa
set_option maxRecDepth 20000
open Go.RowKit
set_option linter.unusedSimpArgs false
set_option linter.unusedVariables false
attribute [local go_sem] rowCells rowAt_drewN get_ints getE_ints set_ints size_ints rowAt_alloc rowAt_drew setRow_alloc setRow_drewN setRow_drew setCell_alloc setCell_drewN splice_upd splice_put splice_all load_vec_cut load_vecs_cut load_rights_cut load_counter store_vec store_rights store_counter eql_vec neq_vec index_vec eql_rights neq_rights eql_counter index_vecs cut_ints sub_zero
attribute [local go_sem ↓] xload_vec xstore_vec xalloc_vec xeql_vec xneq_vec xindex_vec xbuild_vec0 xload_rights xstore_rights xalloc_rights xeql_rights xneq_rights xbuild_rights0 xload_vecs xindex_vecs xload_counter xstore_counter xalloc_counter xbuild_counter0 xeql_counter xbuild_counter3
attribute [local go_sem] rowAt_setRow rowAt_setCell load_vec_cut_later load_rights_later load_counter_later Later.cell Later.frozen build3_ints
attribute [local go_sem ↓] xload_field xstore_field xalloc_field xload_lock
attribute [local go_sem] load_field load_field_later store_field load_counter_cut load_lock_cut load_lock_later Fld.size Fld.get0 Fld.get1 Fld.get2 Fld.get586 Fld.getE0 Fld.getE1 Fld.getE2 Fld.getE586 Fld.cut_cnt Fld.cut_lock Fld.cut_all Fld.splice_all strT_size

attribute [local go_sem ↓] xload_hold xstore_hold xalloc_hold
attribute [local go_sem] load_hold load_hold_later store_hold
attribute [local go_sem ↓] xbuild_lock0 xeql_lock xneq_lock xneq_counter
attribute [local go_sem] eql_lock neq_lock neq_counter

/-- Holds of the call's own. -/
def HoldsOwn (w : World) (B : Nat) (A : Option Addr) (n c : Nat) (f : Nat → Int) : Prop :=
  IntsIs w A (5 * n) f ∧ n ≤ c ∧ (A = none → c = 0) ∧ c ≤ 9223372036854775807 ∧ (∀ x, A = some x → B ≤ x.block ∧ ∃ cs, rowAt w x.block = some (cs, 90))
theorem HoldsOwn.of {w : World} {B n : Nat} {v : Value} {f : Nat → Int} (h : w.ownsRow B 90 5 v n (holdV n f)) : ∃ A c, v = .slice A n c ∧ HoldsOwn w B A n c f := by
  obtain ⟨a, c, rfl, h1, h2, h3, h4, h5⟩ := own_open h (by decide)
  refine ⟨a, c, rfl, fun i hi => ?_, h2, fun h => (h1 h).1, h3, fun x hx => ⟨(h4 x hx).1, own_row h hx⟩⟩
  obtain ⟨g, e1, e2⟩ := h5 i _ (holdV_get n f i hi)
  exact ⟨g, 0, e1, by rw [Nat.zero_add]; exact e2⟩
theorem HoldsOwn.below {w w' : World} {B n c : Nat} {A : Option Addr} {f : Nat → Int} (h : HoldsOwn w B A n c f) (hb : Below w.heap.size w w') : HoldsOwn w' B A n c f :=
  ⟨h.1.below hb, h.2.1, h.2.2.1, h.2.2.2.1, fun x hx => ⟨(h.2.2.2.2 x hx).1, (h.2.2.2.2 x hx).2.imp fun cs hcs => rowKeep hb hcs⟩⟩
set_option maxHeartbeats 1000000 in
theorem clone_holds (A : Option Addr) (n c : Nat) (f : Nat → Int) (w : World) (hl : IntsIs w A (5 * n) f) (hA : A = none → c = 0) (hnc : n ≤ c) (hlen : n ≤ 1000000) :
    Calls Try.prog 58 #[.slice A n c] w fun e w' => ∃ A' c', e = .returned (.slice A' n c') ∧ HoldsOwn w' w.heap.size A' n c' f ∧ Below w.heap.size w w' := by
  cases A with
  | none =>
    obtain rfl := hA rfl
    obtain rfl : n = 0 := by omega
    go_enter Try.func58, Try.ntmps58
    have heq : (binOp .eql 48 (.slice none 0 0) (.slice none 0 0)).run Try.prog w = .ok (.bool true) w := Lib.run_eql_slice_nil w _ _ none 0 0 0 0 Try.underlying48
    go_wp2_with fail
    go_ret
    exact ⟨none, 0, rfl, ⟨fun i hi => by omega, Nat.le_refl _, fun _ => rfl, Nat.zero_le _, fun x hx => by cases hx⟩, Below.refl _ _⟩
  | some a =>
    have heq : (binOp .eql 48 (.slice (some a) n c) (.slice none 0 0)).run Try.prog w = .ok (.bool false) w := Lib.run_eql_slice_nil w _ _ (some a) n c 0 0 Try.underlying48
    have HL := Lib.hid hl
    clear hl
    go_enter Try.func58, Try.ntmps58
    go_wp2_with (at_builtin; refine wl_append_rows (n := 0) (xs := []) (base := w.heap.size) Try.underlying48 info_hold rfl (by decide) rfl _ _ rfl rfl ?c0 (some a) n c (holdV n f) rfl (holdV_len n f) (fun h => by cases h) ?c1 ?c2 ?c3 ?c4 ?c5 ?_)
    case c0 => exact ⟨by simp, .inr ⟨w.heap.size, 0, _, rfl, Nat.le_refl _, rowAt_iff.1 (rowAt_alloc_at _ _ _ _ rfl), Nat.le_refl _, by unfold maxLen; omega, by simp, by simp⟩⟩
    case c1 =>
      intro j u hu
      have hj : j < 5 * n := by have := (List.getElem?_eq_some_iff.1 hu).1; rw [holdV_len] at this; omega
      rw [holdV_get n f j hj] at hu
      injection hu with hu
      subst hu
      exact (HL.out.below ((Below.refl _ _).alloc (Nat.le_refl _) _)) j hj
    case c2 =>
      intro u hu
      unfold holdV at hu
      obtain ⟨i, _, rfl⟩ := List.mem_map.1 hu
      rfl
    case c3 => omega
    case c4 => omega
    case c5 => simp
    intro v' w' hown hb
    try rw [Nat.zero_add, List.nil_append] at hown
    obtain ⟨A', c', rfl, ho⟩ := HoldsOwn.of hown
    have HO := Lib.hid ho
    have HB := Lib.hid (((Below.refl w.heap.size w).alloc (Nat.le_refl _) _).trans hb)
    clear ho hb hown
    go_wp2_with fail
    go_ret
    exact ⟨A', c', rfl, HO.out, HB.out⟩

theorem right_hn {F : Fld} (h : rightF F = true) : F.hn ≤ 16 := by
  simp only [rightF, Bool.and_eq_true] at h
  have h2 := h.2
  split at h2
  · simp only [Bool.and_eq_true, holdsB, decide_eq_true_eq] at h2
    exact h2.1.2.2
  · split at h2
    · simp only [Bool.and_eq_true, decide_eq_true_eq] at h2
      omega
    · cases h2
section
variable {P : Program} {fn : Func} {R : Ending → World → Prop} {a : Act} {w : World}
theorem ret_cct {p q r : Tmp} {ty ty2 : TypeId} {ad ad2 : Addr} {v u s : Value} (hres : fn.results = #[.cell p ty, .cell q ty2, .tmp r]) (hp : a.tmps.getD p undef = .pointer (some ad)) (hq : a.tmps.getD q undef = .pointer (some ad2)) (hr : a.tmps.getD r undef = s) (hd : a.defers = [])
    (hl : loadAgg P w ty (.pointer (some ad)) = .ok (.value v) w) (hl2 : loadAgg P w ty2 (.pointer (some ad2)) = .ok (.value u) w) (hR : R (.returned (.tuple #[v, u, s])) w) : bodyPost P fn R .ret a w := by
  have hp' : a.tmps[p]?.getD undef = .pointer (some ad) := by simpa using hp
  have hq' : a.tmps[q]?.getD undef = .pointer (some ad2) := by simpa using hq
  have hr' : a.tmps[r]?.getD undef = s := by simpa using hr
  exact bodyPost_ret (by simp [results, hres, hp', hq', hr', asAddr, loadVar_of_loadAgg hl, loadVar_of_loadAgg hl2]) hd hR
end
theorem zero_field : Try.zeroCells50 = fld0.cells := by kernel_rfl
attribute [local go_sem] zero_field
/-- A residue. -/
def resC (e : Int) (B : Option Addr) (k d : Nat) : Array Value := cellsF 2 fun j => if j = 0 then .int .i64 e else .slice B k d
theorem resC_size (e : Int) (B : Option Addr) (k d : Nat) : (resC e B k d).size = 2 := size_cellsF _ _
theorem resC_is (e : Int) (B : Option Addr) (k d : Nat) : resC e B k d = #[.int .i64 e, .slice B k d] := rfl
theorem resC_all (e : Int) (B : Option Addr) (k d : Nat) : cut (resC e B k d) 0 2 = resC e B k d := by rw [resC_is]; rfl
theorem resC_splice (e : Int) (B : Option Addr) (k d : Nat) (c : Array Value) (h : c.size = 2) : splice c 0 (resC e B k d) = resC e B k d := by
  unfold splice
  rw [resC_size]
  simp [List.drop_of_length_le, h]
theorem resC_set0 (e x : Int) (B : Option Addr) (k d : Nat) : (resC e B k d).setIfInBounds 0 (.int .i64 x) = resC x B k d := by rw [resC_is, resC_is]; rfl
theorem resC_set1 (e : Int) (B B' : Option Addr) (k d k' d' : Nat) : (resC e B k d).setIfInBounds 1 (.slice B' k' d') = resC e B' k' d' := by rw [resC_is, resC_is]; rfl
theorem Fld.set2 (F : Fld) (e : Int) : F.cells.setIfInBounds 2 (.int .i64 e) = ({ F with epoch := e } : Fld).cells := by
  unfold Fld.cells
  rw [set_cellsF]
  refine cellsF_congr fun j hj => ?_
  simp only [Fld.val]
  by_cases h : j = 2
  · subst h; simp
  · rw [if_neg h]; simp [h]
theorem Fld.set586 (F : Fld) (A : Option Addr) (n c : Nat) : F.cells.setIfInBounds 586 (.slice A n c) = ({ F with hA := A, hn := n, hc := c } : Fld).cells := by
  unfold Fld.cells
  rw [set_cellsF]
  refine cellsF_congr fun j hj => ?_
  simp only [Fld.val]
  by_cases h : j = 586
  · subst h; simp
  · rw [if_neg h]
    repeat' split
    all_goals first | rfl | omega
section
variable (ρ : Operand → Value) (d : Option Tmp) (T : TypeId) (p : String) (af : Array Edge) (gd : Option (Nat × Bool)) (x y z : Operand) (w : World)
theorem xstore_res : (execOp ρ ⟨d, .store 77 x y, T, p, af, gd⟩).run Try.prog w = storeAgg Try.prog w 77 (ρ x) (ρ y) := rfl
theorem xload_res : (execOp ρ ⟨d, .load 77 x, T, p, af, gd⟩).run Try.prog w = loadAgg Try.prog w 77 (ρ x) := rfl
theorem xalloc_res : (execOp ρ ⟨d, .alloc 77, T, p, af, gd⟩).run Try.prog w = .ok (.value (.pointer (some ⟨w.heap.size, 0, none⟩))) (w.alloc (.cells (resC 0 none 0 0) 77)) :=
  (exec_alloc ..).trans (allocAgg_ok (by kernel_rfl))
theorem xbuild_res0 : (execOp ρ ⟨d, .build 77 #[], T, p, af, gd⟩).run Try.prog w = .ok (.value (.agg (resC 0 none 0 0))) w := by kernel_rfl
end
theorem load_res (w : World) (g : Nat) (h : (rowAt w g).isSome = true) (hn : 0 + 2 ≤ (rowCells w g).size) :
    loadAgg Try.prog w 77 (.pointer (some ⟨g, 0, none⟩)) = .ok (.value (.agg (cut (rowCells w g) 0 2))) w := loadAgg_row Try.underlying77 rfl (by kernel_rfl) h hn
theorem store_res (w : World) (g : Nat) (e : Int) (B : Option Addr) (k d : Nat) (h : (rowAt w g).isSome = true) (hn : 0 + 2 ≤ (rowCells w g).size) :
    storeAgg Try.prog w 77 (.pointer (some ⟨g, 0, none⟩)) (.agg (resC e B k d)) = .ok .skip (w.setRow g (splice (rowCells w g) 0 (resC e B k d))) :=
  storeAgg_row (by rw [resC_size]; kernel_rfl) (one_cellsF fun i _ => by split <;> rfl) h (by rw [resC_size]; exact hn)
attribute [local go_sem ↓] xstore_res xload_res xalloc_res xbuild_res0
attribute [local go_sem] load_res store_res resC_size resC_all resC_splice resC_set0 resC_set1 Fld.set2 Fld.set586
/-- What a format says of a field. -/
def dnF (v : Int) (F : Fld) (A : Option Addr) (c : Nat) : Fld := { F with epoch := if v < 3 then 0 else F.epoch, hA := if v = 1 then none else A, hn := if v = 1 then 0 else F.hn, hc := if v = 1 then 0 else c }
theorem row_set_same {w : World} {g i : Nat} {C D : Array Value} {t : TypeId} {v : Value} (h : rowAt w g = some (C, t)) (hD : C.setIfInBounds i v = D) : rowAt (w.setCell ⟨g, i, none⟩ v) g = some (D, t) := by
  rw [rowAt_setCell, if_pos rfl, h, ← hD]; rfl
theorem row_set_other {w : World} {g k i : Nat} {C : Array Value} {t : TypeId} {v : Value} (h : rowAt w k = some (C, t)) (hne : k ≠ g) : rowAt (w.setCell ⟨g, i, none⟩ v) k = some (C, t) := by
  rw [rowAt_setCell, if_neg hne]; exact h
theorem holdsOwn_set {w : World} {B n c g i : Nat} {A : Option Addr} {f : Nat → Int} {v : Value} (h : HoldsOwn w B A n c f) (hg : g < B) : HoldsOwn (w.setCell ⟨g, i, none⟩ v) B A n c f := by
  obtain ⟨h1, h2, h3, h4, h5⟩ := h
  refine ⟨fun j hj => ?_, h2, h3, h4, fun x hx => ⟨(h5 x hx).1, ?_⟩⟩
  · obtain ⟨b, o, e1, e2⟩ := h1 j hj
    have := (h5 _ e1).1
    exact ⟨b, o, e1, (World.cell?_of_block (w := w) (heap_setCell_other w ⟨g, i, none⟩ b v (by simp at this ⊢; omega))).trans e2⟩
  · obtain ⟨cs, hcs⟩ := (h5 x hx).2
    exact ⟨cs, row_set_other hcs (by have := (h5 x hx).1; omega)⟩
theorem holdsOwn_setRow {w : World} {B n c g : Nat} {A : Option Addr} {f : Nat → Int} (h : HoldsOwn w B A n c f) (hg : g < B) (cs : Array Value) : HoldsOwn (w.setRow g cs) B A n c f := by
  obtain ⟨h1, h2, h3, h4, h5⟩ := h
  refine ⟨fun j hj => ?_, h2, h3, h4, fun x hx => ⟨(h5 x hx).1, ?_⟩⟩
  · obtain ⟨b, o, e1, e2⟩ := h1 j hj
    have := (h5 _ e1).1
    exact ⟨b, o, e1, (World.cell?_of_block (w := w) (setRow_other w g b cs (by simp at this ⊢; omega))).trans e2⟩
  · obtain ⟨cs', hcs⟩ := (h5 x hx).2
    exact ⟨cs', (rowAt_setRow_other _ _ _ _ (by have := (h5 x hx).1; omega)).trans hcs⟩
theorem dnF_ok {w : World} {v : Int} {F : Fld} {B c : Nat} {A : Option Addr} (h : HoldsOwn w B A F.hn c F.hs) (hb : F.name.length ≤ 9223372036854775807) : FldOk w (dnF v F A c) ∧ HT w (dnF v F A c) := by
  obtain ⟨h1, h2, h3, h4, h5⟩ := h
  by_cases hv : v = 1
  · refine ⟨⟨fun i hi => ?_, ?_, fun _ => ?_, ⟨hb, ?_⟩⟩, fun x hx => ?_⟩ <;> simp [dnF, hv] at *
  · refine ⟨⟨?_, ?_, ?_, ⟨hb, ?_⟩⟩, ?_⟩
    · simpa [dnF, hv] using h1
    · simpa [dnF, hv] using h2
    · simpa [dnF, hv] using h3
    · simpa [dnF, hv] using h4
    · intro x hx
      exact (h5 x (by simpa [dnF, hv] using hx)).2
/-- What Down tells. -/
def DownP (w : World) (v : Int) (F : Fld) (b : Bool) (e : Ending) (w' : World) : Prop :=
  Below w.heap.size w w' ∧ (b = false → ∃ x, e = .returned (.tuple #[.agg fld0.cells, .agg (resC 0 none 0 0), .int .i64 x]) ∧ x ≠ 0) ∧
    (b = true → ∃ A c B k d, e = .returned (.tuple #[.agg (dnF v F A c).cells, .agg (resC (if v < 3 then F.epoch else 0) B k d), .int .i64 0]) ∧ FldOk w' (dnF v F A c) ∧ HT w' (dnF v F A c))
theorem downP_no {w w' : World} {v : Int} {F : Fld} (x : Int) (hx : x ≠ 0) (hb : Below w.heap.size w w') : DownP w v F false (.returned (.tuple #[.agg fld0.cells, .agg (resC 0 none 0 0), .int .i64 x])) w' :=
  ⟨hb, fun _ => ⟨x, rfl, hx⟩, fun h => by cases h⟩
theorem load_res_row {w : World} {g : Nat} {e : Int} {B : Option Addr} {k d : Nat} {t : TypeId} (h : rowAt w g = some (resC e B k d, t)) : loadAgg Try.prog w 77 (.pointer (some ⟨g, 0, none⟩)) = .ok (.value (.agg (resC e B k d))) w := by
  rw [load_res w g (by rw [h]; rfl) (by simp [rowCells, h, resC_size])]
  simp [rowCells, h, resC_all]
set_option maxHeartbeats 4000000 in
theorem down_ok (v : Int) (F : Fld) (w : World) (h : FldOk w F) :
    Calls Try.prog 40 #[.int .i64 v, .agg F.cells] w (DownP w v F (rightF F && isV v)) := by
  obtain ⟨b, hb⟩ : ∃ b, rightF F = b := ⟨_, rfl⟩
  obtain ⟨b2, hb2⟩ : ∃ b, isV v = b := ⟨_, rfl⟩
  rw [hb, hb2]
  have HFR := Lib.hid hb
  have HV := Lib.hid hb2
  have HOK := Lib.hid h
  clear h hb hb2
  go_enter Try.func40, Try.ntmps40
  go_wp2_with fail
  refine (fieldRight_at HFR.out (HOK.out.below (below_allocS (below_allocS ((Below.refl w.heap.size w).alloc (Nat.le_refl _) _) _) _))).mono ?_
  rintro e w1 ⟨rfl, hb⟩
  have r0 : rowAt w1 w.heap.size = some (F.cells, 50) := rowKeep hb (rowPast (rowPast (rowAt_alloc_at _ _ _ _ rfl)))
  have r4 : rowAt w1 (w.heap.size + 1) = some (fld0.cells, 50) := rowKeep hb (rowPast (rowAt_alloc_at _ _ _ _ (by simp)))
  have r5 : rowAt w1 (w.heap.size + 1 + 1) = some (resC 0 none 0 0, 77) := rowKeep hb (rowAt_alloc_at _ _ _ _ (by simp))
  have HB1 := Lib.hid (bthen (below_allocS (below_allocS ((Below.refl w.heap.size w).alloc (Nat.le_refl _) _) _) _) hb)
  have HO1 := Lib.hid (HOK.out.below HB1.out)
  clear hb HOK
  have n0 := rowAt_lt r0
  have n4 := rowAt_lt r4
  have n5 := rowAt_lt r5
  cases b
  · clear HV
    go_wp2
    refine ret_cct (v := .agg fld0.cells) (u := .agg (resC 0 none 0 0)) (s := .int .i64 1) rfl rfl rfl rfl rfl (load_fld_row (t := 50) ?l1) (load_res_row (t := 77) ?l2) ?l3
    case l1 => rw [rowAt_setRow_other _ _ _ _ (by omega)]; exact rowAt_setRow_same _ r4
    case l2 => exact rowAt_setRow_same _ ((rowAt_setRow_other _ _ _ _ (by omega)).trans r5)
    case l3 => exact downP_no 1 (by decide) (below_setRow' (below_setRow' HB1.out (by omega) _) (by omega) _)
  · go_wp2_with fail
    refine (wireIs_at HV.out _).mono ?_
    rintro e w2 ⟨rfl, hb⟩
    have HB2 := Lib.hid (bthen HB1.out hb)
    have HO2 := Lib.hid (HO1.out.below hb)
    have R0 := rowKeep hb r0
    have R4 := rowKeep hb r4
    have R5 := rowKeep hb r5
    clear hb HB1 HO1 r0 r4 r5 n0 n4 n5
    have n0 := rowAt_lt R0
    have n4 := rowAt_lt R4
    have n5 := rowAt_lt R5
    cases b2
    · go_wp2
      refine ret_cct (v := .agg fld0.cells) (u := .agg (resC 0 none 0 0)) (s := .int .i64 18) rfl rfl rfl rfl rfl (load_fld_row (t := 50) ?l1) (load_res_row (t := 77) ?l2) ?l3
      case l1 => rw [rowAt_setRow_other _ _ _ _ (by omega)]; exact rowAt_setRow_same _ R4
      case l2 => exact rowAt_setRow_same _ ((rowAt_setRow_other _ _ _ _ (by omega)).trans R5)
      case l3 => exact downP_no 18 (by decide) (below_setRow' (below_setRow' HB2.out (by omega) _) (by omega) _)
    · have z586 : w2.cell? ⟨w.heap.size, 586, none⟩ = some (.slice F.hA F.hn F.hc) := by rw [cell_of_rowAt R0, F.get586]
      have hal : Below w2.heap.size w2 (w2.alloc (.cells (resC 0 none 0 0) 77)) := (Below.refl _ _).alloc (Nat.le_refl _) _
      have hhn := right_hn HFR.out
      go_wp2_with fail
      refine (clone_holds F.hA F.hn F.hc F.hs _ (HO2.out.below hal).holds HO2.out.nil HO2.out.le (by omega)).mono ?_
      rintro e w3 ⟨A, c, rfl, ho, hb⟩
      have HHO := Lib.hid ho
      have r0 := rowKeep hb (rowKeep hal R0)
      have r4 := rowKeep hb (rowKeep hal R4)
      have r5 := rowKeep hb (rowKeep hal R5)
      have r7 : rowAt w3 w2.heap.size = some (resC 0 none 0 0, 77) := rowKeep hb (rowAt_alloc_at _ _ _ _ rfl)
      have HB3 := Lib.hid (bthen HB2.out (bthen hal hb))
      have hbig := HO2.out.big.1
      have n7 := rowAt_lt r7
      clear ho hb hal R0 R4 R5 z586 HO2 HB2
      have hv : v = 1 ∨ v = 2 ∨ v = 3 := by have := HV.out; simp only [isV, Bool.and_eq_true, decide_eq_true_eq] at this; omega
      clear HV
      have z2 : w3.cell? ⟨w.heap.size, 2, none⟩ = some (.int .i64 F.epoch) := by rw [cell_of_rowAt r0, F.get2]
      have z586 : w3.cell? ⟨w.heap.size, 586, none⟩ = some (.slice F.hA F.hn F.hc) := by rw [cell_of_rowAt r0, F.get586]
      have f586 := frozen_of_rowAt r0 586
      have f2 := frozen_of_rowAt r0 2
      have x0 : w3.cell? ⟨w2.heap.size, 0, none⟩ = some (.int .i64 0) := by rw [cell_of_rowAt r7]; rfl
      have x1 : w3.cell? ⟨w2.heap.size, 1, none⟩ = some (.slice none 0 0) := by rw [cell_of_rowAt r7]; rfl
      have y0 := frozen_of_rowAt r7 0
      have y1 := frozen_of_rowAt r7 1
      rcases hv with rfl | rfl | rfl
      · go_upto_region 11 with fail
        obtain ⟨W9, hW9⟩ : ∃ W9, ((((w3.setCell ⟨w.heap.size, 586, none⟩ (.slice A F.hn c)).setCell ⟨w2.heap.size, 0, none⟩ (.int .i64 F.epoch)).setCell ⟨w.heap.size, 2, none⟩ (.int .i64 0)).setCell ⟨w2.heap.size, 1, none⟩ (.slice A F.hn c)).setCell ⟨w.heap.size, 586, none⟩ (.slice none 0 0) = W9 := ⟨_, rfl⟩
        rw [hW9]
        have hg2 : w.heap.size ≠ w2.heap.size := by omega
        have hg2' : w2.heap.size ≠ w.heap.size := by omega
        have q0 : rowAt W9 w.heap.size = some ((dnF 1 F A c).cells, 50) := by
          rw [← hW9]
          exact row_set_same (row_set_other (row_set_same (row_set_other (row_set_same r0 (Fld.set586 _ _ _ _)) hg2) (Fld.set2 _ _)) hg2) (by rw [Fld.set586]; rfl)
        have q7 : rowAt W9 w2.heap.size = some (resC (F.epoch) A F.hn c, 77) := by
          rw [← hW9]
          exact row_set_other (row_set_same (row_set_other (row_set_same (row_set_other r7 hg2') (resC_set0 ..)) hg2') (resC_set1 ..)) hg2'
        have q4 : rowAt W9 (w.heap.size + 1) = some (fld0.cells, 50) := by
          rw [← hW9]
          repeat refine row_set_other ?_ (by omega)
          exact r4
        have q5 : rowAt W9 (w.heap.size + 1 + 1) = some (resC 0 none 0 0, 77) := by
          rw [← hW9]
          repeat refine row_set_other ?_ (by omega)
          exact r5
        have HB9 : Hid (Below w.heap.size w W9) := Lib.hid (by
          rw [← hW9]
          repeat refine below_setCell' ?_ (by omega)
          exact HB3.out)
        have HH9 : Hid (HoldsOwn W9 (w2.heap.size + 1) A F.hn c F.hs) := Lib.hid (by
          rw [← hW9]
          repeat refine holdsOwn_set ?_ (by omega)
          simpa using HHO.out)
        have m4 := rowAt_lt q4
        have m5 := rowAt_lt q5
        have m7 := rowAt_lt q7
        have m0 := rowAt_lt q0
        clear hW9 r0 r4 r5 r7 z2 z586 f586 f2 x0 x1 y0 y1 HB3 HHO
        obtain ⟨G, hG⟩ : ∃ G, dnF 1 F A c = G := ⟨_, rfl⟩
        rw [hG] at q0
        have HG := Lib.hid hG
        clear hG
        go_region
        go_wp2
        refine ret_cct (v := .agg G.cells) (u := .agg (resC (F.epoch) A F.hn c)) (s := .int .i64 0) rfl rfl rfl rfl rfl (load_fld_row (t := 50) ?l1) (load_res_row (t := 77) ?l2) ?l3
        case l1 => rw [rowAt_drew, rowAt_setRow_other _ _ _ _ (by omega)]; exact rowAt_setRow_same _ q4
        case l2 => rw [rowAt_drew]; exact rowAt_setRow_same _ ((rowAt_setRow_other _ _ _ _ (by omega)).trans q5)
        case l3 =>
          have hh := ((holdsOwn_setRow (holdsOwn_setRow HH9.out (show w.heap.size + 1 < w2.heap.size + 1 by omega) G.cells) (show w.heap.size + 1 + 1 < w2.heap.size + 1 by omega) (resC (F.epoch) A F.hn c)).below (Below.refl _ _).drew)
          exact ⟨(below_setRow' (below_setRow' HB9.out (by omega) _) (by omega) _).drew, fun h => (by cases h), fun _ => ⟨A, c, _, _, _, by rw [HG.out]; rfl, dnF_ok hh hbig⟩⟩
      · go_upto_region 11 with fail
        obtain ⟨W9, hW9⟩ : ∃ W9, ((w3.setCell ⟨w.heap.size, 586, none⟩ (.slice A F.hn c)).setCell ⟨w2.heap.size, 0, none⟩ (.int .i64 F.epoch)).setCell ⟨w.heap.size, 2, none⟩ (.int .i64 0) = W9 := ⟨_, rfl⟩
        rw [hW9]
        have hg2 : w.heap.size ≠ w2.heap.size := by omega
        have hg2' : w2.heap.size ≠ w.heap.size := by omega
        have q0 : rowAt W9 w.heap.size = some ((dnF 2 F A c).cells, 50) := by
          rw [← hW9]
          exact row_set_same (row_set_other (row_set_same r0 (Fld.set586 _ _ _ _)) hg2) (by rw [Fld.set2]; rfl)
        have q7 : rowAt W9 w2.heap.size = some (resC (F.epoch) none 0 0, 77) := by
          rw [← hW9]
          exact row_set_other (row_set_same (row_set_other r7 hg2') (resC_set0 ..)) hg2'
        have q4 : rowAt W9 (w.heap.size + 1) = some (fld0.cells, 50) := by
          rw [← hW9]
          repeat refine row_set_other ?_ (by omega)
          exact r4
        have q5 : rowAt W9 (w.heap.size + 1 + 1) = some (resC 0 none 0 0, 77) := by
          rw [← hW9]
          repeat refine row_set_other ?_ (by omega)
          exact r5
        have HB9 : Hid (Below w.heap.size w W9) := Lib.hid (by
          rw [← hW9]
          repeat refine below_setCell' ?_ (by omega)
          exact HB3.out)
        have HH9 : Hid (HoldsOwn W9 (w2.heap.size + 1) A F.hn c F.hs) := Lib.hid (by
          rw [← hW9]
          repeat refine holdsOwn_set ?_ (by omega)
          simpa using HHO.out)
        have m4 := rowAt_lt q4
        have m5 := rowAt_lt q5
        have m7 := rowAt_lt q7
        have m0 := rowAt_lt q0
        clear hW9 r0 r4 r5 r7 z2 z586 f586 f2 x0 x1 y0 y1 HB3 HHO
        obtain ⟨G, hG⟩ : ∃ G, dnF 2 F A c = G := ⟨_, rfl⟩
        rw [hG] at q0
        have HG := Lib.hid hG
        clear hG
        go_region
        go_wp2
        refine ret_cct (v := .agg G.cells) (u := .agg (resC (F.epoch) none 0 0)) (s := .int .i64 0) rfl rfl rfl rfl rfl (load_fld_row (t := 50) ?l1) (load_res_row (t := 77) ?l2) ?l3
        case l1 => rw [rowAt_drew, rowAt_setRow_other _ _ _ _ (by omega)]; exact rowAt_setRow_same _ q4
        case l2 => rw [rowAt_drew]; exact rowAt_setRow_same _ ((rowAt_setRow_other _ _ _ _ (by omega)).trans q5)
        case l3 =>
          have hh := ((holdsOwn_setRow (holdsOwn_setRow HH9.out (show w.heap.size + 1 < w2.heap.size + 1 by omega) G.cells) (show w.heap.size + 1 + 1 < w2.heap.size + 1 by omega) (resC (F.epoch) none 0 0)).below (Below.refl _ _).drew)
          exact ⟨(below_setRow' (below_setRow' HB9.out (by omega) _) (by omega) _).drew, fun h => (by cases h), fun _ => ⟨A, c, _, _, _, by rw [HG.out]; rfl, dnF_ok hh hbig⟩⟩
      · go_upto_region 11 with fail
        obtain ⟨W9, hW9⟩ : ∃ W9, w3.setCell ⟨w.heap.size, 586, none⟩ (.slice A F.hn c) = W9 := ⟨_, rfl⟩
        rw [hW9]
        have hg2 : w.heap.size ≠ w2.heap.size := by omega
        have hg2' : w2.heap.size ≠ w.heap.size := by omega
        have q0 : rowAt W9 w.heap.size = some ((dnF 3 F A c).cells, 50) := by
          rw [← hW9]
          exact row_set_same r0 (by rw [Fld.set586]; rfl)
        have q7 : rowAt W9 w2.heap.size = some (resC (0) none 0 0, 77) := by
          rw [← hW9]
          exact row_set_other r7 hg2'
        have q4 : rowAt W9 (w.heap.size + 1) = some (fld0.cells, 50) := by
          rw [← hW9]
          repeat refine row_set_other ?_ (by omega)
          exact r4
        have q5 : rowAt W9 (w.heap.size + 1 + 1) = some (resC 0 none 0 0, 77) := by
          rw [← hW9]
          repeat refine row_set_other ?_ (by omega)
          exact r5
        have HB9 : Hid (Below w.heap.size w W9) := Lib.hid (by
          rw [← hW9]
          repeat refine below_setCell' ?_ (by omega)
          exact HB3.out)
        have HH9 : Hid (HoldsOwn W9 (w2.heap.size + 1) A F.hn c F.hs) := Lib.hid (by
          rw [← hW9]
          repeat refine holdsOwn_set ?_ (by omega)
          simpa using HHO.out)
        have m4 := rowAt_lt q4
        have m5 := rowAt_lt q5
        have m7 := rowAt_lt q7
        have m0 := rowAt_lt q0
        clear hW9 r0 r4 r5 r7 z2 z586 f586 f2 x0 x1 y0 y1 HB3 HHO
        obtain ⟨G, hG⟩ : ∃ G, dnF 3 F A c = G := ⟨_, rfl⟩
        rw [hG] at q0
        have HG := Lib.hid hG
        clear hG
        go_region
        go_wp2
        refine ret_cct (v := .agg G.cells) (u := .agg (resC (0) none 0 0)) (s := .int .i64 0) rfl rfl rfl rfl rfl (load_fld_row (t := 50) ?l1) (load_res_row (t := 77) ?l2) ?l3
        case l1 => rw [rowAt_drew, rowAt_setRow_other _ _ _ _ (by omega)]; exact rowAt_setRow_same _ q4
        case l2 => rw [rowAt_drew]; exact rowAt_setRow_same _ ((rowAt_setRow_other _ _ _ _ (by omega)).trans q5)
        case l3 =>
          have hh := ((holdsOwn_setRow (holdsOwn_setRow HH9.out (show w.heap.size + 1 < w2.heap.size + 1 by omega) G.cells) (show w.heap.size + 1 + 1 < w2.heap.size + 1 by omega) (resC 0 none 0 0)).below (Below.refl _ _).drew)
          exact ⟨(below_setRow' (below_setRow' HB9.out (by omega) _) (by omega) _).drew, fun h => (by cases h), fun _ => ⟨A, c, _, _, _, by rw [HG.out]; rfl, dnF_ok hh hbig⟩⟩
end Go.Proofs.Ytmdojegiimhfcaa
