/-
  Layer 10 (wire): what a format can say of a field, and the rest; holds cloned.
-/
import Derived.Test.YtinhaipnmmgplaaGreatZMSame
namespace Go.Proofs.YtinhaipnmmgplaaGreat
set_option maxRecDepth 20000
open Go.RowKit
set_option linter.unusedSimpArgs false
set_option linter.unusedVariables false
attribute [local go_sem] rowCells rowAt_drewN get_ints getE_ints set_ints size_ints rowAt_alloc rowAt_drew setRow_alloc setRow_drewN setRow_drew setCell_alloc setCell_drewN splice_upd splice_put splice_all load_vec_cut load_vecs_cut load_rights_cut load_counter store_vec store_rights store_counter eql_vec neq_vec index_vec eql_rights neq_rights eql_counter index_vecs cut_ints sub_zero
attribute [local go_sem ↓] xload_vec xstore_vec xalloc_vec xeql_vec xneq_vec xindex_vec xbuild_vec0 xload_rights xstore_rights xalloc_rights xeql_rights xneq_rights xbuild_rights0 xload_vecs xindex_vecs xload_counter xstore_counter xalloc_counter xbuild_counter0 xeql_counter xbuild_counter3
attribute [local go_sem] rowAt_setRow rowAt_setCell load_vec_cut_later load_rights_later load_counter_later Later.cell Later.frozen build3_ints
attribute [local go_sem ↓] xload_field xstore_field xalloc_field xload_lock
attribute [local go_sem] load_field load_field_later store_field load_counter_cut load_lock_cut load_lock_later Fld.size Fld.get0 Fld.get1 Fld.get2 Fld.get586 Fld.getE0 Fld.getE1 Fld.getE2 Fld.getE586 Fld.cut_cnt Fld.cut_lock Fld.cut_all Fld.splice_all strT_size

attribute [local go_sem ↓] xload_hold xstore_hold xalloc_hold
attribute [local go_sem] load_hold load_hold_later store_hold
attribute [local go_sem ↓] xbuild_lock0 xeql_lock xneq_lock xneq_counter
attribute [local go_sem] eql_lock neq_lock neq_counter

/-- Holds of the call's own. -/
def HoldsOwn (w : World) (B : Nat) (A : Option Addr) (n c : Nat) (f : Nat → Int) : Prop :=
  IntsIs w A (5 * n) f ∧ n ≤ c ∧ (A = none → c = 0) ∧ c ≤ 9223372036854775807 ∧ (∀ x, A = some x → B ≤ x.block ∧ ∃ cs, rowAt w x.block = some (cs, 87))
theorem HoldsOwn.of {w : World} {B n : Nat} {v : Value} {f : Nat → Int} (h : w.ownsRow B 87 5 v n (holdV n f)) : ∃ A c, v = .slice A n c ∧ HoldsOwn w B A n c f := by
  obtain ⟨a, c, rfl, h1, h2, h3, h4, h5⟩ := own_open h (by decide)
  refine ⟨a, c, rfl, fun i hi => ?_, h2, fun h => (h1 h).1, h3, fun x hx => ⟨(h4 x hx).1, own_row h hx⟩⟩
  obtain ⟨g, e1, e2⟩ := h5 i _ (holdV_get n f i hi)
  exact ⟨g, 0, e1, by rw [Nat.zero_add]; exact e2⟩
theorem HoldsOwn.below {w w' : World} {B n c : Nat} {A : Option Addr} {f : Nat → Int} (h : HoldsOwn w B A n c f) (hb : Below w.heap.size w w') : HoldsOwn w' B A n c f :=
  ⟨h.1.below hb, h.2.1, h.2.2.1, h.2.2.2.1, fun x hx => ⟨(h.2.2.2.2 x hx).1, (h.2.2.2.2 x hx).2.imp fun cs hcs => rowKeep hb hcs⟩⟩
set_option maxHeartbeats 1000000 in
theorem clone_holds (A : Option Addr) (n c : Nat) (f : Nat → Int) (w : World) (hl : IntsIs w A (5 * n) f) (hA : A = none → c = 0) (hnc : n ≤ c) (hlen : n ≤ 1000000) :
    Calls Tryz.prog 34 #[.slice A n c] w fun e w' => ∃ A' c', e = .returned (.slice A' n c') ∧ HoldsOwn w' w.heap.size A' n c' f ∧ Below w.heap.size w w' := by
  cases A with
  | none =>
    obtain rfl := hA rfl
    obtain rfl : n = 0 := by omega
    go_enter Tryz.func34, Tryz.ntmps34
    have heq : (binOp .eql 56 (.slice none 0 0) (.slice none 0 0)).run Tryz.prog w = .ok (.bool true) w := Lib.run_eql_slice_nil w _ _ none 0 0 0 0 Tryz.underlying56
    go_wp2_with fail
    go_ret
    exact ⟨none, 0, rfl, ⟨fun i hi => by omega, Nat.le_refl _, fun _ => rfl, Nat.zero_le _, fun x hx => by cases hx⟩, Below.refl _ _⟩
  | some a =>
    have heq : (binOp .eql 56 (.slice (some a) n c) (.slice none 0 0)).run Tryz.prog w = .ok (.bool false) w := Lib.run_eql_slice_nil w _ _ (some a) n c 0 0 Tryz.underlying56
    have HL := Lib.hid hl
    clear hl
    go_enter Tryz.func34, Tryz.ntmps34
    go_wp2_with (at_builtin; refine wl_append_rows (n := 0) (xs := []) (base := w.heap.size) Tryz.underlying56 info_hold rfl (by decide) rfl _ _ rfl rfl ?c0 (some a) n c (holdV n f) rfl (holdV_len n f) (fun h => by cases h) ?c1 ?c2 ?c3 ?c4 ?c5 ?_)
    case c0 => exact ⟨by simp, .inr ⟨w.heap.size, 0, _, rfl, Nat.le_refl _, rowAt_iff.1 (rowAt_alloc_at _ _ _ _ rfl), Nat.le_refl _, by unfold maxLen; omega, by simp, by simp⟩⟩
    case c1 =>
      intro j u hu
      have hj : j < 5 * n := by have := (List.getElem?_eq_some_iff.1 hu).1; rw [holdV_len] at this; omega
      rw [holdV_get n f j hj] at hu
      injection hu with hu
      subst hu
      exact (HL.out.below ((Below.refl _ _).alloc (Nat.le_refl _) _)) j hj
    case c2 =>
      intro u hu
      unfold holdV at hu
      obtain ⟨i, _, rfl⟩ := List.mem_map.1 hu
      rfl
    case c3 => omega
    case c4 => omega
    case c5 => simp
    intro v' w' hown hb
    try rw [Nat.zero_add, List.nil_append] at hown
    obtain ⟨A', c', rfl, ho⟩ := HoldsOwn.of hown
    have HO := Lib.hid ho
    have HB := Lib.hid (((Below.refl w.heap.size w).alloc (Nat.le_refl _) _).trans hb)
    clear ho hb hown
    go_wp2_with fail
    go_ret
    exact ⟨A', c', rfl, HO.out, HB.out⟩

theorem right_hn {F : Fld} (h : rightF F = true) : F.hn ≤ 16 := by
  simp only [rightF, Bool.and_eq_true] at h
  have h2 := h.2
  split at h2
  · simp only [Bool.and_eq_true, holdsB, decide_eq_true_eq] at h2
    exact h2.1.2.2
  · split at h2
    · simp only [Bool.and_eq_true, decide_eq_true_eq] at h2
      omega
    · cases h2
section
variable {P : Program} {fn : Func} {R : Ending → World → Prop} {a : Act} {w : World}
theorem ret_cct {p q r : Tmp} {ty ty2 : TypeId} {ad ad2 : Addr} {v u s : Value} (hres : fn.results = #[.cell p ty, .cell q ty2, .tmp r]) (hp : a.tmps.getD p undef = .pointer (some ad)) (hq : a.tmps.getD q undef = .pointer (some ad2)) (hr : a.tmps.getD r undef = s) (hd : a.defers = [])
    (hl : loadAgg P w ty (.pointer (some ad)) = .ok (.value v) w) (hl2 : loadAgg P w ty2 (.pointer (some ad2)) = .ok (.value u) w) (hR : R (.returned (.tuple #[v, u, s])) w) : bodyPost P fn R .ret a w := by
  have hp' : a.tmps[p]?.getD undef = .pointer (some ad) := by simpa using hp
  have hq' : a.tmps[q]?.getD undef = .pointer (some ad2) := by simpa using hq
  have hr' : a.tmps[r]?.getD undef = s := by simpa using hr
  exact bodyPost_ret (by simp [results, hres, hp', hq', hr', asAddr, loadVar_of_loadAgg hl, loadVar_of_loadAgg hl2]) hd hR
end
theorem zero_field : Tryz.zeroCells58 = fld0.cells := by kernel_rfl
attribute [local go_sem] zero_field
/-- A residue. -/
def resC (e : Int) (B : Option Addr) (k d : Nat) : Array Value := cellsF 2 fun j => if j = 0 then .int .i64 e else .slice B k d
theorem resC_size (e : Int) (B : Option Addr) (k d : Nat) : (resC e B k d).size = 2 := size_cellsF _ _
theorem resC_is (e : Int) (B : Option Addr) (k d : Nat) : resC e B k d = #[.int .i64 e, .slice B k d] := rfl
theorem resC_all (e : Int) (B : Option Addr) (k d : Nat) : cut (resC e B k d) 0 2 = resC e B k d := by rw [resC_is]; rfl
theorem resC_splice (e : Int) (B : Option Addr) (k d : Nat) (c : Array Value) (h : c.size = 2) : splice c 0 (resC e B k d) = resC e B k d := by
  unfold splice
  rw [resC_size]
  simp [List.drop_of_length_le, h]
theorem resC_set0 (e x : Int) (B : Option Addr) (k d : Nat) : (resC e B k d).setIfInBounds 0 (.int .i64 x) = resC x B k d := by rw [resC_is, resC_is]; rfl
theorem resC_set1 (e : Int) (B B' : Option Addr) (k d k' d' : Nat) : (resC e B k d).setIfInBounds 1 (.slice B' k' d') = resC e B' k' d' := by rw [resC_is, resC_is]; rfl
theorem Fld.set2 (F : Fld) (e : Int) : F.cells.setIfInBounds 2 (.int .i64 e) = ({ F with epoch := e } : Fld).cells := by
  unfold Fld.cells
  rw [set_cellsF]
  refine cellsF_congr fun j hj => ?_
  simp only [Fld.val]
  by_cases h : j = 2
  · subst h; simp
  · rw [if_neg h]; simp [h]
theorem Fld.set586 (F : Fld) (A : Option Addr) (n c : Nat) : F.cells.setIfInBounds 586 (.slice A n c) = ({ F with hA := A, hn := n, hc := c } : Fld).cells := by
  unfold Fld.cells
  rw [set_cellsF]
  refine cellsF_congr fun j hj => ?_
  simp only [Fld.val]
  by_cases h : j = 586
  · subst h; simp
  · rw [if_neg h]
    repeat' split
    all_goals first | rfl | omega
section
variable (ρ : Operand → Value) (d : Option Tmp) (T : TypeId) (p : String) (af : Array Edge) (gd : Option (Nat × Bool)) (x y z : Operand) (w : World)
end
attribute [local go_sem] resC_size resC_all resC_splice resC_set0 resC_set1 Fld.set2 Fld.set586
/-- What a format says of a field. -/
def dnF (v : Int) (F : Fld) (A : Option Addr) (c : Nat) : Fld := { F with epoch := if v < 3 then 0 else F.epoch, hA := if v = 1 then none else A, hn := if v = 1 then 0 else F.hn, hc := if v = 1 then 0 else c }
theorem row_set_same {w : World} {g i : Nat} {C D : Array Value} {t : TypeId} {v : Value} (h : rowAt w g = some (C, t)) (hD : C.setIfInBounds i v = D) : rowAt (w.setCell ⟨g, i, none⟩ v) g = some (D, t) := by
  rw [rowAt_setCell, if_pos rfl, h, ← hD]; rfl
theorem row_set_other {w : World} {g k i : Nat} {C : Array Value} {t : TypeId} {v : Value} (h : rowAt w k = some (C, t)) (hne : k ≠ g) : rowAt (w.setCell ⟨g, i, none⟩ v) k = some (C, t) := by
  rw [rowAt_setCell, if_neg hne]; exact h
theorem holdsOwn_set {w : World} {B n c g i : Nat} {A : Option Addr} {f : Nat → Int} {v : Value} (h : HoldsOwn w B A n c f) (hg : g < B) : HoldsOwn (w.setCell ⟨g, i, none⟩ v) B A n c f := by
  obtain ⟨h1, h2, h3, h4, h5⟩ := h
  refine ⟨fun j hj => ?_, h2, h3, h4, fun x hx => ⟨(h5 x hx).1, ?_⟩⟩
  · obtain ⟨b, o, e1, e2⟩ := h1 j hj
    have := (h5 _ e1).1
    exact ⟨b, o, e1, (World.cell?_of_block (w := w) (heap_setCell_other w ⟨g, i, none⟩ b v (by simp at this ⊢; omega))).trans e2⟩
  · obtain ⟨cs, hcs⟩ := (h5 x hx).2
    exact ⟨cs, row_set_other hcs (by have := (h5 x hx).1; omega)⟩
theorem holdsOwn_setRow {w : World} {B n c g : Nat} {A : Option Addr} {f : Nat → Int} (h : HoldsOwn w B A n c f) (hg : g < B) (cs : Array Value) : HoldsOwn (w.setRow g cs) B A n c f := by
  obtain ⟨h1, h2, h3, h4, h5⟩ := h
  refine ⟨fun j hj => ?_, h2, h3, h4, fun x hx => ⟨(h5 x hx).1, ?_⟩⟩
  · obtain ⟨b, o, e1, e2⟩ := h1 j hj
    have := (h5 _ e1).1
    exact ⟨b, o, e1, (World.cell?_of_block (w := w) (setRow_other w g b cs (by simp at this ⊢; omega))).trans e2⟩
  · obtain ⟨cs', hcs⟩ := (h5 x hx).2
    exact ⟨cs', (rowAt_setRow_other _ _ _ _ (by have := (h5 x hx).1; omega)).trans hcs⟩
theorem dnF_ok {w : World} {v : Int} {F : Fld} {B c : Nat} {A : Option Addr} (h : HoldsOwn w B A F.hn c F.hs) (hb : F.name.length ≤ 9223372036854775807) : FldOk w (dnF v F A c) ∧ HT w (dnF v F A c) := by
  obtain ⟨h1, h2, h3, h4, h5⟩ := h
  by_cases hv : v = 1
  · refine ⟨⟨fun i hi => ?_, ?_, fun _ => ?_, ⟨hb, ?_⟩⟩, fun x hx => ?_⟩ <;> simp [dnF, hv] at *
  · refine ⟨⟨?_, ?_, ?_, ⟨hb, ?_⟩⟩, ?_⟩
    · simpa [dnF, hv] using h1
    · simpa [dnF, hv] using h2
    · simpa [dnF, hv] using h3
    · simpa [dnF, hv] using h4
    · intro x hx
      exact (h5 x (by simpa [dnF, hv] using hx)).2
/-- What Down tells. -/
def DownP (w : World) (v : Int) (F : Fld) (b : Bool) (e : Ending) (w' : World) : Prop :=
  Below w.heap.size w w' ∧ (b = false → ∃ x, e = .returned (.tuple #[.agg fld0.cells, .agg (resC 0 none 0 0), .int .i64 x]) ∧ x ≠ 0) ∧
    (b = true → ∃ A c B k d, e = .returned (.tuple #[.agg (dnF v F A c).cells, .agg (resC (if v < 3 then F.epoch else 0) B k d), .int .i64 0]) ∧ FldOk w' (dnF v F A c) ∧ HT w' (dnF v F A c))
theorem downP_no {w w' : World} {v : Int} {F : Fld} (x : Int) (hx : x ≠ 0) (hb : Below w.heap.size w w') : DownP w v F false (.returned (.tuple #[.agg fld0.cells, .agg (resC 0 none 0 0), .int .i64 x])) w' :=
  ⟨hb, fun _ => ⟨x, rfl, hx⟩, fun h => by cases h⟩
end Go.Proofs.YtinhaipnmmgplaaGreat
