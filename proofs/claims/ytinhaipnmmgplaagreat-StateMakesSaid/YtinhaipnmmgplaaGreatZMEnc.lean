/-
  Layer 14 (message): a message as bytes.
-/
import Derived.Test.YtinhaipnmmgplaaGreatZWEnc
import Derived.Test.YtinhaipnmmgplaaGreatZGJ
import Derived.Test.YtinhaipnmmgplaaGreatZGA
import Derived.Deep.DeepCutAuto
namespace Go.Proofs.YtinhaipnmmgplaaGreat
set_option maxRecDepth 20000
open Go.RowKit
set_option linter.unusedSimpArgs false
set_option linter.unusedVariables false
attribute [local go_sem] rowCells rowAt_drewN get_ints getE_ints set_ints size_ints rowAt_alloc rowAt_drew setRow_alloc setRow_drewN setRow_drew setCell_alloc setCell_drewN splice_upd splice_put splice_all load_vec_cut load_vecs_cut load_rights_cut load_counter store_vec store_rights store_counter eql_vec neq_vec index_vec eql_rights neq_rights eql_counter index_vecs cut_ints sub_zero
attribute [local go_sem ↓] xload_vec xstore_vec xalloc_vec xeql_vec xneq_vec xindex_vec xbuild_vec0 xload_rights xstore_rights xalloc_rights xeql_rights xneq_rights xbuild_rights0 xload_vecs xindex_vecs xload_counter xstore_counter xalloc_counter xbuild_counter0 xeql_counter xbuild_counter3
attribute [local go_sem] rowAt_setRow rowAt_setCell load_vec_cut_later load_rights_later load_counter_later Later.cell Later.frozen build3_ints
attribute [local go_sem ↓] xload_field xstore_field xalloc_field xload_lock
attribute [local go_sem] load_field load_field_later store_field load_counter_cut load_lock_cut load_lock_later Fld.size Fld.get0 Fld.get1 Fld.get2 Fld.get586 Fld.getE0 Fld.getE1 Fld.getE2 Fld.getE586 Fld.cut_cnt Fld.cut_lock Fld.cut_all Fld.splice_all strT_size


/-- What holds behind each operation ahead of the tail may be told more of on the way. -/
theorem tail_more {P : Program} {md : Region.Mode} {ops : Array Oper} {Q : Exit → Act → World → Prop} {S S2 : World → Prop} {m : Nat} (hS : ∀ w, S2 w → S w) : ∀ {fuel : Nat} {listed : Array Bool} {a : Act} {w : World}, wpAnyT P md ops Q S2 m fuel listed a w → wpAnyT P md ops Q S m fuel listed a w
  | 0, _, _, _, h => h
  | _ + 1, _, _, _, h => ⟨h.1, fun i hi => wpOp_mono (fun _ _ h' => ⟨fun him => hS _ (h'.1 him), tail_more hS h'.2⟩) (h.2 i hi)⟩
def txtW (t : List UInt8) : List UInt8 := numB t.length ++ t
def fldsW (v : Int) (L : Nat → Fld) : Nat → List UInt8
  | 0 => []
  | k + 1 => fldsW v L k ++ txtW (fldW v (L k))
def yn (b : Bool) : Int := if b then 1 else 0
def hdL (m : Msg) : List Int := [m.kind, m.frm, m.to, m.ver, m.num, yn m.yes, (m.fn : Int)]
def tlW (m : Msg) : List UInt8 := if m.kind = 2 then catB [m.pk, m.pa, m.pb] ++ txtW m.pn ++ txtW m.po else []
/-- The bytes of a message. -/
def msgW (m : Msg) : List UInt8 := catB (hdL m) ++ fldsW m.ver m.fl m.fn ++ tlW m
theorem fldW_len {v : Int} {F : Fld} (h : rightF F = true) : (fldW v F).length ≤ 5000 := by
  have h1 := preW_len v F (name_len (rightF_name h))
  have h2 := rightF_hn h
  have h3 := catN_len 4 F.lock
  have h4 := catN_len 579 F.cnt
  have h5 := numB_len F.hn
  have h6 := catN_len (5 * F.hn) F.hs
  unfold fldW cntW
  split
  · rw [List.length_append]; omega
  · split <;> simp only [List.length_append, List.length_nil] <;> omega
theorem txtW_len (t : List UInt8) : (txtW t).length ≤ 6 + t.length := by
  have := numB_len t.length
  unfold txtW
  rw [List.length_append]; omega
theorem fldsW_len {v : Int} {L : Nat → Fld} : ∀ k, (∀ i, i < k → rightF (L i) = true) → (fldsW v L k).length ≤ 5006 * k
  | 0, _ => by simp [fldsW]
  | k + 1, h => by
    have h1 := fldsW_len (v := v) k fun i hi => h i (by omega)
    have h2 := txtW_len (fldW v (L k))
    have h3 := fldW_len (v := v) (h k (by omega))
    rw [fldsW, List.length_append]
    omega
theorem right_say {m : Msg} (h : rightM m = true) {i : Nat} (hi : i < m.fn) : sayB m.ver (m.fl i) = true := by
  simp only [rightM, Bool.and_eq_true] at h
  have := h.1.2
  unfold sayAllB at this
  exact List.all_eq_true.1 this i (List.mem_range.2 hi)
theorem right_fn {m : Msg} (h : rightM m = true) : m.fn ≤ 4 := by
  simp only [rightM, hd2B, fldsB, Bool.and_eq_true, decide_eq_true_eq] at h
  exact h.1.1.2.1.2.2
theorem right_plan {m : Msg} (h : rightM m = true) (hk : m.kind = 2) : planB m.pk m.pn m.po m.pa m.pb = true := by
  simp only [rightM, Bool.and_eq_true] at h
  have := h.2
  unfold tlB at this
  split at this
  · cases this
  · split at this
    · cases this
    · rename_i h2
      first | exact this | rwa [if_pos hk] at this
theorem plan_names {k : Int} {n o : List UInt8} {u v : Int} (h : planB k n o u v = true) : n.length ≤ 8 ∧ o.length ≤ 8 := by
  simp only [planB, Bool.and_eq_true] at h
  refine ⟨name_len h.1.1.1.2, ?_⟩
  have := h.2
  unfold ruleB at this
  repeat' split at this
  all_goals simp only [Bool.and_eq_true, noneB, decide_eq_true_eq] at this
  · rw [this.1.1.1]; decide
  · rw [this.1.1]; decide
  · rw [this.1]; decide
  · exact name_len this.1.1.1
  · exact name_len this.1.1.1
theorem say_right {v : Int} {F : Fld} (h : sayB v F = true) : rightF F = true := by
  simp only [sayB, Bool.and_eq_true] at h
  exact h.1.1
theorem cells_list (W : World) (L : List Int) (T : TypeId) {C : Array Value} (hC : C = (L.map (Value.int .i64)).toArray) {q : Nat} (hq : q = W.heap.size) : ∀ k, k < L.length → (W.alloc (.cells C T)).cell? ⟨q, k, none⟩ = some (.int .i64 (L.getD k 0)) := fun k hk => by
  subst hC hq
  rw [cell_of_rowAt (rowAt_alloc_at _ _ _ _ rfl)]
  simp [List.getD, hk]
theorem PB.alloc {w : World} {p B : Nat} {l : List UInt8} (h : PB w p B l) (o : Obj) : PB (w.alloc o) p B l := by
  obtain ⟨A, c, h1, h2, h3, h4, h5⟩ := h
  exact ⟨A, c, rowPast h1, h2.alloc o, h3, h4, h5⟩
theorem PB.below {w w' : World} {p B : Nat} {l : List UInt8} (h : PB w p B l) (hb : Below w.heap.size w w') : PB w' p B l := by
  obtain ⟨A, c, h1, h2, h3, h4, h5⟩ := h
  exact ⟨A, c, rowKeep hb h1, h2.below hb, h3, h4, h5⟩
theorem PB.empty {w : World} {p B : Nat} (h : rowAt w p = some (#[.slice none 0 0], 39)) : PB w p B [] := ⟨none, 0, h, IsBy.nil _ _, fun _ => rfl, fun _ h => (by cases h), Nat.le_refl _⟩
end Go.Proofs.YtinhaipnmmgplaaGreat
