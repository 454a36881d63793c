/-
  Fields: what the operations on them do; Few of layers 7, 13 and 14.
-/
import Derived.Test.YtpjichkigccfnaaFld
import Derived.Test.YtpjichkigccfnaaCRight
namespace Go.Proofs.Ytpjichkigccfnaa
set_option maxRecDepth 20000
open Go.RowKit
set_option linter.unusedSimpArgs false
section
variable (ρ : Operand → Value) (d : Option Tmp) (T : TypeId) (p : String) (af : Array Edge) (gd : Option (Nat × Bool)) (x y z : Operand) (ty' : TypeId) (w : World)
theorem xstore_field : (execOp ρ ⟨d, .store 50 x y, T, p, af, gd⟩).run Try.prog w = storeAgg Try.prog w 50 (ρ x) (ρ y) := rfl
theorem xload_field : (execOp ρ ⟨d, .load 50 x, T, p, af, gd⟩).run Try.prog w = loadAgg Try.prog w 50 (ρ x) := rfl
theorem xload_lock : (execOp ρ ⟨d, .load 47 x, T, p, af, gd⟩).run Try.prog w = loadAgg Try.prog w 47 (ρ x) := rfl
def fld0 : Fld := ⟨[], 0, 0, fun _ => 0, fun _ => 0, none, 0, 0, fun _ => 0⟩
theorem xalloc_field : (execOp ρ ⟨d, .alloc 50, T, p, af, gd⟩).run Try.prog w = .ok (.value (.pointer (some ⟨w.heap.size, 0, none⟩))) (w.alloc (.cells fld0.cells 50)) :=
  (exec_alloc ..).trans (allocAgg_ok (by kernel_rfl))
end
theorem load_field (w : World) (g : Nat) (h : (rowAt w g).isSome = true) (hn : 0 + 587 ≤ (rowCells w g).size) :
    loadAgg Try.prog w 50 (.pointer (some ⟨g, 0, none⟩)) = .ok (.value (.agg (cut (rowCells w g) 0 587))) w := loadAgg_row Try.underlying50 rfl (by kernel_rfl) h hn
theorem load_field_later {B : Nat} {w : World} (x : Later B w) (g o : Nat) (hg : g < B) :
    loadAgg Try.prog x.wd 50 (.pointer (some ⟨g, o, none⟩)) = if (rowAt w g).isSome = true ∧ o + 587 ≤ (rowCells w g).size then .ok (.value (.agg (cut (rowCells w g) o 587))) x.wd else stuckLoad Try.prog x.wd 50 g o :=
  loadAgg_later x Try.underlying50 rfl (by kernel_rfl) hg
theorem store_field (w : World) (g : Nat) (F : Fld) (h : (rowAt w g).isSome = true) (hn : 0 + 587 ≤ (rowCells w g).size) :
    storeAgg Try.prog w 50 (.pointer (some ⟨g, 0, none⟩)) (.agg F.cells) = .ok .skip (w.setRow g (splice (rowCells w g) 0 F.cells)) :=
  storeAgg_row (by rw [Fld.size]; kernel_rfl) F.one h (by rw [Fld.size]; exact hn)
theorem load_counter_cut (w : World) (g o : Nat) (h : (rowAt w g).isSome = true) (hn : o + 579 ≤ (rowCells w g).size) :
    loadAgg Try.prog w 45 (.pointer (some ⟨g, o, none⟩)) = .ok (.value (.agg (cut (rowCells w g) o 579))) w := loadAgg_row Try.underlying45 rfl (by kernel_rfl) h hn
theorem load_lock_cut (w : World) (g o : Nat) (h : (rowAt w g).isSome = true) (hn : o + 4 ≤ (rowCells w g).size) :
    loadAgg Try.prog w 47 (.pointer (some ⟨g, o, none⟩)) = .ok (.value (.agg (cut (rowCells w g) o 4))) w := loadAgg_row Try.underlying47 rfl (by kernel_rfl) h hn
theorem load_lock_later {B : Nat} {w : World} (x : Later B w) (g o : Nat) (hg : g < B) :
    loadAgg Try.prog x.wd 47 (.pointer (some ⟨g, o, none⟩)) = if (rowAt w g).isSome = true ∧ o + 4 ≤ (rowCells w g).size then .ok (.value (.agg (cut (rowCells w g) o 4))) x.wd else stuckLoad Try.prog x.wd 47 g o :=
  loadAgg_later x Try.underlying47 rfl (by kernel_rfl) hg
theorem load_cellsAt {P : Program} {w : World} {b o n : Nat} {D : Array Value} {ty : TypeId} {d : TypeDesc} (hu : P.underlying ty = some d) (hd : isAggDesc d = true) (hi : (P.info? ty).map (·.size) = some n) (hn : D.size = n)
    (h : ∀ j, j < n → w.cell? ⟨b, o + j, none⟩ = D[j]?) : loadAgg P w ty (.pointer (some ⟨b, o, none⟩)) = .ok (.value (.agg D)) w := by
  have hl : (loadCells ⟨b, o, none⟩ n).run P w = .ok D w := by
    rw [run_loadCells w ⟨b, o, none⟩ n (fun j => D.getD j undef) (fun j hj => by
      rw [Addr.add_lit, h j hj, Array.getElem?_eq_getElem (by omega)]
      simp [Array.getD, show j < D.size by omega])]
    congr 1
    refine Array.ext (by simp [hn]) fun j h1 h2 => ?_
    simp [Array.getD, h2]
  cases hq : P.info? ty with
  | none => simp [hq] at hi
  | some i =>
    have hs : i.size = n := by simpa [hq] using hi
    have hagg : (isAgg ty).run P w = .ok true w := by
      unfold isAgg
      rw [Sem.run_bind, run_underlying hu w]
      cases d <;> simp_all [isAggDesc]
    have hv : (loadVar ty ⟨b, o, none⟩).run P w = .ok (.agg D) w := by
      simp [loadVar, Sem.run_bind, hagg, sizeOf, typeInfo, hq, hs, hl]
    unfold loadAgg
    simp [Instr.loadAt, Instr.sureAddr, hv]
theorem FldsIs.load {w : World} {A : Option Addr} {n : Nat} {L : Nat → Fld} (h : FldsIs w A n L) {i : Nat} (hi : i < n) :
    ∃ b o, A = some ⟨b, o, none⟩ ∧ loadAgg Try.prog w 50 (.pointer (some ⟨b, o + i * 587, none⟩)) = .ok (.value (.agg (L i).cells)) w := by
  obtain ⟨b, o, h1, h2⟩ := h.cell i hi
  exact ⟨b, o, h1, load_cellsAt Try.underlying50 rfl (by kernel_rfl) (Fld.size _) h2⟩
attribute [local go_sem] rowCells rowAt_drewN get_ints getE_ints set_ints size_ints rowAt_alloc rowAt_drew setRow_alloc setRow_drewN setRow_drew setCell_alloc setCell_drewN splice_upd splice_put splice_all load_vec_cut load_vecs_cut load_rights_cut load_counter store_vec store_rights store_counter eql_vec neq_vec index_vec eql_rights neq_rights eql_counter index_vecs cut_ints sub_zero
attribute [local go_sem ↓] xload_vec xstore_vec xalloc_vec xeql_vec xneq_vec xindex_vec xbuild_vec0 xload_rights xstore_rights xalloc_rights xeql_rights xneq_rights xbuild_rights0 xload_vecs xindex_vecs xload_counter xstore_counter xalloc_counter xbuild_counter0 xeql_counter xbuild_counter3
attribute [local go_sem] rowAt_setRow rowAt_setCell load_vec_cut_later load_rights_later load_counter_later Later.cell Later.frozen build3_ints
attribute [local go_sem ↓] xload_field xstore_field xalloc_field xload_lock
attribute [local go_sem] load_field load_field_later store_field load_counter_cut load_lock_cut load_lock_later Fld.size Fld.get0 Fld.get1 Fld.get2 Fld.get586 Fld.getE0 Fld.getE1 Fld.getE2 Fld.getE586 Fld.cut_cnt Fld.cut_lock Fld.cut_all Fld.splice_all strT_size
def fewF (F : Fld) : Bool := decide (F.name.length ≤ 100) && decide (F.hn ≤ 40)
def few7B (n : Nat) (L : Nat → Fld) : Bool := (List.range n).all fun i => fewF (L i)
theorem few7_no {n : Nat} {L : Nat → Fld} {i : Nat} (hi : i < n) (h : fewF (L i) = false) : few7B n L = false := by
  unfold few7B
  rw [List.all_eq_false]
  exact ⟨i, List.mem_range.2 hi, by simp [h]⟩
theorem few7_yes {n : Nat} {L : Nat → Fld} (h : ∀ i, i < n → fewF (L i) = true) : few7B n L = true := by
  unfold few7B
  rw [List.all_eq_true]
  exact fun i hi => h i (List.mem_range.1 hi)
set_option maxHeartbeats 2000000 in
theorem few7_any (A : Option Addr) (c n : Nat) (L : Nat → Fld) (w : World) (h : FldsIs w A n L) (hn : n ≤ 9223372036854775807) : Calls Try.prog 50 #[.slice A n c] w fun e w' =>
    e = .returned (.bool (few7B n L)) ∧ Below w.heap.size w w' := by
  have H := Lib.hid h
  clear h
  go_enter Try.func50, Try.ntmps50
  go_wp2_with fail
  go_loopw [7] (fun i w' => ∃ k : Nat, k ≤ n ∧ i = .int .i64 k ∧ (∀ j, j < k → fewF (L j) = true) ∧ Below w.heap.size w w') (fun i _ => n - (intOf i).toNat)
  case atStart => exact ⟨0, Nat.zero_le _, rfl, fun j hj => by omega, Below.refl _ _⟩
  case round =>
    rename_i wr
    obtain ⟨k, hk, rfl, hall, hb⟩ := hrel
    have HA := Lib.hid hall
    have HB := Lib.hid hb
    clear hall hb
    by_cases hlt : k < n
    · obtain ⟨b, o, rfl, hl⟩ := (H.out.below HB.out).load hlt
      have hF : ∃ F, L k = F := ⟨_, rfl⟩
      obtain ⟨F, hF⟩ := hF
      rw [hF] at hl
      have HF := Lib.hid hF
      clear hF
      by_cases h1 : 100 < F.name.length
      · have HN : Hid (few7B n L = false) := Lib.hid (few7_no hlt (by rw [HF.out]; simp [fewF]; omega))
        clear HF HA
        go_wp2_with fail
        go_ret
        exact ⟨by rw [HN.out]; rfl, below_allocS HB.out _⟩
      · by_cases h2 : 40 < F.hn
        · have HN : Hid (few7B n L = false) := Lib.hid (few7_no hlt (by rw [HF.out]; simp [fewF]; omega))
          clear HF HA
          go_wp2_with fail
          go_ret
          exact ⟨by rw [HN.out]; rfl, below_allocS HB.out _⟩
        · have HN : Hid (fewF (L k) = true) := Lib.hid (by rw [HF.out]; simp [fewF]; omega)
          clear HF
          go_wp2_with fail
          go_roundw
          case rel =>
            refine ⟨k + 1, by omega, by go_num, fun j hj => ?_, below_allocS HB.out _⟩
            by_cases hjk : j = k
            · rw [hjk]; exact HN.out
            · exact HA.out j (by omega)
          case measure => simp [intOf]; omega
    · have HN : Hid (few7B n L = true) := Lib.hid (few7_yes fun i hi => HA.out i (by omega))
      clear HA
      go_wp2_with fail
      go_ret
      exact ⟨by rw [HN.out]; rfl, HB.out⟩
end Go.Proofs.Ytpjichkigccfnaa
