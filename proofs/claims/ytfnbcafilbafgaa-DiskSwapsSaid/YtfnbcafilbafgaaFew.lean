/-
  Layer 11 (disk): steps of a few bytes; reads of a step.
-/
import Derived.Test.YtfnbcafilbafgaaStep
import Derived.Test.YtfnbcafilbafgaaFrameD
namespace Go.Proofs.Ytfnbcafilbafgaa
open Go.RowKit
set_option linter.unusedSimpArgs false
theorem load_cells {P : Program} {w : World} {b o n : Nat} {D : Array Value} {ty : TypeId} {d : TypeDesc} (hu : P.underlying ty = some d) (hd : isAggDesc d = true) (hi : (P.info? ty).map (·.size) = some n) (hn : D.size = n)
    (h : ∀ j, j < n → w.cell? ⟨b, o + j, none⟩ = D[j]?) : loadAgg P w ty (.pointer (some ⟨b, o, none⟩)) = .ok (.value (.agg D)) w := by
  have hl : (loadCells ⟨b, o, none⟩ n).run P w = .ok D w := by
    rw [run_loadCells w ⟨b, o, none⟩ n (fun j => D.getD j undef) (fun j hj => by
      rw [Addr.add_lit, h j hj, Array.getElem?_eq_getElem (by omega)]
      simp [Array.getD, show j < D.size by omega])]
    congr 1
    refine Array.ext (by simp [hn]) fun j h1 h2 => ?_
    simp [Array.getD, h2]
  cases hq : P.info? ty with
  | none => simp [hq] at hi
  | some i =>
    have hs : i.size = n := by simpa [hq] using hi
    have hagg : (isAgg ty).run P w = .ok true w := by
      unfold isAgg
      rw [Sem.run_bind, run_underlying hu w]
      cases d <;> simp_all [isAggDesc]
    have hv : (loadVar ty ⟨b, o, none⟩).run P w = .ok (.agg D) w := by
      simp [loadVar, Sem.run_bind, hagg, sizeOf, typeInfo, hq, hs, hl]
    unfold loadAgg
    simp [Instr.loadAt, Instr.sureAddr, hv]
theorem load_step {w : World} {b o : Nat} {z : Stp} (h : ∀ j, j < 4 → w.cell? ⟨b, o + j, none⟩ = z.cells[j]?) : loadAgg Try.prog w 37 (.pointer (some ⟨b, o, none⟩)) = .ok (.value (.agg #[.int .i64 z.v, .int .i64 z.n, .int .i64 z.m, .slice z.a z.t.length z.c])) w :=
  load_cells (D := #[.int .i64 z.v, .int .i64 z.n, .int .i64 z.m, .slice z.a z.t.length z.c]) Try.underlying37 rfl (by kernel_rfl) rfl fun j hj => by rw [h j hj]; simp [Stp.cells]
theorem load_dstp (w : World) (g : Nat) (h : (rowAt w g).isSome = true) (hn : 0 + 4 ≤ (rowCells w g).size) :
    loadAgg Try.prog w 37 (.pointer (some ⟨g, 0, none⟩)) = .ok (.value (.agg ((rowCells w g).extract 0 (0 + 4)))) w := loadAgg_row Try.underlying37 rfl (by kernel_rfl) h hn
theorem store_dstp (w : World) (g : Nat) (a b c : Int) (A : Option Addr) (n k : Nat) (h : (rowAt w g).isSome = true) (hn : 0 + 4 ≤ (rowCells w g).size) :
    storeAgg Try.prog w 37 (.pointer (some ⟨g, 0, none⟩)) (.agg #[.int .i64 a, .int .i64 b, .int .i64 c, .slice A n k]) = .ok .skip (w.setRow g (splice (rowCells w g) 0 #[.int .i64 a, .int .i64 b, .int .i64 c, .slice A n k])) :=
  storeAgg_row (by kernel_rfl) (by simp [Value.oneCell']) h hn
theorem cut4d (a b c d : Value) : (#[a, b, c, d] : Array Value).extract 0 (0 + 4) = #[a, b, c, d] := rfl
theorem splice4d (a b c d x y z u : Value) : splice #[a, b, c, d] 0 #[x, y, z, u] = #[x, y, z, u] := rfl
attribute [local go_sem] rowCells rowAt_alloc rowAt_drew rowAt_setRow rowAt_setCell setRow_alloc load_ref store_ref cut3 splice3 load_dstp store_dstp cut4d splice4d
attribute [local go_sem ↓] xstore_ref xload_ref xalloc_ref xload_do11 xstore_do11 xalloc_do11
theorem store_newd (w : World) (a b c : Int) (A : Option Addr) (n k : Nat) : storeAgg Try.prog (w.alloc (.cells #[.int .i64 0, .int .i64 0, .int .i64 0, .slice none 0 0] 37)) 37 (.pointer (some ⟨w.heap.size, 0, none⟩)) (.agg #[.int .i64 a, .int .i64 b, .int .i64 c, .slice A n k]) = .ok .skip (w.alloc (.cells #[.int .i64 a, .int .i64 b, .int .i64 c, .slice A n k] 37)) := by
  rw [store_dstp]
  · simp [go_sem]
  · simp [go_sem]
  · simp [go_sem]
/-- May the steps be gone through? -/
def fewB (L : Nat) (E : Nat → Stp) : Prop := L ≤ 30 ∧ ∀ i, i < L → (E i).t.length ≤ 400
theorem Steps.below {w w' : World} {A : Option Addr} {L : Nat} {E : Nat → Stp} (h : Steps w A L E) (hb : Below w.heap.size w w') : Steps w' A L E :=
  ⟨fun i hi => by
    obtain ⟨b, o, h1, h2⟩ := h.cell i hi
    refine ⟨b, o, h1, fun j hj => ?_⟩
    have h3 := h2 j hj
    have hs : (E i).cells[j]? = some ((E i).cells[j]'(by simp [Stp.cells]; omega)) := List.getElem?_eq_getElem _
    rw [hs] at h3 ⊢
    exact (hb.cell (World.block_lt_of_cell? _ _ h3)).trans h3, fun i hi => (h.by_ i hi).below hb, h.cap, h.nil⟩
def FewR (L : Nat) (E : Nat → Stp) (w : World) (e : Ending) (w' : World) : Prop := ∃ b, e = .returned (.bool b) ∧ (b = true → fewB L E) ∧ Below w.heap.size w w'
theorem FewR.mk {L : Nat} {E : Nat → Stp} {w w' : World} (b : Bool) (e : Ending) (h : e = .returned (.bool b)) (h1 : b = true → fewB L E) (h2 : Below w.heap.size w w') : FewR L E w e w' := ⟨b, h, h1, h2⟩
set_option maxRecDepth 10000 in
set_option maxHeartbeats 2000000 in
theorem few_any (A : Option Addr) (c L : Nat) (E : Nat → Stp) (hL : L ≤ 9223372036854775807) (hc : L ≤ c) (w : World) (h : Steps w A L E) :
    Calls Try.prog 14 #[.slice A L c] w (FewR L E w) := by
  have HS := Lib.hid h
  clear h
  go_enter Try.func14, Try.ntmps14
  go_wp2_with fail
  go_loopw [7] (fun i w' => ∃ k : Nat, k ≤ L ∧ i = .int .i64 k ∧ (∀ j, j < k → (E j).t.length ≤ 400) ∧ Below w.heap.size w w') (fun i _ => L - (intOf i).toNat)
  case atStart => exact ⟨0, Nat.zero_le _, rfl, fun j hj => absurd hj (Nat.not_lt_zero _), Below.refl _ _⟩
  case round =>
    rename World => wr
    obtain ⟨k, hk, rfl, hall, hb⟩ := hrel
    have HB := Lib.hid hb
    have HA := Lib.hid hall
    clear hall
    by_cases hlt : k < L
    · obtain ⟨b, o, rfl, hcell⟩ := (HS.out.below hb).cell k hlt
      have hld : loadAgg Try.prog wr 37 (.pointer (some ⟨b, o + k * 4, none⟩)) = .ok (.value (.agg #[.int .i64 (E k).v, .int .i64 (E k).n, .int .i64 (E k).m, .slice (E k).a (E k).t.length (E k).c])) wr := load_step hcell
      have HEk : Hid (E k = E k) := Lib.hid rfl
      clear hb hcell
      obtain ⟨z, hz⟩ : ∃ z, E k = z := ⟨_, rfl⟩
      rw [hz] at hld
      have HZ := Lib.hid hz
      clear hz HEk
      obtain ⟨zv, zn, zm, za, zc, zt⟩ := z
      by_cases h4 : zt.length ≤ 400
      · have h4' : decide ((400 : Int) < (zt.length : Int)) = false := decide_eq_false (by omega)
        go_wp2_with fail
        go_roundw
        case rel =>
          refine ⟨k + 1, by omega, by go_num, fun j hj => ?_, below_allocS HB.out _⟩
          by_cases hjk : j = k
          · rw [hjk, HZ.out]; exact h4
          · exact HA.out j (by omega)
        case measure => simp [intOf]; omega
      · have h4' : decide ((400 : Int) < (zt.length : Int)) = true := decide_eq_true (by omega)
        go_wp2_with fail
        go_ret
        exact FewR.mk false _ rfl (fun h => by cases h) (below_allocS HB.out _)
    · obtain rfl : k = L := by omega
      clear hb
      by_cases h30 : k ≤ 30
      · have h30' : decide ((k : Int) ≤ 30) = true := decide_eq_true (by omega)
        go_wp2_with fail
        go_ret
        exact FewR.mk true _ rfl (fun _ => ⟨h30, HA.out⟩) HB.out
      · have h30' : decide ((k : Int) ≤ 30) = false := decide_eq_false (by omega)
        go_wp2_with fail
        go_ret
        exact FewR.mk false _ rfl (fun h => by cases h) HB.out
end Go.Proofs.Ytfnbcafilbafgaa
