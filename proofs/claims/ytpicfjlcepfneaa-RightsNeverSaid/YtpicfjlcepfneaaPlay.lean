/-
  The walk of Play.
-/
import Derived.Test.YtpicfjlcepfneaaFlat
import Derived.Test.YtpicfjlcepfneaaRJoin
namespace Go.Proofs.Ytpicfjlcepfneaa
open Go.RowKit
set_option linter.unusedSimpArgs false
section
variable (ρ : Operand → Value) (d : Option Tmp) (T : TypeId) (p : String) (af : Array Edge) (gd : Option (Nat × Bool)) (x y : Operand) (w : World)
theorem xstore_do : (execOp ρ ⟨d, .store 60 x y, T, p, af, gd⟩).run Try.prog w = storeAgg Try.prog w 60 (ρ x) (ρ y) := rfl
theorem xload_do : (execOp ρ ⟨d, .load 60 x, T, p, af, gd⟩).run Try.prog w = loadAgg Try.prog w 60 (ρ x) := rfl
theorem xalloc_do : (execOp ρ ⟨d, .alloc 60, T, p, af, gd⟩).run Try.prog w = .ok (.value (.pointer (some ⟨w.heap.size, 0, none⟩))) (w.alloc (.cells (ints 4 fun _ => 0) 60)) :=
  (exec_alloc ..).trans (allocAgg_ok (by kernel_rfl))
end
theorem store_do (w : World) (g o : Nat) (f : Nat → Int) (h : (rowAt w g).isSome = true) (hn : o + 4 ≤ (rowCells w g).size) :
    storeAgg Try.prog w 60 (.pointer (some ⟨g, o, none⟩)) (.agg (ints 4 f)) = .ok .skip (w.setRow g (splice (rowCells w g) o (ints 4 f))) :=
  storeAgg_row (by rw [size_ints]; kernel_rfl) (one_ints _ _) h (by rw [size_ints]; exact hn)
/-- A variable of ints that came in, read cell by cell. -/
theorem loadAgg_cells {P : Program} {w : World} {b o n : Nat} {D : Nat → Int} {ty : TypeId} {d : TypeDesc} (hu : P.underlying ty = some d) (hd : isAggDesc d = true) (hi : (P.info? ty).map (·.size) = some n)
    (h : ∀ j, j < n → w.cell? ⟨b, o + j, none⟩ = some (.int .i64 (D j))) : loadAgg P w ty (.pointer (some ⟨b, o, none⟩)) = .ok (.value (.agg (ints n D))) w := by
  have hl : (loadCells ⟨b, o, none⟩ n).run P w = .ok (ints n D) w := by
    rw [run_loadCells w ⟨b, o, none⟩ n (fun j => .int .i64 (D j)) (fun j hj => by rw [Addr.add_lit]; exact h j hj)]
    rfl
  cases hq : P.info? ty with
  | none => simp [hq] at hi
  | some i =>
    have hs : i.size = n := by simpa [hq] using hi
    have hagg : (isAgg ty).run P w = .ok true w := by
      unfold isAgg
      rw [Sem.run_bind, run_underlying hu w]
      cases d <;> simp_all [isAggDesc]
    have hv : (loadVar ty ⟨b, o, none⟩).run P w = .ok (.agg (ints n D)) w := by
      simp [loadVar, Sem.run_bind, hagg, sizeOf, typeInfo, hq, hs, hl]
    unfold loadAgg
    simp [Instr.loadAt, Instr.sureAddr, hv]
theorem load_do {w : World} {b o : Nat} {D : Nat → Int} (h : ∀ j, j < 4 → w.cell? ⟨b, o + j, none⟩ = some (.int .i64 (D j))) : loadAgg Try.prog w 60 (.pointer (some ⟨b, o, none⟩)) = .ok (.value (.agg (ints 4 D))) w :=
  loadAgg_cells Try.underlying60 rfl (by kernel_rfl) h
/-- The states behind m steps. -/
def playS (D : Nat → Int) : Nat → Nat → Nat → Int
  | 0 => fun _ _ => 0
  | m + 1 => stepS (playS D m) (D (m * 4)) (D (m * 4 + 1)) (D (m * 4 + 2)) (D (m * 4 + 3))
end Go.Proofs.Ytpicfjlcepfneaa
