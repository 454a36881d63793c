/-
  Layer 2 (vec) and its reference: what each function does.
-/
import Derived.Test.YtpjichkigccfnaaMul
import Derived.Test.YtpjichkigccfnaaReg
namespace Go.Proofs.Ytpjichkigccfnaa
set_option maxRecDepth 20000
open Go.RowKit

/-! The type api.Vec: 16 ints. -/
section
variable (ρ : Operand → Value) (d : Option Tmp) (T : TypeId) (p : String) (af : Array Edge) (gd : Option (Nat × Bool)) (x y : Operand) (ty' : TypeId) (w : World)
theorem xstore_vec : (execOp ρ ⟨d, .store 40 x y, T, p, af, gd⟩).run Try.prog w = storeAgg Try.prog w 40 (ρ x) (ρ y) := rfl
theorem xload_vec : (execOp ρ ⟨d, .load 40 x, T, p, af, gd⟩).run Try.prog w = loadAgg Try.prog w 40 (ρ x) := rfl
theorem xalloc_vec : (execOp ρ ⟨d, .alloc 40, T, p, af, gd⟩).run Try.prog w = .ok (.value (.pointer (some ⟨w.heap.size, 0, none⟩))) (w.alloc (.cells (ints 16 fun _ => 0) 40)) :=
  (exec_alloc ..).trans (allocAgg_ok (by kernel_rfl))
theorem xindex_vec : (execOp ρ ⟨d, .index 40 x y, T, p, af, gd⟩).run Try.prog w = indexAgg Try.prog w 40 (ρ x) (ρ y) := rfl
theorem xbuild_vec0 : (execOp ρ ⟨d, .build 40 #[], T, p, af, gd⟩).run Try.prog w = .ok (.value (.agg (ints 16 fun _ => 0))) w := by kernel_rfl
theorem xeql_vec : (execOp ρ ⟨d, .binOp .eql 40 x y ty', T, p, af, gd⟩).run Try.prog w = eqlAgg Try.prog w .eql 40 x y (ρ x) (ρ y) := rfl
theorem xneq_vec : (execOp ρ ⟨d, .binOp .neq 40 x y ty', T, p, af, gd⟩).run Try.prog w = eqlAgg Try.prog w .neq 40 x y (ρ x) (ρ y) := rfl
end
theorem load_vec (w : World) (g o : Nat) (h : (rowAt w g).isSome = true) (hn : o + 16 ≤ (rowCells w g).size) :
    loadAgg Try.prog w 40 (.pointer (some ⟨g, o, none⟩)) = .ok (.value (.agg ((rowCells w g).extract o (o + 16)))) w := loadAgg_row Try.underlying40 rfl (by kernel_rfl) h hn
theorem load_vec_later {B : Nat} {w : World} (x : Later B w) (g o : Nat) (hg : g < B) :
    loadAgg Try.prog x.wd 40 (.pointer (some ⟨g, o, none⟩)) = if (rowAt w g).isSome = true ∧ o + 16 ≤ (rowCells w g).size then .ok (.value (.agg ((rowCells w g).extract o (o + 16)))) x.wd else stuckLoad Try.prog x.wd 40 g o :=
  loadAgg_later x Try.underlying40 rfl (by kernel_rfl) hg
theorem store_vec (w : World) (g o : Nat) (f : Nat → Int) (h : (rowAt w g).isSome = true) (hn : o + 16 ≤ (rowCells w g).size) :
    storeAgg Try.prog w 40 (.pointer (some ⟨g, o, none⟩)) (.agg (ints 16 f)) = .ok .skip (w.setRow g (splice (rowCells w g) o (ints 16 f))) :=
  storeAgg_row (by rw [size_ints]; kernel_rfl) (one_ints _ _) h (by rw [size_ints]; exact hn)
theorem index_vec (w : World) (f : Nat → Int) (k : Nat) (h : k < 16) : indexAgg Try.prog w 40 (.agg (ints 16 f)) (.int .i64 (k : Int)) = .ok (.value (.int .i64 (f k))) w :=
  indexAgg_one (ints 16 f) Try.underlying40 Try.underlying3 rfl (by kernel_rfl) (by omega) (by omega) (by rw [Int.toNat_natCast]; exact get_ints 16 f k h)
theorem int_of {P : Program} {D D' n : Nat} {t : TypeId} (h : EqInt P D t n) (hd : D ≤ D') : EqInt P D' t n := fun d hd' => h d (Nat.le_trans hd hd')
theorem eq_vec : EqInt Try.prog 2 40 (16 * 1) := EqInt.array Try.underlying40 (by kernel_rfl) (EqInt.int Try.underlying3) (by kernel_rfl)
theorem eql_vec (w : World) (x y : Operand) (f g : Nat → Int) : eqlAgg Try.prog w .eql 40 x y (.agg (ints 16 f)) (.agg (ints 16 g)) = .ok (.value (.bool (eqI 16 f g))) w :=
  (eqlAgg_ints Try.underlying40 rfl (by kernel_rfl) (by kernel_rfl) (int_of eq_vec (by omega)) w x y f g).1
theorem neq_vec (w : World) (x y : Operand) (f g : Nat → Int) : eqlAgg Try.prog w .neq 40 x y (.agg (ints 16 f)) (.agg (ints 16 g)) = .ok (.value (.bool (!eqI 16 f g))) w :=
  (eqlAgg_ints Try.underlying40 rfl (by kernel_rfl) (by kernel_rfl) (int_of eq_vec (by omega)) w x y f g).2
end Go.Proofs.Ytpjichkigccfnaa
