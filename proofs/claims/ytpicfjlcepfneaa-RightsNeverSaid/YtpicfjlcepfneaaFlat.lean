/-
  The type [16]api.Rights: 16 states in one block.
-/
import Derived.Test.YtpicfjlcepfneaaRPlay
namespace Go.Proofs.Ytpicfjlcepfneaa
open Go.RowKit
/-- 16 states, one behind the other. -/
def flatA (S : Nat → Nat → Int) : Array Value := ints 4608 fun q => S (q / 288) (q % 288)
theorem size_flatA (S : Nat → Nat → Int) : (flatA S).size = 4608 := size_ints _ _
theorem one_flatA (S : Nat → Nat → Int) : (flatA S).all (fun v => v.oneCell') = true := one_ints _ _
theorem cut_flatA (S : Nat → Nat → Int) (a : Nat) (h : a < 16) : cut (flatA S) (a * 288) 288 = ints 288 (S a) := by
  unfold flatA
  rw [cut_ints _ _ _ _ (by omega)]
  refine ints_congr fun i hi => ?_
  show S ((a * 288 + i) / 288) ((a * 288 + i) % 288) = S a i
  rw [show (a * 288 + i) / 288 = a by omega, show (a * 288 + i) % 288 = i by omega]
theorem cut_flatA_all (S : Nat → Nat → Int) : cut (flatA S) 0 4608 = flatA S := by
  unfold flatA
  rw [cut_ints _ _ _ _ (by omega), sub_zero]
theorem splice_flatA (S : Nat → Nat → Int) (a : Nat) (r : Nat → Int) (h : a < 16) : splice (flatA S) (a * 288) (ints 288 r) = flatA (setS S a r) := by
  unfold flatA
  rw [splice_ints _ _ _ _ _ (by omega)]
  refine ints_congr fun q hq => ?_
  unfold setS
  by_cases hc : q / 288 = a
  · rw [if_pos (by omega), if_pos hc, show q - a * 288 = q % 288 by omega]
  · rw [if_neg (by omega), if_neg hc]
theorem splice_flatA_all (S T : Nat → Nat → Int) : splice (flatA S) 0 (flatA T) = flatA T := splice_all _ _ _ (size_flatA S)
theorem flatA_congr {S T : Nat → Nat → Int} (h : ∀ a, a < 16 → ∀ q, q < 288 → S a q = T a q) : flatA S = flatA T := ints_congr fun q hq => h _ (by omega) _ (by omega)
section
variable (ρ : Operand → Value) (d : Option Tmp) (T : TypeId) (p : String) (af : Array Edge) (gd : Option (Nat × Bool)) (x y : Operand) (ty' : TypeId) (w : World)
theorem xstore_states : (execOp ρ ⟨d, .store 39 x y, T, p, af, gd⟩).run Try.prog w = storeAgg Try.prog w 39 (ρ x) (ρ y) := rfl
theorem xload_states : (execOp ρ ⟨d, .load 39 x, T, p, af, gd⟩).run Try.prog w = loadAgg Try.prog w 39 (ρ x) := rfl
set_option maxRecDepth 100000 in
theorem xalloc_states : (execOp ρ ⟨d, .alloc 39, T, p, af, gd⟩).run Try.prog w = .ok (.value (.pointer (some ⟨w.heap.size, 0, none⟩))) (w.alloc (.cells (flatA fun _ _ => 0) 39)) :=
  (exec_alloc ..).trans (allocAgg_ok (by kernel_rfl))
theorem xindex_states : (execOp ρ ⟨d, .index 39 x y, T, p, af, gd⟩).run Try.prog w = indexAgg Try.prog w 39 (ρ x) (ρ y) := rfl
end
theorem load_states (w : World) (g o : Nat) (h : (rowAt w g).isSome = true) (hn : o + 4608 ≤ (rowCells w g).size) :
    loadAgg Try.prog w 39 (.pointer (some ⟨g, o, none⟩)) = .ok (.value (.agg (cut (rowCells w g) o 4608))) w := loadAgg_row Try.underlying39 rfl (by kernel_rfl) h hn
theorem store_states (w : World) (g o : Nat) (S : Nat → Nat → Int) (h : (rowAt w g).isSome = true) (hn : o + 4608 ≤ (rowCells w g).size) :
    storeAgg Try.prog w 39 (.pointer (some ⟨g, o, none⟩)) (.agg (flatA S)) = .ok .skip (w.setRow g (splice (rowCells w g) o (flatA S))) :=
  storeAgg_row (by rw [size_flatA]; kernel_rfl) (one_flatA _) h (by rw [size_flatA]; exact hn)
theorem index_states (w : World) (S : Nat → Nat → Int) (k : Nat) (h : k < 16) : indexAgg Try.prog w 39 (.agg (flatA S)) (.int .i64 (k : Int)) = .ok (.value (.agg (ints 288 (S k)))) w := by
  have := indexAgg_agg (P := Try.prog) (w := w) (n := 288) (k := .i64) (i := (k : Int)) (flatA S) Try.underlying39 Try.underlying26 rfl (by kernel_rfl) (by omega) (by omega)
  rw [Int.toNat_natCast] at this
  rw [this]
  exact congrArg (fun c => Result.ok (Next.value (.agg c)) w) (cut_flatA S k h)
end Go.Proofs.Ytpicfjlcepfneaa
