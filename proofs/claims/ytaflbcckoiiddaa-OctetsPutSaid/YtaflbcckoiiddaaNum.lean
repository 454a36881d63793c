/-
  Layer 1 (num) and its reference: what each function does, function by function.
-/
import Derived.Test.YtaflbcckoiiddaaProg
import Derived.Test.YtaflbcckoiiddaaBase
import Derived.Recover
namespace Go.Proofs.Ytaflbcckoiiddaa
open Go.RowKit

/-- A number that may be. -/
def isB (n : Int) : Bool := decide (-1099511627776 ≤ n) && decide (n ≤ 1099511627776)
theorem isB_iff {n : Int} : isB n = true ↔ -1099511627776 ≤ n ∧ n ≤ 1099511627776 := by simp [isB]
theorem isB_not {n : Int} : isB n = false ↔ ¬ (-1099511627776 ≤ n ∧ n ≤ 1099511627776) := by rw [← isB_iff]; simp

set_option maxHeartbeats 400000 in
theorem is_any (n : Int) (w : World) : Calls Try.prog 22 #[.int .i64 n] w fun e w' => e = .returned (.bool (isB n)) ∧ w = w' := by
  by_cases h : -1099511627776 ≤ n
  all_goals
    go_enter Try.func22, Try.ntmps22
    go_wp2
    go_ret
    refine ⟨?_, rfl⟩
    simp [isB]
    try omega

/-- The number, if all may be, and the error. -/
def rn (ok : Bool) (n : Int) : Int := if ok then n else 0
def re (ok : Bool) : Int := if ok then 0 else 2
/-- What a row of three is checked for. -/
def all3 (n a b : Int) : Bool := isB a && isB b && isB n
def addOk (a b : Int) : Bool := isB a && isB b && isB (a + b)
def subOk (a b : Int) : Bool := isB a && isB b && isB (a - b)
def mulOk (a b : Int) : Bool := isB a && isB b && isB (a * b)
theorem all3_add (a b : Int) : all3 (wrap64 (a + b)) a b = addOk a b := by
  unfold all3 addOk
  by_cases h : isB a = true ∧ isB b = true
  · rw [h.1, h.2]
    have h1 := isB_iff.1 h.1
    have h2 := isB_iff.1 h.2
    rw [show wrap64 (a + b) = a + b by unfold wrap64; omega]
  · cases ha : isB a <;> cases hb : isB b <;> simp_all
theorem all3_sub (a b : Int) : all3 (wrap64 (a - b)) a b = subOk a b := by
  unfold all3 subOk
  by_cases h : isB a = true ∧ isB b = true
  · rw [h.1, h.2]
    have h1 := isB_iff.1 h.1
    have h2 := isB_iff.1 h.2
    rw [show wrap64 (a - b) = a - b by unfold wrap64; omega]
  · cases ha : isB a <;> cases hb : isB b <;> simp_all
theorem rn_wrap_add (a b : Int) : rn (addOk a b) (wrap64 (a + b)) = rn (addOk a b) (a + b) := by
  unfold rn
  split
  · rename_i h
    simp only [addOk, Bool.and_eq_true] at h
    have h1 := isB_iff.1 h.1.1
    have h2 := isB_iff.1 h.1.2
    unfold wrap64; omega
  · rfl
theorem rn_wrap_sub (a b : Int) : rn (subOk a b) (wrap64 (a - b)) = rn (subOk a b) (a - b) := by
  unfold rn
  split
  · rename_i h
    simp only [subOk, Bool.and_eq_true] at h
    have h1 := isB_iff.1 h.1.1
    have h2 := isB_iff.1 h.1.2
    unfold wrap64; omega
  · rfl

/-! Try. -/
theorem assert_errno (n : Int) (w : World) : (Instr.typeAssert (.iface 27 (.int .i64 n)) 20 27 true).run Try.prog w = .ok (.tuple #[.int .i64 n, .bool true]) w := by kernel_rfl
theorem assert_string (s : ByteArray) (w : World) : (Instr.typeAssert (.iface 9 (.string s)) 20 27 true).run Try.prog w = .ok (.tuple #[.int .i64 0, .bool false]) w := by kernel_rfl
theorem eql_nil_func (w : World) : (binOp .eql 26 .nilFunc .nilFunc).run Try.prog w = .ok (.bool true) w := by kernel_rfl
theorem eql_func_nil (f : Fn) (a b : Array Value) (w : World) : (binOp .eql 26 (.func f a b) .nilFunc).run Try.prog w = .ok (.bool false) w := by kernel_rfl
end Go.Proofs.Ytaflbcckoiiddaa
