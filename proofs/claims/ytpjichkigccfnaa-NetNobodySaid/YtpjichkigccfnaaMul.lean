/-
  Layer 1 (num): products; the reference's.
-/
import Derived.Test.YtpjichkigccfnaaSum
namespace Go.Proofs.Ytpjichkigccfnaa
set_option maxRecDepth 20000
open Go.RowKit
attribute [local go_sem] rn_true rn_false re_true re_false

theorem all3_zero (a b : Int) : all3 0 a b = (isB a && isB b) := by simp [all3, isB]
theorem mul_big {a b : Int} (h0 : 1 ≤ a) : b ≤ 1099511627776 / a ↔ a * b ≤ 1099511627776 := by
  rw [Int.le_ediv_iff_mul_le (by omega), Int.mul_comm]
/-- |x|. -/
def ab (x : Int) : Int := if x < -x then -x else x
theorem ab_nonneg (x : Int) : 0 ≤ ab x := by unfold ab; split <;> omega
theorem isB_ab (x : Int) : isB x = decide (ab x ≤ 1099511627776) := by
  rw [Bool.eq_iff_iff, isB_iff, decide_eq_true_iff]; unfold ab; split <;> constructor <;> intro h <;> (try constructor) <;> omega
theorem ab_mul (a b : Int) : ab (a * b) = ab a * ab b := by
  unfold ab
  rcases Int.lt_or_le a 0 with ha | ha <;> rcases Int.lt_or_le b 0 with hb | hb
  · have : 0 < a * b := Int.mul_pos_of_neg_of_neg ha hb
    rw [if_neg (by omega), if_pos (by omega), if_pos (by omega), Int.neg_mul_neg]
  · have : a * b ≤ 0 := Int.mul_nonpos_of_nonpos_of_nonneg (by omega) hb
    rcases Int.lt_or_le b (-b) with h | h
    · omega
    rw [if_pos (show a < -a by omega), if_neg (show ¬ b < -b by omega), Int.neg_mul]
    split <;> omega
  · have : a * b ≤ 0 := Int.mul_nonpos_of_nonneg_of_nonpos ha (by omega)
    rw [if_neg (show ¬ a < -a by omega), if_pos (show b < -b by omega), Int.mul_neg]
    split <;> omega
  · have : 0 ≤ a * b := Int.mul_nonneg ha hb
    rw [if_neg (by omega), if_neg (by omega), if_neg (by omega)]

theorem mulOk_ab {a b : Int} (h : isB a = true ∧ isB b = true) (ha : 1 ≤ ab a) : mulOk a b = decide (ab b ≤ 1099511627776 / ab a) := by
  unfold mulOk
  rw [h.1, h.2, isB_ab (a * b), ab_mul, Bool.true_and, Bool.true_and]
  rw [Bool.eq_iff_iff, decide_eq_true_iff, decide_eq_true_iff]
  exact (mul_big ha).symm
theorem mulOk_bd {a b : Int} (h : mulOk a b = true) : -1099511627776 ≤ a * b ∧ a * b ≤ 1099511627776 := by
  simp only [mulOk, Bool.and_eq_true] at h
  exact isB_iff.1 h.2
theorem ab_pos {a : Int} (h : 0 ≤ a) : ab a = a := by unfold ab; rw [if_neg (by omega)]
theorem ab_neg {a : Int} (h : a < 0) : ab a = -a := by unfold ab; rw [if_pos (by omega)]
/-- What the reference's loop keeps: what is added, what is doubled, how often yet. -/
structure Dbl (X Y n p y : Int) : Prop where
  eq : n + p * y = X * Y
  y0 : 0 ≤ y
  yY : y ≤ 1099511627776
  n1 : -1099511627776 ≤ n
  n2 : n ≤ 1099511627776
  p1 : -4398046511104 ≤ p
  p2 : p ≤ 4398046511104
  pos : 0 ≤ X → 0 ≤ n ∧ 0 ≤ p
  neg : X ≤ 0 → n ≤ 0 ∧ p ≤ 0
/-- Behind a round: the next n, the next y. -/
def nx (n p y : Int) : Int := if y % 2 = 1 then n + p else n
theorem Dbl.next {X Y n p y : Int} (h : Dbl X Y n p y) : nx n p y + (p + p) * (y / 2) = X * Y := by
  have e : y = 2 * (y / 2) + y % 2 := by omega
  have h2 : p * y = (p + p) * (y / 2) + p * (y % 2) := by
    rw [e, Int.mul_add, ← Int.mul_assoc, Int.mul_comm p 2, Int.two_mul]
    congr 1
    · congr 1; omega
    · congr 1; omega
  have h3 := h.eq
  rw [h2] at h3
  unfold nx
  split
  · rename_i h1; rw [h1, Int.mul_one] at h3; omega
  · rename_i h1
    rw [show y % 2 = 0 by omega, Int.mul_zero] at h3; omega
theorem Dbl.round {X Y n p y : Int} (h : Dbl X Y n p y) (hn : isB (nx n p y) = true) (hp : y / 2 = 0 ∨ isB p = true) : Dbl X Y (nx n p y) (p + p) (y / 2) ∨ (y / 2 = 0 ∧ nx n p y = X * Y) := by
  have hy := h.y0
  have hY := h.yY
  have hs : (0 ≤ X → 0 ≤ nx n p y) ∧ (X ≤ 0 → nx n p y ≤ 0) := by
    unfold nx; split
    · exact ⟨fun hx => by have := h.pos hx; omega, fun hx => by have := h.neg hx; omega⟩
    · exact ⟨fun hx => (h.pos hx).1, fun hx => (h.neg hx).1⟩
  by_cases h0 : y / 2 = 0
  · right
    refine ⟨h0, ?_⟩
    have := h.next
    rw [h0, Int.mul_zero] at this; omega
  · left
    have hpb := isB_iff.1 (hp.resolve_left h0)
    have hnb := isB_iff.1 hn
    exact ⟨h.next, by omega, by omega, hnb.1, hnb.2, by omega, by omega, fun hx => ⟨hs.1 hx, by have := (h.pos hx).2; omega⟩, fun hx => ⟨hs.2 hx, by have := (h.neg hx).2; omega⟩⟩
theorem Dbl.big {X Y n p y : Int} (h : Dbl X Y n p y) (hbad : isB (nx n p y) = false ∨ (0 < y / 2 ∧ isB p = false)) : isB (X * Y) = false := by
  have hy := h.y0
  have e := h.next
  have hs : (0 ≤ X → 0 ≤ nx n p y) ∧ (X ≤ 0 → nx n p y ≤ 0) := by
    unfold nx; split
    · exact ⟨fun hx => by have := h.pos hx; omega, fun hx => by have := h.neg hx; omega⟩
    · exact ⟨fun hx => (h.pos hx).1, fun hx => (h.neg hx).1⟩
  have hy2 : 0 ≤ y / 2 := by omega
  rw [isB_not]
  rcases Int.le_total 0 X with hX | hX
  · have hp := (h.pos hX).2
    have hn := hs.1 hX
    have hm : 0 ≤ (p + p) * (y / 2) := Int.mul_nonneg (by omega) hy2
    rcases hbad with hb | ⟨h1, hb⟩
    · have := isB_not.1 hb; omega
    · have := isB_not.1 hb
      have h2 : (p + p) * 1 ≤ (p + p) * (y / 2) := Int.mul_le_mul_of_nonneg_left (by omega) (by omega)
      omega
  · have hp := (h.neg hX).2
    have hn := hs.2 hX
    have hm : (p + p) * (y / 2) ≤ 0 := Int.mul_nonpos_of_nonpos_of_nonneg (by omega) hy2
    rcases hbad with hb | ⟨h1, hb⟩
    · have := isB_not.1 hb; omega
    · have := isB_not.1 hb
      have h2 : (p + p) * (y / 2) ≤ (p + p) * 1 := Int.mul_le_mul_of_nonpos_left (by omega) (by omega)
      omega
theorem Dbl.start {X Y : Int} (h1 : -1099511627776 ≤ X) (h2 : X ≤ 1099511627776) (h3 : 0 ≤ Y) (h4 : Y ≤ 1099511627776) : Dbl X Y 0 X Y :=
  ⟨by omega, h3, h4, by omega, by omega, by omega, by omega, fun h => ⟨by omega, h⟩, fun h => ⟨by omega, h⟩⟩
theorem mulOk_of {a b X Y : Int} (ha : isB a = true) (hb : isB b = true) (h : X * Y = a * b) : (isB (X * Y) = false → mulOk a b = false) ∧ (isB (X * Y) = true → mulOk a b = true) := by
  rw [h]; unfold mulOk; rw [ha, hb]
  exact ⟨fun h => by rw [h]; rfl, fun h => by rw [h]; rfl⟩
/-! The same, each way alone. -/
theorem add_to {a b c : Int} (h : addOk a b = true) (hc : a + b = c) (w : World) : Calls Try.prog 109 #[.int .i64 a, .int .i64 b] w fun e w' => e = .returned (.tuple #[.int .i64 c, .int .i64 0]) ∧ Below w.heap.size w w' := by
  subst hc; have := add_any a b w; rwa [h] at this
theorem add_no {a b : Int} (h : addOk a b = false) (w : World) : Calls Try.prog 109 #[.int .i64 a, .int .i64 b] w fun e w' => e = .returned (.tuple #[.int .i64 0, .int .i64 2]) ∧ Below w.heap.size w w' := by
  have := add_any a b w; rwa [h] at this
theorem addOk_comm (a b : Int) : addOk a b = addOk b a := by unfold addOk; rw [Int.add_comm a b, Bool.and_comm (isB a) (isB b)]
theorem mulOk_comm (a b : Int) : mulOk a b = mulOk b a := by unfold mulOk; rw [Int.mul_comm a b, Bool.and_comm (isB a) (isB b)]
theorem addOk_parts {a b : Int} (h : addOk a b = true) : isB a = true ∧ isB b = true ∧ isB (a + b) = true := by simpa [addOk, and_assoc] using h
theorem mulOk_parts {a b : Int} (h : mulOk a b = true) : isB a = true ∧ isB b = true ∧ isB (a * b) = true := by simpa [mulOk, and_assoc] using h
theorem mul_0 {a : Int} (h : isB a = true) : mulOk a 0 = true := by unfold mulOk; rw [h, Int.mul_zero]; rfl
theorem mul_1 {a : Int} (h : isB a = true) : mulOk a 1 = true := by unfold mulOk; rw [h, Int.mul_one, h]; rfl
theorem mul_m1 {a : Int} (h : isB a = true) : mulOk a (-1) = true := by
  have := isB_iff.1 h
  unfold mulOk; rw [h, show a * (-1) = -a by omega, show isB (-a) = true from isB_iff.2 (by omega)]; rfl
end Go.Proofs.Ytpjichkigccfnaa
