/-
  Layer 8 (octets): what was put is read.
-/
import Derived.Test.YtpjichkigccfnaaAwake8
namespace Go.Proofs.Ytpjichkigccfnaa
set_option maxRecDepth 20000
open Go.RowKit
theorem uB_ind {P : Nat → Prop} (h0 : ∀ u, u < 128 → P u) (h1 : ∀ u, ¬ u < 128 → P (u / 128) → P u) : ∀ n u, u ≤ n → P u := by
  intro n
  induction n with
  | zero => intro u hu; exact h0 u (by omega)
  | succ n ih =>
    intro u hu
    by_cases h : u < 128
    · exact h0 u h
    · exact h1 u h (ih _ (by omega))
theorem uB_rec {P : Nat → Prop} (h0 : ∀ u, u < 128 → P u) (h1 : ∀ u, ¬ u < 128 → P (u / 128) → P u) (u : Nat) : P u := uB_ind h0 h1 u u (Nat.le_refl _)
theorem fst_uB (r : List UInt8) (u : Nat) : fstB (uB u ++ r) + 1 = (uB u).length := by
  refine uB_rec (P := fun u => fstB (uB u ++ r) + 1 = (uB u).length) (fun u h => ?_) (fun u h ih => ?_) u
  · rw [uB_less h, List.singleton_append, fstB, if_pos (by rw [byt_toNat (by omega)]; exact h)]; rfl
  · rw [uB_more h, List.cons_append, fstB, if_neg (by rw [byt_toNat (by omega)]; omega), List.length_cons]
    omega
theorem val_uB (u : Nat) : valB (uB u) = u := by
  refine uB_rec (P := fun u => valB (uB u) = u) (fun u h => ?_) (fun u h ih => ?_) u
  · rw [uB_less h, valB, valB, byt_toNat (by omega)]; omega
  · rw [uB_more h, valB, ih, byt_toNat (by omega)]; omega
theorem uB_some (u : Nat) : 1 ≤ (uB u).length := by
  by_cases h : u < 128
  · rw [uB_less h]; simp
  · rw [uB_more h]; simp
theorem last_uB (r : List UInt8) (u : Nat) : u ≠ 0 → (((uB u ++ r).getD ((uB u).length - 1) 0)).toNat ≠ 0 := by
  refine uB_rec (P := fun u => u ≠ 0 → (((uB u ++ r).getD ((uB u).length - 1) 0)).toNat ≠ 0) (fun u h h0 => ?_) (fun u h ih h0 => ?_) u
  · rw [uB_less h]
    show (byt u).toNat ≠ 0
    rw [byt_toNat (by omega)]; exact h0
  · have h2 := uB_some (u / 128)
    rw [uB_more h, List.length_cons, List.cons_append, show (uB (u / 128)).length + 1 - 1 = ((uB (u / 128)).length - 1) + 1 by omega]
    exact ih (by omega)
theorem unzig_zig {n : Int} (h : isB n = true) : unzig (zig n) = n := by
  unfold unzig zig
  rw [h]
  simp only [if_true]
  by_cases h0 : n < 0
  · simp only [h0, if_true]; rw [if_pos (by omega)]; omega
  · simp only [h0, if_false]; rw [if_neg (by omega)]; omega
theorem rd_numB {n : Int} (h : isB n = true) (r : List UInt8) : rd (numB n ++ r) 0 = (n, 0, r) := by
  have hl := numB_len n
  have h1 := fst_uB r (zig n)
  have h2 := uB_some (zig n)
  have hK : fstB (numB n ++ r) = (numB n).length - 1 := by unfold numB; omega
  have ht : (numB n ++ r).take ((numB n).length - 1 + 1) = numB n := by
    rw [show (numB n).length - 1 + 1 = (numB n).length by unfold numB; omega]; simp
  have hd : (numB n ++ r).drop ((numB n).length - 1 + 1) = r := by
    rw [show (numB n).length - 1 + 1 = (numB n).length by unfold numB; omega]; simp
  have hv : unzig (valB ((numB n ++ r).take ((numB n).length - 1 + 1))) = n := by rw [ht, numB, val_uB, unzig_zig h]
  have := rd_ok (l := numB n ++ r) hK (by rw [List.length_append]; have : 1 ≤ (numB n).length := h2; omega) (by omega) (fun ⟨g1, g2⟩ => ?_) hv h
  · rw [this, hd]
  · refine last_uB r (zig n) (fun hz => ?_) g2
    rw [numB, hz, uB_less (by decide)] at g1
    simp at g1
/-- What is cut off ahead of its last byte. -/
theorem take_uB_all (u : Nat) : ∀ m, m < (uB u).length → ∀ i, i < m → 128 ≤ ((uB u).getD i 0).toNat := by
  refine uB_rec (P := fun u => ∀ m, m < (uB u).length → ∀ i, i < m → 128 ≤ ((uB u).getD i 0).toNat) (fun u h m hm i hi => ?_) (fun u h ih m hm i hi => ?_) u
  · rw [uB_less h] at hm
    simp at hm
    omega
  · rw [uB_more h] at hm ⊢
    cases i with
    | zero => show 128 ≤ (byt _).toNat; rw [byt_toNat (by omega)]; omega
    | succ i =>
      rw [List.length_cons] at hm
      exact ih (m - 1) (by omega) i (by omega)
theorem rd_cut {n : Int} (r : List UInt8) {m : Nat} (hm : m < (numB n).length) : rd ((numB n ++ r).take m) 0 = (0, 3, (numB n ++ r).take m) := by
  have hl := numB_len n
  have ht : (numB n ++ r).take m = (numB n).take m := by rw [List.take_append_of_le_length (by omega)]
  have hlen : ((numB n).take m).length = m := by simp; omega
  have hf : fstB ((numB n).take m) = m := by
    refine fstB_is _ m (by omega) (fun i hi => ?_) (Or.inl hlen.symm)
    have := take_uB_all (zig n) m hm i hi
    rw [List.getD, List.getElem?_take, if_pos hi]
    exact this
  rw [ht]
  exact rd_short (by omega) (by omega)
/-- Numbers, one behind the other. -/
def catB : List Int → List UInt8
  | [] => []
  | n :: t => numB n ++ catB t
theorem catB_append : ∀ l r, catB (l ++ r) = catB l ++ catB r
  | [], r => rfl
  | n :: l, r => by rw [List.cons_append, catB, catB, catB_append l r, List.append_assoc]
theorem catB_len : ∀ l, (catB l).length ≤ 6 * l.length
  | [] => by simp [catB]
  | n :: l => by
    have := catB_len l
    have := numB_len n
    rw [catB, List.length_append, List.length_cons]; omega
theorem catB_take {l : List Int} {k : Nat} (h : k < l.length) : catB (l.take (k + 1)) = catB (l.take k) ++ numB (l.getD k 0) := by
  rw [List.take_succ_eq_append_getElem h, catB_append, catB, catB, List.append_nil]
  simp [List.getD, List.getElem?_eq_getElem h]
theorem catB_drop {l : List Int} {k : Nat} (h : k < l.length) : catB (l.drop k) = numB (l.getD k 0) ++ catB (l.drop (k + 1)) := by
  rw [List.drop_eq_getElem_cons h, catB]
  simp [List.getD, List.getElem?_eq_getElem h]
/-- A reader of what was cut off: it is short, or what is left is. -/
def cutAt (l : List Int) (k : Nat) (rest : List UInt8) (e : Int) : Prop := e = 3 ∨ (e = 0 ∧ ∃ m, m < (catB (l.drop k)).length ∧ rest = (catB (l.drop k)).take m)
theorem cut_step {l : List Int} {k : Nat} {rest : List UInt8} {e : Int} (hk : k < l.length) (hb : isB (l.getD k 0) = true) (h : cutAt l k rest e) : cutAt l (k + 1) (rd rest e).2.2 (rd rest e).2.1 := by
  rcases h with rfl | ⟨rfl, m, hm, rfl⟩
  · rw [rd_err (by decide)]; exact Or.inl rfl
  · rw [catB_drop hk] at hm ⊢
    by_cases hc : m < (numB (l.getD k 0)).length
    · rw [rd_cut _ hc]; exact Or.inl rfl
    · rw [List.take_append, List.take_of_length_le (by omega), rd_numB hb]
      refine Or.inr ⟨rfl, m - (numB (l.getD k 0)).length, ?_, rfl⟩
      rw [List.length_append] at hm
      omega
theorem cut_end {l : List Int} {rest : List UInt8} {e : Int} (h : cutAt l l.length rest e) : rdEnd rest e = 3 := by
  rcases h with rfl | ⟨rfl, m, hm, _⟩
  · rfl
  · rw [List.drop_length] at hm; simp [catB] at hm
theorem cut_rest {rest : List UInt8} {e : Int} : (rd rest e).2.2.length ≤ rest.length := by
  unfold rd rdNum
  split
  · split
    · split
      · exact Nat.le_refl _
      · split
        · exact Nat.le_refl _
        · split
          · simp
          · exact Nat.le_refl _
    · split <;> exact Nat.le_refl _
  · exact Nat.le_refl _
theorem IsBy.keep {w w' : World} {p : Nat} {a : Option Addr} {l : List UInt8} (h : IsBy w a l) (hb : Below p w w') (hlt : ∀ b o, a = some ⟨b, o, none⟩ → b < p) : IsBy w' a l := by
  intro i hi
  obtain ⟨b, o, hx, hc⟩ := h i hi
  exact ⟨b, o, hx, (hb.cell (p := ⟨b, o + i, none⟩) (hlt b o hx)).trans hc⟩
end Go.Proofs.Ytpjichkigccfnaa
