/-
  Layer 15 (net): small facts that several laws use.
-/
import Derived.Test.YtlocoieknabiaaaZNet6
import Derived.Test.YtlocoieknabiaaaZAwake15
namespace Go.Proofs.Ytlocoieknabiaaa
set_option maxRecDepth 20000
open Go.RowKit
set_option linter.unusedSimpArgs false
set_option linter.unusedVariables false
theorem len_c {X : Nat → Prop} {w : World} {g q : Nat} {room s c l d : Int} {ps : List (List UInt8)} (h : NT X w g q room ps s c l d) {n : Nat} (hn : ps.length = n) : Calls Try.prog 12 #[.pointer (some ⟨g, 0, none⟩)] w fun e w' => e = .returned (.int .i64 (n : Int)) ∧ Below w.heap.size w w' :=
  hn ▸ len_b h
theorem without_drop {S : List Msg} {k : Nat} : without (psOf (S.drop k)) 0 = psOf (S.drop (k + 1)) := by
  unfold without psOf
  rw [List.take_zero, List.nil_append, ← List.map_drop, List.drop_drop]
theorem psOf_drop_get {S : List Msg} {k : Nat} (hk : k < S.length) : (psOf (S.drop k)).getD 0 [] = msgW (S.getD k msg0) := by
  simp [psOf, List.getD, hk]
theorem psOf_drop_len {S : List Msg} {k : Nat} : (psOf (S.drop k)).length = S.length - k := by simp [psOf]
/-- The row's block. -/
theorem own_msg' {w : World} {B c : Nat} {a : Option Addr} {S : List Msg} (h : w.ownsRow B 30 12 (.slice a S.length c) S.length (msgV S)) {i : Nat} (hi : i < S.length) :
    ∃ g, a = some ⟨g, 0, none⟩ ∧ B ≤ g ∧ g < w.heap.size ∧ loadAgg Try.prog w 30 (.pointer (some ⟨g, i * 12, none⟩)) = .ok (.value (.agg (S.getD i msg0).cells)) w := by
  obtain ⟨g, c', e, h1, h2, h3⟩ := own_msg h hi
  injection e with e
  exact ⟨g, e, h1, h2, h3⟩
theorem own_cut {w : World} {B c : Nat} {a : Option Addr} {S : List Msg} (h : w.ownsRow B 30 12 (.slice a S.length c) S.length (msgV S)) {i : Nat} (hi : i < S.length) :
    ∃ g cur, a = some ⟨g, 0, none⟩ ∧ B ≤ g ∧ g < w.heap.size ∧ rowAt w g = some (cur, 30) ∧ i * 12 + 12 ≤ cur.size ∧ cut cur (i * 12) 12 = (S.getD i msg0).cells := by
  rcases h.2 with ⟨e, h0⟩ | ⟨g, cap, cur, e, hb, hg, hn, hc, hs, ht⟩
  · omega
  · injection e with e1 e2 e3
    refine ⟨g, cur, e1, hb, (Array.getElem?_eq_some_iff.1 hg).1, rowAt_iff.2 hg, by omega, ?_⟩
    refine Array.ext (by simp [cut, Msg.size]; omega) fun j h1 h2 => ?_
    have hj : j < 12 := by rw [Msg.size] at h2; exact h2
    have h3 := msgV_get S i j hi hj
    rw [← ht, List.getElem?_take, if_pos (by omega), Array.getElem?_toList, Array.getElem?_eq_getElem (by omega), Array.getElem?_eq_getElem h2] at h3
    injection h3 with h3
    simpa [cut] using h3
theorem msame_yes' (m : Msg) (A : Option Addr) (c : Nat) (H : Nat → Option Addr × Nat) (w : World) (h1 : MsgOk w (reM m A c H)) (h2 : MsgOk w m) :
    Calls Try.prog 11 #[.agg (reM m A c H).cells, .agg m.cells] w fun e w' => e = .returned (.bool true) ∧ Below w.heap.size w w' := by
  have := msame_yes (reM m A c H) m.fA m.fc (fun i => ((m.fl i).hA, (m.fl i).hc)) w h1 (by rw [reM_back]; exact h2)
  rwa [reM_back] at this
/-- What is left of S without its k-th, when i of S were gone through. -/
def restL (S : List Msg) (k i : Nat) : List Msg := (S.take k ++ S.drop (k + 1)).drop (if i ≤ k then i else i - 1)
theorem restL_start (S : List Msg) (k : Nat) : without (psOf S) k = psOf (restL S k 0) := by
  unfold restL without psOf
  simp [List.map_take, List.map_drop]
theorem restL_same (S : List Msg) (k : Nat) : restL S k (k + 1) = restL S k k := by
  unfold restL
  rw [if_neg (by omega), if_pos (Nat.le_refl _), Nat.add_sub_cancel]
theorem restL_len {S : List Msg} {k : Nat} (hk : k < S.length) (i : Nat) : (restL S k i).length = S.length - 1 - (if i ≤ k then i else i - 1) := by
  unfold restL
  simp
  omega
theorem restL_head {S : List Msg} {k i : Nat} (hk : k < S.length) (hi : i < S.length) (hne : i ≠ k) : restL S k i = S.getD i msg0 :: restL S k (i + 1) := by
  have hg : ∀ j, j < S.length - 1 → (S.take k ++ S.drop (k + 1))[j]? = S[if j < k then j else j + 1]? := fun j hj => by
    by_cases h : j < k
    · rw [if_pos h, List.getElem?_append_left (by simp; omega), List.getElem?_take, if_pos h]
    · rw [if_neg h, List.getElem?_append_right (by simp; omega), List.getElem?_drop]
      congr 1
      simp
      omega
  have hl : (S.take k ++ S.drop (k + 1)).length = S.length - 1 := by simp; omega
  unfold restL
  generalize S.take k ++ S.drop (k + 1) = R at hg hl
  by_cases h : i < k
  · have h1 := hg i (by omega)
    rw [if_pos h, List.getElem?_eq_getElem (by omega), List.getElem?_eq_getElem (by omega)] at h1
    injection h1 with h1
    rw [if_pos (by omega), if_pos (by omega), List.drop_eq_getElem_cons (by omega), h1]
    simp [List.getD, hi]
  · have h1 := hg (i - 1) (by omega)
    rw [if_neg (by omega), show i - 1 + 1 = i by omega, List.getElem?_eq_getElem (by omega), List.getElem?_eq_getElem (by omega)] at h1
    injection h1 with h1
    rw [if_neg (by omega), if_neg (by omega), List.drop_eq_getElem_cons (by omega), h1, show i - 1 + 1 = i + 1 - 1 by omega]
    simp [List.getD, hi]
theorem without_cons (m : Msg) (R : List Msg) : without (psOf (m :: R)) 0 = psOf R := by simp [without, psOf]
theorem psOf_cons_get (m : Msg) (R : List Msg) : (psOf (m :: R)).getD 0 [] = msgW m := by simp [psOf]
end Go.Proofs.Ytlocoieknabiaaa
