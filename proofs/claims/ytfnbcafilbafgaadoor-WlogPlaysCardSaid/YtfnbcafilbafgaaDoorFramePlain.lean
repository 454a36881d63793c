/-
  Layer 9 (frame): plain laws of frames; a byte that is set in one's own memory.
-/
import Derived.Test.YtfnbcafilbafgaaDoorAwake9
namespace Go.Proofs.YtfnbcafilbafgaaDoor
open Go.RowKit
set_option linter.unusedSimpArgs false
set_option linter.unusedVariables false
theorem OwnBy.row_of {w : World} {base : Nat} {v : Value} {xs : List UInt8} (h : OwnBy w base v xs) (hn : 0 < xs.length) :
    ∃ g cap cur, v = .slice (some ⟨g, 0, none⟩) xs.length cap ∧ base ≤ g ∧ rowAt w g = some (cur, 5) ∧ xs.length ≤ cap ∧ cap ≤ maxLen ∧ cur.size = cap ∧ cur.toList.take xs.length = xs.map bc := by
  rcases h.2 with ⟨hv, h0⟩ | ⟨g, cap, cur, hv, hbg, hg, hnc, hcm, hcs, htk⟩
  · omega
  · exact ⟨g, cap, cur, hv, hbg, rowAt_iff.2 hg, hnc, hcm, by omega, by simpa using htk⟩
theorem own_set {w : World} {base g cap : Nat} {xs : List UInt8} {cur : Array Value} (hbg : base ≤ g) (hr : rowAt w g = some (cur, 5)) (hc : xs.length ≤ cap) (hm : cap ≤ maxLen) (hs : cur.size = cap) (ht : cur.toList.take xs.length = xs.map bc) (i : Nat) (y : UInt8) :
    OwnBy (w.setCell ⟨g, i, none⟩ (bc y)) base (.slice (some ⟨g, 0, none⟩) (xs.set i y).length cap) (xs.set i y) ∧ Below base w (w.setCell ⟨g, i, none⟩ (bc y)) := by
  refine ⟨⟨by simp, .inr ⟨g, cap, cur.setIfInBounds i (bc y), rfl, hbg, rowAt_iff.1 (rowAt_setCell_same i (bc y) hr), by simp; omega, hm, by simp [hs], ?_⟩⟩, ?_⟩
  · rw [Nat.mul_one, List.length_set, Array.toList_setIfInBounds, List.take_set, ht, List.map_set]
  · refine ⟨rfl, rfl, rfl, by simp [World.setCell], fun k hk => ?_⟩
    exact heap_setCell_other w ⟨g, i, none⟩ k (bc y) (by show k ≠ g; omega)
theorem numL_append {l t : List UInt8} (h : 4 ≤ l.length) : numL (l ++ t) = numL l := by
  unfold numL
  have e : ∀ i, i < 4 → (l ++ t).getD i 0 = l.getD i 0 := fun i hi => by
    simp [List.getD, List.getElem?_append_left (show i < l.length by omega)]
  rw [e 0 (by decide), e 1 (by decide), e 2 (by decide), e 3 (by decide)]
theorem numL_set {l : List UInt8} {i : Nat} {y : UInt8} (hi : i < 4) (h : 4 ≤ l.length) (hy : y ≠ l.getD i 0) : numL (l.set i y) ≠ numL l := by
  have hn : y.toNat ≠ (l.getD i 0).toNat := fun e => hy (UInt8.toNat_inj.1 e)
  have e : ∀ j, j < 4 → (l.set i y).getD j 0 = if i = j then y else l.getD j 0 := fun j hj => by
    by_cases hij : i = j
    · subst hij; simp [List.getD, show i < l.length by omega]
    · simp [List.getD, List.getElem?_set, hij]
  unfold numL
  rw [e 0 (by decide), e 1 (by decide), e 2 (by decide), e 3 (by decide)]
  have h0 := u8_lt (l.getD 0 0)
  have h1 := u8_lt (l.getD 1 0)
  have h2 := u8_lt (l.getD 2 0)
  have h3 := u8_lt (l.getD 3 0)
  have hy8 := u8_lt y
  obtain rfl | rfl | rfl | rfl : i = 0 ∨ i = 1 ∨ i = 2 ∨ i = 3 := by omega
  · rw [if_pos rfl, if_neg (by decide), if_neg (by decide), if_neg (by decide)]; omega
  · rw [if_neg (by decide), if_pos rfl, if_neg (by decide), if_neg (by decide)]; omega
  · rw [if_neg (by decide), if_neg (by decide), if_pos rfl, if_neg (by decide)]; omega
  · rw [if_neg (by decide), if_neg (by decide), if_neg (by decide), if_pos rfl]; omega
theorem putL_num (p t : List UInt8) (h : p.length ≤ 32768) : numL (putL p ++ t) = p.length := by
  unfold putL
  rw [List.append_assoc]
  exact numL_four p.length (by omega) _
theorem putL_drop4 (p t : List UInt8) : (putL p ++ t).drop 4 = fourL (crc p) ++ (p ++ t) := by
  unfold putL
  simp only [List.append_assoc]
  exact List.drop_left' (fourL_len _)
theorem putL_drop8 (p t : List UInt8) : (putL p ++ t).drop 8 = p ++ t := by
  have : (putL p ++ t).drop 8 = ((putL p ++ t).drop 4).drop 4 := by rw [List.drop_drop]
  rw [this, putL_drop4]
  exact List.drop_left' (fourL_len _)
theorem take_put (p t : List UInt8) (h : p.length ≤ 32768) : takeE (putL p ++ t) = 0 ∧ payL (putL p ++ t) = p ∧ numL (putL p ++ t) = p.length := by
  have h1 := putL_num p t h
  have h2 : payL (putL p ++ t) = p := by
    unfold payL
    rw [h1, putL_drop8, List.take_left' rfl]
  refine ⟨?_, h2, h1⟩
  unfold takeE
  have hl : (putL p ++ t).length = p.length + 8 + t.length := by rw [List.length_append, putL_len]
  rw [if_neg (by omega), if_neg (by omega), if_neg (by omega), if_neg]
  rw [h2, putL_drop4, numL_four _ (crc_lt p)]
  simp
/-- A turned frame is not taken as one of the same length. -/
theorem turned_law {p : List UInt8} {i : Nat} {y : UInt8} (h : p.length ≤ 32768) (hi : i < (putL p).length) (hy : y ≠ (putL p).getD i 0) (he : takeE ((putL p).set i y) = 0) :
    i < 4 ∧ numL ((putL p).set i y) ≠ p.length := by
  obtain ⟨_, _, g3, g4, g5⟩ := take_good he
  have hl := putL_len p
  have hnum : numL (putL p) = p.length := by have := putL_num p [] h; rwa [List.append_nil] at this
  have hd4 : (putL p).drop 4 = fourL (crc p) ++ p := by have := putL_drop4 p []; simpa using this
  have hd8 : (putL p).drop 8 = p := by have := putL_drop8 p []; simpa using this
  by_cases h4 : i < 4
  · exact ⟨h4, by rw [← hnum]; exact numL_set h4 (by omega) hy⟩
  · exfalso
    have hsame : numL ((putL p).set i y) = p.length := by
      rw [← hnum]
      unfold numL
      have e : ∀ j, j < 4 → ((putL p).set i y).getD j 0 = (putL p).getD j 0 := fun j hj => by
        simp [List.getD, List.getElem?_set, show i ≠ j by omega]
      rw [e 0 (by decide), e 1 (by decide), e 2 (by decide), e 3 (by decide)]
    unfold payL at g5
    rw [hsame, List.drop_set, List.drop_set] at g5
    by_cases h8 : i < 8
    · rw [if_pos h8, if_neg (by omega), hd4, hd8, List.take_length] at g5
      have hne := numL_set (l := fourL (crc p) ++ p) (i := i - 4) (y := y) (by omega) (by simp [fourL_len]) (by
        rw [← hd4]
        have : ((putL p).drop 4).getD (i - 4) 0 = (putL p).getD i 0 := by simp [List.getD, List.getElem?_drop, show 4 + (i - 4) = i by omega]
        rw [this]; exact hy)
      rw [numL_four _ (crc_lt p)] at hne
      exact hne g5.symm
    · rw [if_neg h8, if_neg (by omega), hd4, hd8] at g5
      have e1 : (p.set (i - 8) y).take p.length = p.set (i - 8) y := List.take_of_length_le (by simp)
      rw [e1] at g5
      have e2 : numL ((fourL (crc p) ++ p).set (i - 4) y) = crc p := by
        rw [List.set_append, if_neg (by rw [fourL_len]; omega)]
        exact numL_four _ (crc_lt p) _
      rw [e2] at g5
      refine crc_set (l := p) (i := i - 8) (x := y) (by omega) ?_ g5
      have : p.getD (i - 8) 0 = (putL p).getD i 0 := by
        conv => lhs; rw [← hd8]
        simp [List.getD, List.getElem?_drop, show 8 + (i - 8) = i by omega]
      rw [this]; exact hy
theorem turn_byte (x : UInt8) (k : Nat) (hk : k < 256) (h0 : k ≠ 0) : ∃ y : UInt8, bits .xor .u8 (x.toNat : Int) (k : Int) = (y.toNat : Int) ∧ y ≠ x := by
  have hx := u8_lt x
  have hlt : x.toNat ^^^ k < 256 := Nat.xor_lt_two_pow (n := 8) hx hk
  refine ⟨UInt8.ofNat (x.toNat ^^^ k), ?_, fun e => h0 ?_⟩
  · rw [u8_xor_nat _ _ hx hk]
    simp only [UInt8.toNat_ofNat']
    omega
  · have e2 := congrArg UInt8.toNat e
    simp only [UInt8.toNat_ofNat'] at e2
    have e3 : x.toNat ^^^ k = x.toNat := by omega
    have e4 := congrArg (x.toNat ^^^ ·) e3
    simpa [← Nat.xor_assoc] using e4
theorem ScanIs.le {b : List UInt8} {at_ : Nat} {ps : List (List UInt8)} (h : ScanIs b at_ ps) : at_ ≤ b.length ∧ 8 * ps.length ≤ at_ := by
  obtain ⟨k, h1, _⟩ := h
  have := stA_le b k
  rwa [h1] at this
end Go.Proofs.YtfnbcafilbafgaaDoor
