/-
  Layer 9 (frame): frames one behind the other, in plain lists.
-/
import Derived.Test.YtfnbcafilbafgaaDoorFramePlain
namespace Go.Proofs.YtfnbcafilbafgaaDoor
set_option linter.unusedSimpArgs false
set_option linter.unusedVariables false
/-- Frames one behind the other. -/
def flatP (ps : List (List UInt8)) : List UInt8 := ps.flatMap putL
theorem flatP_nil : flatP [] = [] := rfl
theorem flatP_snoc (ps : List (List UInt8)) (p : List UInt8) : flatP (ps ++ [p]) = flatP ps ++ putL p := by simp [flatP]
theorem flatP_append (ps qs : List (List UInt8)) : flatP (ps ++ qs) = flatP ps ++ flatP qs := by simp [flatP]
theorem flatP_cons (p : List UInt8) (ps : List (List UInt8)) : flatP (p :: ps) = putL p ++ flatP ps := rfl
theorem flatP_take (ps : List (List UInt8)) {k : Nat} (h : k < ps.length) : flatP (ps.take (k + 1)) = flatP (ps.take k) ++ putL (ps.getD k []) := by
  rw [List.take_add_one, List.getElem?_eq_getElem h, Option.toList_some, flatP_snoc]
  simp [List.getD, List.getElem?_eq_getElem h]
theorem flatP_len_take (ps : List (List UInt8)) (k : Nat) : (flatP (ps.take k)).length ≤ (flatP ps).length := by
  conv => rhs; rw [← List.take_append_drop k ps, flatP_append, List.length_append]
  omega
theorem four_num {t : List UInt8} (h : 4 ≤ t.length) : fourL (numL t) = t.take 4 := by
  match t, h with
  | a :: b :: c :: d :: r, _ =>
    have h0 := u8_lt a
    have h1 := u8_lt b
    have h2 := u8_lt c
    have h3 := u8_lt d
    simp only [numL, fourL, List.getD_cons_zero, List.getD_cons_succ, List.take_succ_cons, List.take_zero]
    congr 1
    · refine UInt8.toNat_inj.1 ?_
      simp only [UInt8.toNat_ofNat']
      omega
    congr 1
    · refine UInt8.toNat_inj.1 ?_
      simp only [UInt8.toNat_ofNat']
      omega
    congr 1
    · refine UInt8.toNat_inj.1 ?_
      simp only [UInt8.toNat_ofNat']
      omega
    congr 1
    refine UInt8.toNat_inj.1 ?_
    simp only [UInt8.toNat_ofNat']
    omega
/-- What is taken, put again, are the bytes that it was taken of. -/
theorem put_take {t : List UInt8} (h : takeE t = 0) : putL (payL t) = t.take (8 + numL t) ∧ (payL t).length ≤ 32768 := by
  obtain ⟨_, _, h1, h2, h3⟩ := take_good h
  have hl := payL_len h1
  refine ⟨?_, by omega⟩
  unfold putL
  rw [hl, h3, four_num (by omega), four_num (by simp; omega)]
  unfold payL
  rw [show 8 + numL t = 4 + (4 + numL t) by omega, List.take_add, List.take_add, List.drop_drop]
theorem stA_flat (b : List UInt8) : ∀ k, flatP (stA b k).2 = b.take (stA b k).1 ∧ ∀ p, p ∈ (stA b k).2 → p.length ≤ 32768
  | 0 => ⟨rfl, fun p hp => by simp [stA] at hp⟩
  | k + 1 => by
    obtain ⟨h1, h2⟩ := stA_flat b k
    unfold stA
    split
    · next h =>
      obtain ⟨h3, h4⟩ := put_take h
      refine ⟨?_, fun p hp => ?_⟩
      · dsimp only
        rw [flatP_snoc, h1, h3, ← List.take_add]
      · rcases List.mem_append.1 hp with hp | hp
        · exact h2 p hp
        · rw [List.mem_singleton.1 hp]; exact h4
    · exact ⟨h1, h2⟩
theorem ScanIs.flat {b : List UInt8} {at_ : Nat} {ps : List (List UInt8)} (h : ScanIs b at_ ps) : flatP ps = b.take at_ ∧ ∀ p, p ∈ ps → p.length ≤ 32768 := by
  obtain ⟨k, h1, _⟩ := h
  have := stA_flat b k
  rwa [h1] at this
theorem numL_take (t : List UInt8) {k : Nat} (h : 4 ≤ k) : numL (t.take k) = numL t := by
  unfold numL
  have e : ∀ i, i < 4 → (t.take k).getD i 0 = t.getD i 0 := fun i hi => by
    simp [List.getD, List.getElem?_take, show i < k by omega]
  rw [e 0 (by decide), e 1 (by decide), e 2 (by decide), e 3 (by decide)]
/-- More bytes behind change nothing of a frame that is whole. -/
theorem take_more {t : List UInt8} (m : List UInt8) (h : takeE t = 0) : takeE (t ++ m) = 0 ∧ numL (t ++ m) = numL t ∧ payL (t ++ m) = payL t := by
  obtain ⟨_, _, h1, h2, h3⟩ := take_good h
  have e1 : numL (t ++ m) = numL t := numL_append (by omega)
  have e2 : payL (t ++ m) = payL t := by
    unfold payL
    rw [e1, List.drop_append_of_le_length (by omega), List.take_append_of_le_length (by simp; omega)]
  have e3 : numL ((t ++ m).drop 4) = numL (t.drop 4) := by
    rw [List.drop_append_of_le_length (by omega)]
    exact numL_append (by simp; omega)
  refine ⟨?_, e1, e2⟩
  unfold takeE
  rw [e1, e2, e3, List.length_append, if_neg (by omega), if_neg (by omega), if_neg (by omega), if_neg (by simpa using h3)]
theorem stA_more (b m : List UInt8) : ∀ k, ∃ j, stA (b ++ m) j = stA b k
  | 0 => ⟨0, rfl⟩
  | k + 1 => by
    obtain ⟨j, hj⟩ := stA_more b m k
    have hle := (stA_le b k).1
    by_cases h : takeE (b.drop (stA b k).1) = 0
    · refine ⟨j + 1, ?_⟩
      obtain ⟨g1, g2, g3⟩ := take_more m h
      have e : (b ++ m).drop (stA b k).1 = b.drop (stA b k).1 ++ m := List.drop_append_of_le_length hle
      show (if takeE ((b ++ m).drop (stA (b ++ m) j).1) = 0 then ((stA (b ++ m) j).1 + (8 + numL ((b ++ m).drop (stA (b ++ m) j).1)), (stA (b ++ m) j).2 ++ [payL ((b ++ m).drop (stA (b ++ m) j).1)]) else stA (b ++ m) j) = if takeE (b.drop (stA b k).1) = 0 then _ else _
      rw [hj, e, g2, g3, if_pos g1, if_pos h]
    · refine ⟨j, ?_⟩
      rw [hj]
      exact (stA_stop h 1).symm
theorem stA_mono (b : List UInt8) (k : Nat) : ∀ m, (stA b k).1 ≤ (stA b (k + m)).1 ∧ (stA b k).2.length ≤ (stA b (k + m)).2.length
  | 0 => ⟨Nat.le_refl _, Nat.le_refl _⟩
  | m + 1 => by
    obtain ⟨h1, h2⟩ := stA_mono b k m
    rw [← Nat.add_assoc]
    generalize stA b k = s0 at *
    generalize k + m = n at *
    unfold stA
    split
    · simp only [List.length_append]
      exact ⟨by omega, by omega⟩
    · exact ⟨h1, h2⟩
theorem ScanIs.more {b m : List UInt8} {at1 at2 : Nat} {p1 p2 : List (List UInt8)} (h1 : ScanIs b at1 p1) (h2 : ScanIs (b ++ m) at2 p2) : at1 ≤ at2 ∧ p1.length ≤ p2.length := by
  obtain ⟨k1, e1, f1⟩ := h1
  obtain ⟨k2, e2, f2⟩ := h2
  obtain ⟨j, hj⟩ := stA_more b m k1
  rw [e1] at hj
  rcases Nat.le_total j k2 with h | h
  · obtain ⟨d, rfl⟩ := Nat.le.dest h
    have := stA_mono (b ++ m) j d
    rwa [hj, e2] at this
  · obtain ⟨d, rfl⟩ := Nat.le.dest h
    have e3 : stA (b ++ m) (k2 + d) = stA (b ++ m) k2 := stA_stop (by rw [e2]; exact f2) d
    rw [hj, e2] at e3
    injection e3 with a c
    rw [a, c]
    exact ⟨Nat.le_refl _, Nat.le_refl _⟩
/-- Whole frames, and what is none behind them. -/
theorem scan_flat (ps : List (List UInt8)) (t : List UInt8) (h : ∀ p, p ∈ ps → p.length ≤ 32768) (ht : takeE t ≠ 0) : ScanIs (flatP ps ++ t) (flatP ps).length ps := by
  refine ⟨ps.length, ?_, by rw [List.drop_left' rfl]; exact ht⟩
  have key : ∀ k, k ≤ ps.length → stA (flatP ps ++ t) k = ((flatP (ps.take k)).length, ps.take k) := by
    intro k
    induction k with
    | zero => intro _; rfl
    | succ k ih =>
      intro hk
      have hlt : k < ps.length := by omega
      have ih' := ih (by omega)
      have e : (flatP ps ++ t).drop (flatP (ps.take k)).length = putL (ps.getD k []) ++ (flatP (ps.drop (k + 1)) ++ t) := by
        conv => lhs; rw [← List.take_append_drop k ps, flatP_append, List.append_assoc, List.take_append_drop]
        rw [List.drop_left' rfl, List.drop_eq_getElem_cons hlt, flatP_cons, List.append_assoc]
        simp [List.getD, List.getElem?_eq_getElem hlt]
      have hm : ps.getD k [] ∈ ps := by simp [List.getD, List.getElem?_eq_getElem hlt]
      obtain ⟨g1, g2, g3⟩ := take_put (ps.getD k []) (flatP (ps.drop (k + 1)) ++ t) (h _ hm)
      show (if takeE ((flatP ps ++ t).drop (stA (flatP ps ++ t) k).1) = 0 then ((stA (flatP ps ++ t) k).1 + (8 + numL ((flatP ps ++ t).drop (stA (flatP ps ++ t) k).1)), (stA (flatP ps ++ t) k).2 ++ [payL ((flatP ps ++ t).drop (stA (flatP ps ++ t) k).1)]) else stA (flatP ps ++ t) k) = _
      rw [ih', e, if_pos g1, g2, g3, flatP_take _ hlt, List.length_append, putL_len]
      congr 1
      · omega
      · rw [List.take_add_one, List.getElem?_eq_getElem hlt]
        simp [List.getD, List.getElem?_eq_getElem hlt]
  have := key ps.length (Nat.le_refl _)
  rwa [List.take_length] at this
theorem take_short {t : List UInt8} (h : t.length < 8) : takeE t = 3 := by unfold takeE; rw [if_pos h]
/-- A frame of which the last bytes are missing. -/
theorem take_cut (p r : List UInt8) {k : Nat} (h : p.length ≤ 32768) (hk : k < (putL p).length) : takeE ((putL p ++ r).take k) = 3 := by
  have hl := putL_len p
  have hlen : ((putL p ++ r).take k).length = k := by simp; omega
  by_cases h8 : k < 8
  · exact take_short (by omega)
  · have e : numL ((putL p ++ r).take k) = p.length := by rw [numL_take _ (by omega)]; exact putL_num p r h
    unfold takeE
    rw [hlen, e, if_neg h8, if_neg (by omega), if_pos (by omega)]
/-- Frames one behind the other, cut off anywhere: so many are whole. -/
theorem scan_cut (ps : List (List UInt8)) (h : ∀ p, p ∈ ps → p.length ≤ 32768) {n cut : Nat} (hn : n ≤ ps.length) (hc : cut ≤ (flatP ps).length) (h1 : (flatP (ps.take n)).length ≤ cut) (h2 : n < ps.length → cut < (flatP (ps.take (n + 1))).length) :
    ScanIs ((flatP ps).take cut) (flatP (ps.take n)).length (ps.take n) ∧ takeE (((flatP ps).take cut).drop (flatP (ps.take n)).length) = 3 := by
  have e0 : flatP ps = flatP (ps.take n) ++ flatP (ps.drop n) := by rw [← flatP_append, List.take_append_drop]
  have e : (flatP ps).take cut = flatP (ps.take n) ++ (flatP (ps.drop n)).take (cut - (flatP (ps.take n)).length) := by
    conv => lhs; rw [e0, List.take_append, List.take_of_length_le h1]
  have hrest : takeE ((flatP (ps.drop n)).take (cut - (flatP (ps.take n)).length)) = 3 := by
    by_cases hlt : n < ps.length
    · have h3 := h2 hlt
      rw [flatP_take _ hlt, List.length_append] at h3
      rw [List.drop_eq_getElem_cons hlt, flatP_cons]
      have e4 : ps.getD n [] = ps[n] := by simp [List.getD, List.getElem?_eq_getElem hlt]
      rw [e4] at h3
      exact take_cut _ _ (h _ (List.getElem_mem _)) (by omega)
    · rw [List.drop_of_length_le (by omega), flatP_nil]
      exact take_short (by simp)
  rw [e]
  refine ⟨scan_flat _ _ (fun p hp => h p (List.mem_of_mem_take hp)) (by rw [hrest]; decide), ?_⟩
  rw [List.drop_left' rfl]
  exact hrest
/-- So many frames are whole. -/
theorem cut_n (ps : List (List UInt8)) (cut : Nat) : ∃ n, n ≤ ps.length ∧ (flatP (ps.take n)).length ≤ cut ∧ (n < ps.length → cut < (flatP (ps.take (n + 1))).length) := by
  have key : ∀ m, m ≤ ps.length → ∃ n, n ≤ m ∧ (flatP (ps.take n)).length ≤ cut ∧ (n < m → cut < (flatP (ps.take (n + 1))).length) := by
    intro m
    induction m with
    | zero => exact fun _ => ⟨0, Nat.le_refl _, Nat.zero_le _, fun h => absurd h (Nat.lt_irrefl _)⟩
    | succ m ih =>
      intro hm
      obtain ⟨n, h1, h2, h3⟩ := ih (by omega)
      rcases Nat.lt_or_ge n m with h | h
      · exact ⟨n, by omega, h2, fun _ => h3 h⟩
      · obtain rfl : n = m := by omega
        rcases Nat.lt_or_ge cut (flatP (ps.take (n + 1))).length with h4 | h4
        · exact ⟨n, by omega, h2, fun _ => h4⟩
        · exact ⟨n + 1, Nat.le_refl _, h4, fun h => absurd h (Nat.lt_irrefl _)⟩
  exact key ps.length (Nat.le_refl _)
theorem flatP_mono (ps : List (List UInt8)) {i j : Nat} (h : i ≤ j) : (flatP (ps.take i)).length ≤ (flatP (ps.take j)).length := by
  have := flatP_len_take (ps.take j) i
  rwa [List.take_take, Nat.min_eq_left h] at this
theorem flatP_le (M : Nat) : ∀ (ps : List (List UInt8)), (∀ p, p ∈ ps → p.length ≤ M) → (flatP ps).length ≤ (M + 8) * ps.length
  | [], _ => Nat.zero_le _
  | p :: ps, h => by
    rw [flatP_cons, List.length_append, putL_len, List.length_cons, Nat.mul_add]
    have := flatP_le M ps (fun q hq => h q (List.mem_cons_of_mem _ hq))
    have := h p (List.mem_cons_self ..)
    omega
end Go.Proofs.YtfnbcafilbafgaaDoor
