/-
  The walk of OctetsLess.
-/
import Derived.Test.YtaflbcckoiiddaaAwake8
namespace Go.Proofs.Ytaflbcckoiiddaa
open Go.RowKit
set_option linter.unusedSimpArgs false
theorem uB_len_le : ∀ (k u : Nat), (uB u).length ≤ k + 1 → u < 128 ^ (k + 1) := by
  intro k
  induction k with
  | zero =>
    intro u h
    by_cases h1 : u < 128
    · simpa using h1
    · rw [uB_more h1, List.length_cons] at h
      by_cases h2 : u / 128 < 128
      · rw [uB_less h2] at h; simp at h
      · rw [uB_more h2, List.length_cons] at h; omega
  | succ k ih =>
    intro u h
    by_cases h1 : u < 128
    · exact Nat.lt_of_lt_of_le h1 (by rw [Nat.pow_succ]; exact Nat.le_mul_of_pos_left _ (Nat.pow_pos (by decide)))
    · rw [uB_more h1, List.length_cons] at h
      have := ih (u / 128) (by omega)
      rw [Nat.div_lt_iff_lt_mul (by decide)] at this
      rw [Nat.pow_succ]
      exact this
theorem uB_pos (u : Nat) : 1 ≤ (uB u).length := by
  by_cases h1 : u < 128
  · rw [uB_less h1]; simp
  · rw [uB_more h1]; simp
theorem uB_mono {u v : Nat} (h : u ≤ v) : (uB u).length ≤ (uB v).length := by
  obtain ⟨k, hk⟩ : ∃ k, (uB v).length = k + 1 := ⟨(uB v).length - 1, by have := uB_pos v; omega⟩
  rw [hk]
  exact uB_len k u (Nat.lt_of_le_of_lt h (uB_len_le k v (by omega)))
theorem numB_le {a b : Int} (h0 : 0 ≤ a) (h1 : a ≤ b) (h2 : b ≤ 1099511627776) : (numB a).length ≤ (numB b).length ∧ (numB (-a)).length ≤ (numB a).length ∧ 2 * b < 128 ^ (numB b).length := by
  have ea : zig a = (2 * a).toNat := by rw [zig, if_pos (isB_iff.2 ⟨by omega, by omega⟩), if_neg (by omega)]
  have eb : zig b = (2 * b).toNat := by rw [zig, if_pos (isB_iff.2 ⟨by omega, by omega⟩), if_neg (by omega)]
  have en : zig (-a) ≤ zig a := by
    rw [ea, zig, if_pos (isB_iff.2 ⟨by omega, by omega⟩)]
    split <;> omega
  refine ⟨uB_mono (by omega), uB_mono en, ?_⟩
  obtain ⟨k, hk⟩ : ∃ k, (numB b).length = k + 1 := ⟨(numB b).length - 1, by have := uB_pos (zig b); unfold numB; omega⟩
  rw [hk]
  have := uB_len_le k (zig b) (by have : (uB (zig b)).length = k + 1 := hk
                                  omega)
  rw [eb] at this
  have h3 : ((2 * b).toNat : Int) = 2 * b := by omega
  rw [← h3]
  exact_mod_cast this
set_option maxRecDepth 10000 in
theorem octetsLess_walk (a : Int) (_ha : -9223372036854775808 ≤ a ∧ a ≤ 9223372036854775807) (b : Int) (_hb : -9223372036854775808 ≤ b ∧ b ≤ 9223372036854775807) (w : World) :
    Calls Try.prog 5 #[.int .i64 a, .int .i64 b] w fun e w' => e = .returned (.bool true) ∧ Below w.heap.size w w' := by
  clear _ha _hb
  go_enter Try.func5, Try.ntmps5
  by_cases h0 : a < 0
  · go_wp2_with fail
    refine (awake8 _).mono ?_
    rintro e w9 ⟨rfl, hb9⟩
    have HB9 := Lib.hid hb9
    clear hb9
    go_wp2_with fail
    go_ret
    exact ⟨rfl, HB9.out⟩
  · by_cases h1 : b < a
    · go_wp2_with fail
      refine (awake8 _).mono ?_
      rintro e w9 ⟨rfl, hb9⟩
      have HB9 := Lib.hid hb9
      clear hb9
      go_wp2_with fail
      go_ret
      exact ⟨rfl, HB9.out⟩
    · by_cases h2 : b ≤ 1099511627776
      · obtain ⟨l1, l2, l3⟩ := numB_le (a := a) (b := b) (by omega) (by omega) h2
        have lx := numB_len a
        have ly := numB_len b
        have lz := numB_len (-a)
        go_wp2_with fail
        refine (number_any none 0 [] a w (IsBy.nil _ _) (fun _ => rfl) (by decide)).mono ?_
        rintro e w1 ⟨v, rfl, hown, hb1⟩
        obtain ⟨A1, c1, rfl, _⟩ := hown.isBy
        have HB1 := Lib.hid hb1
        clear hown hb1
        go_wp2_with fail
        refine (number_any none 0 [] b w1 (IsBy.nil _ _) (fun _ => rfl) (by decide)).mono ?_
        rintro e w2 ⟨v, rfl, hown, hb2⟩
        obtain ⟨A2, c2, rfl, _⟩ := hown.isBy
        have HB2 := Lib.hid (bthen HB1.out hb2)
        clear hown hb2 HB1
        go_wp2_with fail
        refine (number_any none 0 [] (-a) w2 (IsBy.nil _ _) (fun _ => rfl) (by decide)).mono ?_
        rintro e w3 ⟨v, rfl, hown, hb3⟩
        obtain ⟨A3, c3, rfl, _⟩ := hown.isBy
        have HB3 := Lib.hid (bthen HB2.out hb3)
        clear hown hb3 HB2
        simp only [List.nil_append] at *
        generalize (numB a).length = X at *
        generalize (numB b).length = Y at *
        generalize (numB (-a)).length = Z at *
        have L3 := Lib.hid l3
        have l1i : decide ((X : Int) ≤ (Y : Int)) = true := decide_eq_true (by omega)
        have l2i : decide ((Z : Int) ≤ (X : Int)) = true := decide_eq_true (by omega)
        clear l3
        go_wp2_with fail
        go_loop [8, 30] (fun m i => ∃ k : Nat, k ≤ Y ∧ i = .int .i64 k ∧ m = .int .i64 ((128 ^ k : Nat) : Int)) (fun _ i => Y - (intOf i).toNat)
        case atStart => exact ⟨0, Nat.zero_le _, rfl, rfl⟩
        case round =>
          obtain ⟨k, hk, rfl, rfl⟩ := hrel
          by_cases hlt : k < Y
          · have hp : 128 ^ k ≤ 128 ^ 5 := Nat.pow_le_pow_right (by decide) (by omega)
            have hp2 : 128 ^ k ≤ 34359738368 := Nat.le_trans hp (by decide)
            have hs : 128 ^ (k + 1) = 128 ^ k * 128 := Nat.pow_succ ..
            have HS := Lib.hid hs
            clear hs hp
            generalize 128 ^ k = M at *
            go_wp2_with fail
            go_round
            case rel => exact ⟨k + 1, by omega, by go_num, by rw [HS.out]; exact congrArg (Value.int .i64) (by omega)⟩
            case measure => simp [intOf]; omega
          · obtain rfl : k = Y := by omega
            have l3 : 2 * b < ((128 ^ k : Nat) : Int) := by exact_mod_cast L3.out
            clear L3
            generalize 128 ^ k = M at *
            have l3i : decide (2 * b < (M : Int)) = true := decide_eq_true l3
            go_wp2_with fail
            refine (awake8 _).mono ?_
            rintro e w9 ⟨rfl, hb9⟩
            have HB9 := Lib.hid (bthen HB3.out hb9)
            clear hb9
            go_wp2_with fail
            go_ret
            exact ⟨rfl, HB9.out⟩
      · go_wp2_with fail
        refine (awake8 _).mono ?_
        rintro e w9 ⟨rfl, hb9⟩
        have HB9 := Lib.hid hb9
        clear hb9
        go_wp2_with fail
        go_ret
        exact ⟨rfl, HB9.out⟩
end Go.Proofs.Ytaflbcckoiiddaa
