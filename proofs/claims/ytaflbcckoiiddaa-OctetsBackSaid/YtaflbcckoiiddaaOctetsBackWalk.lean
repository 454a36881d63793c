/-
  The walk of OctetsBack.
-/
import Derived.Test.YtaflbcckoiiddaaOctText
namespace Go.Proofs.Ytaflbcckoiiddaa
open Go.RowKit
set_option linter.unusedSimpArgs false
theorem numB_want (n : Int) : ∃ m, isB m = true ∧ numB n = numB m ∧ m = if n < -1099511627776 ∨ 1099511627776 < n then 0 else n := by
  by_cases h : n < -1099511627776 ∨ 1099511627776 < n
  · refine ⟨0, by decide, ?_, by rw [if_pos h]⟩
    have hb : isB n = false := isB_not.2 (by omega)
    rw [numB, zig, hb]; rfl
  · exact ⟨n, isB_iff.2 (by omega), rfl, by rw [if_neg h]⟩
set_option maxRecDepth 10000 in
set_option maxHeartbeats 4000000 in
theorem octetsBack_walk (n : Int) (_hn : -9223372036854775808 ≤ n ∧ n ≤ 9223372036854775807) (s : ByteArray) (_hs : s.size ≤ maxLen) (w : World) :
    Calls Try.prog 7 #[.int .i64 n, .string s] w fun e w' => e = .returned (.bool true) ∧ Below w.heap.size w w' := by
  clear _hn _hs
  obtain ⟨t, rfl⟩ : ∃ t, s = strB t := ⟨_, (strB_of s).symm⟩
  have hsz := strB_size t
  go_enter Try.func7, Try.ntmps7
  by_cases hL : t.length ≤ 2000
  · have hL' : (t.length : Int) ≤ 2000 := by omega
    obtain ⟨m, hmB, hmE, hmI⟩ := numB_want n
    have HM := Lib.hid hmI
    have hr1 := rd_numB hmB (numB (t.length : Int) ++ t)
    have hr2 := rd_numB (n := (t.length : Int)) (isB_iff.2 ⟨by omega, by omega⟩) t
    have R1 := Lib.hid hr1
    have R2 := Lib.hid hr2
    have hl1 := numB_len m
    have hl2 := numB_len (t.length : Int)
    have HE := Lib.hid hmE
    clear hr1 hr2 hmI hmE hmB
    go_wp2_with fail
    refine (number_any none 0 [] n w (IsBy.nil _ _) (fun _ => rfl) (by decide)).mono ?_
    rintro e w1 ⟨v, rfl, hown, hb1⟩
    rw [HE.out, List.nil_append] at hown
    obtain ⟨A1, c1, rfl, i1, i2, _, _⟩ := hown.isBy
    have I1 := Lib.hid i1
    have I2 := Lib.hid i2
    have HB1 := Lib.hid hb1
    clear hown hb1 i1 i2
    go_wp2_with fail
    refine (text_any A1 c1 (numB m) t w1 I1.out I2.out (by omega) (by omega)).mono ?_
    rintro e w2 ⟨v, rfl, hown, hb2⟩
    obtain ⟨A2, c2, rfl, i3, i4, _, _⟩ := hown.isBy
    have I3 := Lib.hid i3
    have I4 := Lib.hid i4
    have HB2 := Lib.hid (bthen HB1.out hb2)
    clear hown hb2 i3 i4
    go_wp2_with fail
    have hl3 : (numB m ++ (numB (t.length : Int) ++ t)).length ≤ 3000 := by rw [List.length_append, List.length_append]; omega
    refine (new_is A2 c2 _ w2 I3.out I4.out (by omega) (by simp)).mono ?_
    rintro e w3 ⟨p, rfl, hr, hp, hb3⟩
    have HR := Lib.hid hr
    have HB3 := Lib.hid (bthen HB2.out hb3)
    have hp2 : w.heap.size ≤ p := Nat.le_trans HB2.out.size hp
    have hl4 : (numB (t.length : Int) ++ t).length ≤ 3000 := by rw [List.length_append]; omega
    clear hr hb3 hp
    have fin : ∀ z : Int, z = m → True := fun _ _ => trivial
    clear fin
    by_cases h1 : n < -1099511627776
    · have hm0 : m = 0 := by rw [HM.out, if_pos (Or.inl h1)]
      have HM0 := Lib.hid hm0
      clear hm0
      go_wp2_with fail
      refine (rnum_is HR.out (by omega) (by rw [R1.out, HM0.out])).mono ?_
      rintro e w4 ⟨rfl, hr, hb4⟩
      have HR4 := Lib.hid hr
      have HB4 := Lib.hid (HB3.out.trans (hb4.mono hp2))
      clear hr hb4
      go_wp2_with fail
      refine (rtext_ok (k := t.length) HR4.out (by omega) R2.out hL' (Nat.le_refl _)).mono ?_
      rintro e w5 ⟨rfl, hr, hb5⟩
      rw [List.drop_length] at hr
      have HR5 := Lib.hid hr
      have HB5 := Lib.hid (HB4.out.trans (hb5.mono hp2))
      clear hr hb5
      rw [List.take_length]
      go_wp2_with fail
      refine (end_is (n := 0) HR5.out (by decide)).mono ?_
      rintro e _ ⟨rfl, rfl⟩
      go_wp2_with fail
      refine (awake8 _).mono ?_
      rintro e w9 ⟨rfl, hb9⟩
      have HB9 := Lib.hid (bthen HB5.out hb9)
      clear hb9
      go_wp2_with fail
      go_ret
      exact ⟨rfl, HB9.out⟩
    · by_cases h2 : n ≤ 1099511627776
      · have hm0 : m = n := by rw [HM.out, if_neg (by omega)]
        have HM0 := Lib.hid hm0
        clear hm0
        go_wp2_with fail
        refine (rnum_is HR.out (by omega) (by rw [R1.out, HM0.out])).mono ?_
        rintro e w4 ⟨rfl, hr, hb4⟩
        have HR4 := Lib.hid hr
        have HB4 := Lib.hid (HB3.out.trans (hb4.mono hp2))
        clear hr hb4
        go_wp2_with fail
        refine (rtext_ok (k := t.length) HR4.out (by omega) R2.out hL' (Nat.le_refl _)).mono ?_
        rintro e w5 ⟨rfl, hr, hb5⟩
        rw [List.drop_length] at hr
        have HR5 := Lib.hid hr
        have HB5 := Lib.hid (HB4.out.trans (hb5.mono hp2))
        clear hr hb5
        rw [List.take_length]
        go_wp2_with fail
        refine (end_is (n := 0) HR5.out (by decide)).mono ?_
        rintro e _ ⟨rfl, rfl⟩
        go_wp2_with fail
        refine (awake8 _).mono ?_
        rintro e w9 ⟨rfl, hb9⟩
        have HB9 := Lib.hid (bthen HB5.out hb9)
        clear hb9
        go_wp2_with fail
        go_ret
        exact ⟨rfl, HB9.out⟩
      · have hm0 : m = 0 := by rw [HM.out, if_pos (Or.inr (by omega))]
        have HM0 := Lib.hid hm0
        clear hm0
        go_wp2_with fail
        refine (rnum_is HR.out (by omega) (by rw [R1.out, HM0.out])).mono ?_
        rintro e w4 ⟨rfl, hr, hb4⟩
        have HR4 := Lib.hid hr
        have HB4 := Lib.hid (HB3.out.trans (hb4.mono hp2))
        clear hr hb4
        go_wp2_with fail
        refine (rtext_ok (k := t.length) HR4.out (by omega) R2.out hL' (Nat.le_refl _)).mono ?_
        rintro e w5 ⟨rfl, hr, hb5⟩
        rw [List.drop_length] at hr
        have HR5 := Lib.hid hr
        have HB5 := Lib.hid (HB4.out.trans (hb5.mono hp2))
        clear hr hb5
        rw [List.take_length]
        go_wp2_with fail
        refine (end_is (n := 0) HR5.out (by decide)).mono ?_
        rintro e _ ⟨rfl, rfl⟩
        go_wp2_with fail
        refine (awake8 _).mono ?_
        rintro e w9 ⟨rfl, hb9⟩
        have HB9 := Lib.hid (bthen HB5.out hb9)
        clear hb9
        go_wp2_with fail
        go_ret
        exact ⟨rfl, HB9.out⟩
  · have hL' : ¬ (t.length : Int) ≤ 2000 := by omega
    go_wp2_with fail
    refine (awake8 _).mono ?_
    rintro e w9 ⟨rfl, hb9⟩
    have HB9 := Lib.hid hb9
    clear hb9
    go_wp2_with fail
    go_ret
    exact ⟨rfl, HB9.out⟩
end Go.Proofs.Ytaflbcckoiiddaa
