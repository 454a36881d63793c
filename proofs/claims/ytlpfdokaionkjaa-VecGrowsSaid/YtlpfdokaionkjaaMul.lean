/-
  Layer 1 (num): products; the reference's.
-/
import Derived.Test.YtlpfdokaionkjaaSum
namespace Go.Proofs.Ytlpfdokaionkjaa
open Go.RowKit
attribute [local go_sem] rn_true rn_false re_true re_false

theorem all3_zero (a b : Int) : all3 0 a b = (isB a && isB b) := by simp [all3, isB]
theorem mul_big {a b : Int} (h0 : 1 ≤ a) : b ≤ 1099511627776 / a ↔ a * b ≤ 1099511627776 := by
  rw [Int.le_ediv_iff_mul_le (by omega), Int.mul_comm]
/-- |x|. -/
def ab (x : Int) : Int := if x < -x then -x else x
theorem ab_nonneg (x : Int) : 0 ≤ ab x := by unfold ab; split <;> omega
theorem isB_ab (x : Int) : isB x = decide (ab x ≤ 1099511627776) := by
  rw [Bool.eq_iff_iff, isB_iff, decide_eq_true_iff]; unfold ab; split <;> constructor <;> intro h <;> (try constructor) <;> omega
theorem ab_mul (a b : Int) : ab (a * b) = ab a * ab b := by
  unfold ab
  rcases Int.lt_or_le a 0 with ha | ha <;> rcases Int.lt_or_le b 0 with hb | hb
  · have : 0 < a * b := Int.mul_pos_of_neg_of_neg ha hb
    rw [if_neg (by omega), if_pos (by omega), if_pos (by omega), Int.neg_mul_neg]
  · have : a * b ≤ 0 := Int.mul_nonpos_of_nonpos_of_nonneg (by omega) hb
    rcases Int.lt_or_le b (-b) with h | h
    · omega
    rw [if_pos (show a < -a by omega), if_neg (show ¬ b < -b by omega), Int.neg_mul]
    split <;> omega
  · have : a * b ≤ 0 := Int.mul_nonpos_of_nonneg_of_nonpos ha (by omega)
    rw [if_neg (show ¬ a < -a by omega), if_pos (show b < -b by omega), Int.mul_neg]
    split <;> omega
  · have : 0 ≤ a * b := Int.mul_nonneg ha hb
    rw [if_neg (by omega), if_neg (by omega), if_neg (by omega)]

theorem mulOk_ab {a b : Int} (h : isB a = true ∧ isB b = true) (ha : 1 ≤ ab a) : mulOk a b = decide (ab b ≤ 1099511627776 / ab a) := by
  unfold mulOk
  rw [h.1, h.2, isB_ab (a * b), ab_mul, Bool.true_and, Bool.true_and]
  rw [Bool.eq_iff_iff, decide_eq_true_iff, decide_eq_true_iff]
  exact (mul_big ha).symm
theorem mulOk_bd {a b : Int} (h : mulOk a b = true) : -1099511627776 ≤ a * b ∧ a * b ≤ 1099511627776 := by
  simp only [mulOk, Bool.and_eq_true] at h
  exact isB_iff.1 h.2
theorem ab_pos {a : Int} (h : 0 ≤ a) : ab a = a := by unfold ab; rw [if_neg (by omega)]
theorem ab_neg {a : Int} (h : a < 0) : ab a = -a := by unfold ab; rw [if_pos (by omega)]
set_option maxHeartbeats 1000000 in
theorem mul_any (a b : Int) (w : World) : Calls Try.prog 30 #[.int .i64 a, .int .i64 b] w fun e w' =>
    e = .returned (.tuple #[.int .i64 (rn (mulOk a b) (a * b)), .int .i64 (re (mulOk a b))]) ∧ Below w.heap.size w w' := by
  have H0 := Lib.hid (show Below w.heap.size w (w.alloc (.cells #[.int .i64 a, .int .i64 b] 3)) from (Below.refl _ _).alloc (Nat.le_refl _) _)
  have Hc := Lib.hid (checked_any 0 a b w.heap.size (w.alloc (.cells #[.int .i64 a, .int .i64 b] 3)) (rowAt_alloc_at _ _ _ _ rfl))
  cases hab : (isB a && isB b) with
  | false =>
    have Hm := Lib.hid (show mulOk a b = false by simp [mulOk, hab])
    have Ha := Lib.hid ((all3_zero a b).trans hab)
    go_enter Try.func30, Try.ntmps30
    go_wp2_with (go_at_call 44; refine (Hc.out).mono ?_; rw [Ha.out]; rintro e w1 ⟨rfl, hb1⟩; have HB1 := Lib.hid hb1; clear hb1)
    go_ret2
    exact ⟨by rw [Hm.out]; rfl, H0.out.trans HB1.out⟩
  | true =>
    have Ha := Lib.hid ((all3_zero a b).trans hab)
    simp only [Bool.and_eq_true] at hab
    obtain ⟨h1, h2⟩ := isB_iff.1 hab.1
    obtain ⟨h3, h4⟩ := isB_iff.1 hab.2
    have Hab := Lib.hid hab
    clear hab
    by_cases ha0 : a = 0
    · subst ha0
      go_enter Try.func30, Try.ntmps30
      go_wp2_with (go_at_call 44; refine (Hc.out).mono ?_; rw [Ha.out]; rintro e w1 ⟨rfl, hb1⟩; have HB1 := Lib.hid hb1; clear hb1)
      go_ret2
      exact ⟨by rw [show mulOk 0 b = true by simp [mulOk, Hab.out.2]; rfl]; simp [rn, re], H0.out.trans HB1.out⟩
    · have hor : (0 < a ∨ a < 0) ∧ (0 ≤ b ∨ b < 0) := by omega
      clear ha0
      obtain ⟨ha | ha, hb | hb⟩ := hor
      · skip
        have hne : (a != 0) = true := by rw [bne_iff_ne]; omega
        have ea : ab (a) = a := ab_pos (by omega)
        have eb : ab (b) = b := ab_pos hb
        have hm := mulOk_ab Hab.out (by omega)
        rw [ea, eb] at hm
        clear ea eb
        by_cases hq : 1099511627776 / a < b
        · have Hm := Lib.hid (hm.trans (decide_eq_false (by omega)))
          clear hm
          go_enter Try.func30, Try.ntmps30
          go_wp2_with (go_at_call 44; refine (Hc.out).mono ?_; rw [Ha.out]; rintro e w1 ⟨rfl, hb1⟩; have HB1 := Lib.hid hb1; clear hb1)
          go_ret2
          exact ⟨by rw [Hm.out]; rfl, H0.out.trans HB1.out⟩
        · have Hm := Lib.hid (hm.trans (decide_eq_true (by omega)))
          obtain ⟨hp1, hp2⟩ := mulOk_bd Hm.out
          clear hm
          go_enter Try.func30, Try.ntmps30
          go_wp2_with (go_at_call 44; refine (Hc.out).mono ?_; rw [Ha.out]; rintro e w1 ⟨rfl, hb1⟩; have HB1 := Lib.hid hb1; clear hb1)
          go_ret2
          exact ⟨by rw [Hm.out]; rfl, H0.out.trans HB1.out⟩
      · obtain ⟨d, rfl⟩ : ∃ d, b = -d := ⟨-b, by omega⟩
        have hne : (a != 0) = true := by rw [bne_iff_ne]; omega
        have ea : ab (a) = a := ab_pos (by omega)
        have eb : ab (-d) = d := (ab_neg hb).trans (Int.neg_neg d)
        have hm := mulOk_ab Hab.out (by omega)
        rw [ea, eb] at hm
        clear ea eb
        by_cases hq : 1099511627776 / a < d
        · have Hm := Lib.hid (hm.trans (decide_eq_false (by omega)))
          clear hm
          go_enter Try.func30, Try.ntmps30
          go_wp2_with (go_at_call 44; refine (Hc.out).mono ?_; rw [Ha.out]; rintro e w1 ⟨rfl, hb1⟩; have HB1 := Lib.hid hb1; clear hb1)
          go_ret2
          exact ⟨by rw [Hm.out]; rfl, H0.out.trans HB1.out⟩
        · have Hm := Lib.hid (hm.trans (decide_eq_true (by omega)))
          obtain ⟨hp1, hp2⟩ := mulOk_bd Hm.out
          clear hm
          go_enter Try.func30, Try.ntmps30
          go_wp2_with (go_at_call 44; refine (Hc.out).mono ?_; rw [Ha.out]; rintro e w1 ⟨rfl, hb1⟩; have HB1 := Lib.hid hb1; clear hb1)
          go_ret2
          exact ⟨by rw [Hm.out]; rfl, H0.out.trans HB1.out⟩
      · obtain ⟨c, rfl⟩ : ∃ c, a = -c := ⟨-a, by omega⟩
        have hne : (-c != 0) = true := by rw [bne_iff_ne]; omega
        have ea : ab (-c) = c := (ab_neg ha).trans (Int.neg_neg c)
        have eb : ab (b) = b := ab_pos hb
        have hm := mulOk_ab Hab.out (by omega)
        rw [ea, eb] at hm
        clear ea eb
        by_cases hq : 1099511627776 / c < b
        · have Hm := Lib.hid (hm.trans (decide_eq_false (by omega)))
          clear hm
          go_enter Try.func30, Try.ntmps30
          go_wp2_with (go_at_call 44; refine (Hc.out).mono ?_; rw [Ha.out]; rintro e w1 ⟨rfl, hb1⟩; have HB1 := Lib.hid hb1; clear hb1)
          go_ret2
          exact ⟨by rw [Hm.out]; rfl, H0.out.trans HB1.out⟩
        · have Hm := Lib.hid (hm.trans (decide_eq_true (by omega)))
          obtain ⟨hp1, hp2⟩ := mulOk_bd Hm.out
          clear hm
          go_enter Try.func30, Try.ntmps30
          go_wp2_with (go_at_call 44; refine (Hc.out).mono ?_; rw [Ha.out]; rintro e w1 ⟨rfl, hb1⟩; have HB1 := Lib.hid hb1; clear hb1)
          go_ret2
          exact ⟨by rw [Hm.out]; rfl, H0.out.trans HB1.out⟩
      · obtain ⟨⟨c, rfl⟩, ⟨d, rfl⟩⟩ : (∃ c, a = -c) ∧ (∃ d, b = -d) := ⟨⟨-a, by omega⟩, ⟨-b, by omega⟩⟩
        have hne : (-c != 0) = true := by rw [bne_iff_ne]; omega
        have ea : ab (-c) = c := (ab_neg ha).trans (Int.neg_neg c)
        have eb : ab (-d) = d := (ab_neg hb).trans (Int.neg_neg d)
        have hm := mulOk_ab Hab.out (by omega)
        rw [ea, eb] at hm
        clear ea eb
        by_cases hq : 1099511627776 / c < d
        · have Hm := Lib.hid (hm.trans (decide_eq_false (by omega)))
          clear hm
          go_enter Try.func30, Try.ntmps30
          go_wp2_with (go_at_call 44; refine (Hc.out).mono ?_; rw [Ha.out]; rintro e w1 ⟨rfl, hb1⟩; have HB1 := Lib.hid hb1; clear hb1)
          go_ret2
          exact ⟨by rw [Hm.out]; rfl, H0.out.trans HB1.out⟩
        · have Hm := Lib.hid (hm.trans (decide_eq_true (by omega)))
          obtain ⟨hp1, hp2⟩ := mulOk_bd Hm.out
          clear hm
          go_enter Try.func30, Try.ntmps30
          go_wp2_with (go_at_call 44; refine (Hc.out).mono ?_; rw [Ha.out]; rintro e w1 ⟨rfl, hb1⟩; have HB1 := Lib.hid hb1; clear hb1)
          go_ret2
          exact ⟨by rw [Hm.out]; rfl, H0.out.trans HB1.out⟩

/-- What the reference's loop keeps: what is added, what is doubled, how often yet. -/
structure Dbl (X Y n p y : Int) : Prop where
  eq : n + p * y = X * Y
  y0 : 0 ≤ y
  yY : y ≤ 1099511627776
  n1 : -1099511627776 ≤ n
  n2 : n ≤ 1099511627776
  p1 : -4398046511104 ≤ p
  p2 : p ≤ 4398046511104
  pos : 0 ≤ X → 0 ≤ n ∧ 0 ≤ p
  neg : X ≤ 0 → n ≤ 0 ∧ p ≤ 0
/-- Behind a round: the next n, the next y. -/
def nx (n p y : Int) : Int := if y % 2 = 1 then n + p else n
theorem Dbl.next {X Y n p y : Int} (h : Dbl X Y n p y) : nx n p y + (p + p) * (y / 2) = X * Y := by
  have e : y = 2 * (y / 2) + y % 2 := by omega
  have h2 : p * y = (p + p) * (y / 2) + p * (y % 2) := by
    rw [e, Int.mul_add, ← Int.mul_assoc, Int.mul_comm p 2, Int.two_mul]
    congr 1
    · congr 1; omega
    · congr 1; omega
  have h3 := h.eq
  rw [h2] at h3
  unfold nx
  split
  · rename_i h1; rw [h1, Int.mul_one] at h3; omega
  · rename_i h1
    rw [show y % 2 = 0 by omega, Int.mul_zero] at h3; omega
theorem Dbl.round {X Y n p y : Int} (h : Dbl X Y n p y) (hn : isB (nx n p y) = true) (hp : y / 2 = 0 ∨ isB p = true) : Dbl X Y (nx n p y) (p + p) (y / 2) ∨ (y / 2 = 0 ∧ nx n p y = X * Y) := by
  have hy := h.y0
  have hY := h.yY
  have hs : (0 ≤ X → 0 ≤ nx n p y) ∧ (X ≤ 0 → nx n p y ≤ 0) := by
    unfold nx; split
    · exact ⟨fun hx => by have := h.pos hx; omega, fun hx => by have := h.neg hx; omega⟩
    · exact ⟨fun hx => (h.pos hx).1, fun hx => (h.neg hx).1⟩
  by_cases h0 : y / 2 = 0
  · right
    refine ⟨h0, ?_⟩
    have := h.next
    rw [h0, Int.mul_zero] at this; omega
  · left
    have hpb := isB_iff.1 (hp.resolve_left h0)
    have hnb := isB_iff.1 hn
    exact ⟨h.next, by omega, by omega, hnb.1, hnb.2, by omega, by omega, fun hx => ⟨hs.1 hx, by have := (h.pos hx).2; omega⟩, fun hx => ⟨hs.2 hx, by have := (h.neg hx).2; omega⟩⟩
theorem Dbl.big {X Y n p y : Int} (h : Dbl X Y n p y) (hbad : isB (nx n p y) = false ∨ (0 < y / 2 ∧ isB p = false)) : isB (X * Y) = false := by
  have hy := h.y0
  have e := h.next
  have hs : (0 ≤ X → 0 ≤ nx n p y) ∧ (X ≤ 0 → nx n p y ≤ 0) := by
    unfold nx; split
    · exact ⟨fun hx => by have := h.pos hx; omega, fun hx => by have := h.neg hx; omega⟩
    · exact ⟨fun hx => (h.pos hx).1, fun hx => (h.neg hx).1⟩
  have hy2 : 0 ≤ y / 2 := by omega
  rw [isB_not]
  rcases Int.le_total 0 X with hX | hX
  · have hp := (h.pos hX).2
    have hn := hs.1 hX
    have hm : 0 ≤ (p + p) * (y / 2) := Int.mul_nonneg (by omega) hy2
    rcases hbad with hb | ⟨h1, hb⟩
    · have := isB_not.1 hb; omega
    · have := isB_not.1 hb
      have h2 : (p + p) * 1 ≤ (p + p) * (y / 2) := Int.mul_le_mul_of_nonneg_left (by omega) (by omega)
      omega
  · have hp := (h.neg hX).2
    have hn := hs.2 hX
    have hm : (p + p) * (y / 2) ≤ 0 := Int.mul_nonpos_of_nonpos_of_nonneg (by omega) hy2
    rcases hbad with hb | ⟨h1, hb⟩
    · have := isB_not.1 hb; omega
    · have := isB_not.1 hb
      have h2 : (p + p) * (y / 2) ≤ (p + p) * 1 := Int.mul_le_mul_of_nonpos_left (by omega) (by omega)
      omega
theorem Dbl.start {X Y : Int} (h1 : -1099511627776 ≤ X) (h2 : X ≤ 1099511627776) (h3 : 0 ≤ Y) (h4 : Y ≤ 1099511627776) : Dbl X Y 0 X Y :=
  ⟨by omega, h3, h4, by omega, by omega, by omega, by omega, fun h => ⟨by omega, h⟩, fun h => ⟨by omega, h⟩⟩
theorem mulOk_of {a b X Y : Int} (ha : isB a = true) (hb : isB b = true) (h : X * Y = a * b) : (isB (X * Y) = false → mulOk a b = false) ∧ (isB (X * Y) = true → mulOk a b = true) := by
  rw [h]; unfold mulOk; rw [ha, hb]
  exact ⟨fun h => by rw [h]; rfl, fun h => by rw [h]; rfl⟩
set_option maxHeartbeats 4000000 in
theorem rmul_any (a b : Int) (w : World) : Calls Try.prog 34 #[.int .i64 a, .int .i64 b] w fun e w' =>
    e = .returned (.tuple #[.int .i64 (rn (mulOk a b) (a * b)), .int .i64 (re (mulOk a b))]) ∧ w = w' := by
  cases ha : isB a
  · go_enter Try.func34, Try.ntmps34
    go_wp2_with (go_at_call 35; refine (ris_any _ _).mono ?_; rintro e w1 ⟨rfl, rfl⟩)
    go_ret2
    exact ⟨by simp [mulOk, ha, rn, re], rfl⟩
  cases hb : isB b
  · go_enter Try.func34, Try.ntmps34
    go_wp2_with (go_at_call 35; refine (ris_any _ _).mono ?_; rintro e w1 ⟨rfl, rfl⟩)
    go_ret2
    exact ⟨by simp [mulOk, hb, rn, re], rfl⟩
  have Ha := Lib.hid ha
  have Hb := Lib.hid hb
  obtain ⟨a1, a2⟩ := isB_iff.1 ha
  obtain ⟨b1, b2⟩ := isB_iff.1 hb
  by_cases hneg : b < 0
  · obtain ⟨Y, rfl⟩ : ∃ Y, b = -Y := ⟨-b, by omega⟩
    obtain ⟨X, rfl⟩ : ∃ X, a = -X := ⟨-a, by omega⟩
    have hXY : X * Y = -X * -Y := (Int.neg_mul_neg X Y).symm
    obtain ⟨hmul, hok⟩ := mulOk_of Ha.out Hb.out hXY
    have hst : Dbl X Y 0 X Y := Dbl.start (by omega) (by omega) (by omega) (by omega)
    have HXY := Lib.hid hXY
    have hYp : 0 < Y := by omega
    have Hmul := Lib.hid hmul
    have Hok := Lib.hid hok
    have Hst := Lib.hid hst
    clear hXY hmul hok hst
    go_enter Try.func34, Try.ntmps34
    go_wp2_with (go_at_call 35; refine (ris_any _ _).mono ?_; rintro e w1 ⟨rfl, rfl⟩)
    go_loop [6, 8, 9] (fun vn vy vp => ∃ n y p : Int, vn = .int .i64 n ∧ vy = .int .i64 y ∧ vp = .int .i64 p ∧ isB n = true ∧ (Dbl X Y n p y ∨ (y = 0 ∧ n = X * Y))) (fun _ vy _ => (intOf vy).toNat)
    case atStart => exact ⟨0, _, _, rfl, rfl, rfl, rfl, .inl Hst.out⟩
    case round =>
      obtain ⟨n, y, p, rfl, rfl, rfl, hnB, hd⟩ := hrel
      by_cases hy : 0 < y
      · have hd := hd.resolve_right (by omega)
        obtain ⟨b1, b2⟩ := isB_iff.1 hnB
        have b3 := hd.p1
        have b4 := hd.p2
        have b5 := hd.yY
        clear hnB
        by_cases hodd : y % 2 = 1
        · have hmb : (y % 2 == 1) = true := by rw [beq_iff_eq]; omega
          have hnx : nx n p y = n + p := by unfold nx; rw [if_pos (by omega)]
          have hrd := hd.round
          have hbg := hd.big
          rw [hnx] at hrd hbg
          have Hrd := Lib.hid hrd
          have Hbg := Lib.hid hbg
          clear hrd hbg hnx hd
          cases hn : isB (n + p) with
          | false =>
            go_wp2_with (go_at_call 35; refine (ris_any _ _).mono ?_; rintro e w1 ⟨rfl, rfl⟩)
            go_ret2
            exact ⟨by rw [Hmul.out (Hbg.out (.inl hn))]; rfl, rfl⟩
          | true =>
            by_cases hy2 : 0 < y / 2
            · cases hp : isB p with
              | false =>
                go_wp2_with (go_at_call 35; refine (ris_any _ _).mono ?_; rintro e w1 ⟨rfl, rfl⟩)
                go_ret2
                exact ⟨by rw [Hmul.out (Hbg.out (.inr ⟨hy2, hp⟩))]; rfl, rfl⟩
              | true =>
                go_wp2_with (go_at_call 35; refine (ris_any _ _).mono ?_; rintro e w1 ⟨rfl, rfl⟩)
                go_round
                case rel => exact ⟨n + p, y / 2, p + p, rfl, rfl, rfl, hn, (Hrd.out hn (.inr hp)).imp id fun h => h⟩
                case measure => simp [intOf] <;> omega
            · go_wp2_with (go_at_call 35; refine (ris_any _ _).mono ?_; rintro e w1 ⟨rfl, rfl⟩)
              go_round
              case rel => exact ⟨n + p, y / 2, p + p, rfl, rfl, rfl, hn, (Hrd.out hn (.inl (by omega))).imp id fun h => h⟩
              case measure => simp [intOf] <;> omega
        · have hmb : (y % 2 == 1) = false := by rw [beq_eq_false_iff_ne]; omega
          have hnx : nx n p y = n := by unfold nx; rw [if_neg (by omega)]
          have hrd := hd.round
          have hbg := hd.big
          rw [hnx] at hrd hbg
          have Hrd := Lib.hid hrd
          have Hbg := Lib.hid hbg
          clear hrd hbg hnx hd
          cases hn : isB (n) with
          | false =>
            go_wp2_with (go_at_call 35; refine (ris_any _ _).mono ?_; rintro e w1 ⟨rfl, rfl⟩)
            go_ret2
            exact ⟨by rw [Hmul.out (Hbg.out (.inl hn))]; rfl, rfl⟩
          | true =>
            by_cases hy2 : 0 < y / 2
            · cases hp : isB p with
              | false =>
                go_wp2_with (go_at_call 35; refine (ris_any _ _).mono ?_; rintro e w1 ⟨rfl, rfl⟩)
                go_ret2
                exact ⟨by rw [Hmul.out (Hbg.out (.inr ⟨hy2, hp⟩))]; rfl, rfl⟩
              | true =>
                go_wp2_with (go_at_call 35; refine (ris_any _ _).mono ?_; rintro e w1 ⟨rfl, rfl⟩)
                go_round
                case rel => exact ⟨n, y / 2, p + p, rfl, rfl, rfl, hn, (Hrd.out hn (.inr hp)).imp id fun h => h⟩
                case measure => simp [intOf] <;> omega
            · exact absurd (show y % 2 = 1 by omega) hodd
      · have he : n = X * Y := by
          rcases hd with hd | hd
          · have h1 := hd.eq
            have h2 := hd.y0
            obtain rfl : y = 0 := by omega
            omega
          · exact hd.2
        have Hm := Lib.hid (Hok.out (by rw [← he]; exact hnB))
        have He := Lib.hid he
        clear he hd
        go_wp2_with (go_at_call 35; refine (ris_any _ _).mono ?_; rintro e w1 ⟨rfl, rfl⟩)
        go_ret2
        exact ⟨by rw [Hm.out, ← HXY.out, ← He.out]; rfl, rfl⟩
  · have hst : Dbl a b 0 a b := Dbl.start (by omega) (by omega) (by omega) (by omega)
    obtain ⟨hmul, hok⟩ := mulOk_of Ha.out Hb.out (rfl : a * b = a * b)
    have Hmul := Lib.hid hmul
    have Hok := Lib.hid hok
    have Hst := Lib.hid hst
    clear hmul hok hst
    go_enter Try.func34, Try.ntmps34
    go_wp2_with (go_at_call 35; refine (ris_any _ _).mono ?_; rintro e w1 ⟨rfl, rfl⟩)
    go_loop [6, 8, 9] (fun vn vy vp => ∃ n y p : Int, vn = .int .i64 n ∧ vy = .int .i64 y ∧ vp = .int .i64 p ∧ isB n = true ∧ (Dbl a b n p y ∨ (y = 0 ∧ n = a * b))) (fun _ vy _ => (intOf vy).toNat)
    case atStart => exact ⟨0, _, _, rfl, rfl, rfl, rfl, .inl Hst.out⟩
    case round =>
      obtain ⟨n, y, p, rfl, rfl, rfl, hnB, hd⟩ := hrel
      by_cases hy : 0 < y
      · have hd := hd.resolve_right (by omega)
        obtain ⟨b1, b2⟩ := isB_iff.1 hnB
        have b3 := hd.p1
        have b4 := hd.p2
        have b5 := hd.yY
        clear hnB
        by_cases hodd : y % 2 = 1
        · have hmb : (y % 2 == 1) = true := by rw [beq_iff_eq]; omega
          have hnx : nx n p y = n + p := by unfold nx; rw [if_pos (by omega)]
          have hrd := hd.round
          have hbg := hd.big
          rw [hnx] at hrd hbg
          have Hrd := Lib.hid hrd
          have Hbg := Lib.hid hbg
          clear hrd hbg hnx hd
          cases hn : isB (n + p) with
          | false =>
            go_wp2_with (go_at_call 35; refine (ris_any _ _).mono ?_; rintro e w1 ⟨rfl, rfl⟩)
            go_ret2
            exact ⟨by rw [Hmul.out (Hbg.out (.inl hn))]; rfl, rfl⟩
          | true =>
            by_cases hy2 : 0 < y / 2
            · cases hp : isB p with
              | false =>
                go_wp2_with (go_at_call 35; refine (ris_any _ _).mono ?_; rintro e w1 ⟨rfl, rfl⟩)
                go_ret2
                exact ⟨by rw [Hmul.out (Hbg.out (.inr ⟨hy2, hp⟩))]; rfl, rfl⟩
              | true =>
                go_wp2_with (go_at_call 35; refine (ris_any _ _).mono ?_; rintro e w1 ⟨rfl, rfl⟩)
                go_round
                case rel => exact ⟨n + p, y / 2, p + p, rfl, rfl, rfl, hn, (Hrd.out hn (.inr hp)).imp id fun h => h⟩
                case measure => simp [intOf] <;> omega
            · go_wp2_with (go_at_call 35; refine (ris_any _ _).mono ?_; rintro e w1 ⟨rfl, rfl⟩)
              go_round
              case rel => exact ⟨n + p, y / 2, p + p, rfl, rfl, rfl, hn, (Hrd.out hn (.inl (by omega))).imp id fun h => h⟩
              case measure => simp [intOf] <;> omega
        · have hmb : (y % 2 == 1) = false := by rw [beq_eq_false_iff_ne]; omega
          have hnx : nx n p y = n := by unfold nx; rw [if_neg (by omega)]
          have hrd := hd.round
          have hbg := hd.big
          rw [hnx] at hrd hbg
          have Hrd := Lib.hid hrd
          have Hbg := Lib.hid hbg
          clear hrd hbg hnx hd
          cases hn : isB (n) with
          | false =>
            go_wp2_with (go_at_call 35; refine (ris_any _ _).mono ?_; rintro e w1 ⟨rfl, rfl⟩)
            go_ret2
            exact ⟨by rw [Hmul.out (Hbg.out (.inl hn))]; rfl, rfl⟩
          | true =>
            by_cases hy2 : 0 < y / 2
            · cases hp : isB p with
              | false =>
                go_wp2_with (go_at_call 35; refine (ris_any _ _).mono ?_; rintro e w1 ⟨rfl, rfl⟩)
                go_ret2
                exact ⟨by rw [Hmul.out (Hbg.out (.inr ⟨hy2, hp⟩))]; rfl, rfl⟩
              | true =>
                go_wp2_with (go_at_call 35; refine (ris_any _ _).mono ?_; rintro e w1 ⟨rfl, rfl⟩)
                go_round
                case rel => exact ⟨n, y / 2, p + p, rfl, rfl, rfl, hn, (Hrd.out hn (.inr hp)).imp id fun h => h⟩
                case measure => simp [intOf] <;> omega
            · exact absurd (show y % 2 = 1 by omega) hodd
      · have he : n = a * b := by
          rcases hd with hd | hd
          · have h1 := hd.eq
            have h2 := hd.y0
            obtain rfl : y = 0 := by omega
            omega
          · exact hd.2
        have Hm := Lib.hid (Hok.out (by rw [← he]; exact hnB))
        have He := Lib.hid he
        clear he hd
        go_wp2_with (go_at_call 35; refine (ris_any _ _).mono ?_; rintro e w1 ⟨rfl, rfl⟩)
        go_ret2
        exact ⟨by rw [Hm.out, ← He.out]; rfl, rfl⟩

/-! The same, each way alone. -/
theorem add_to {a b c : Int} (h : addOk a b = true) (hc : a + b = c) (w : World) : Calls Try.prog 29 #[.int .i64 a, .int .i64 b] w fun e w' => e = .returned (.tuple #[.int .i64 c, .int .i64 0]) ∧ Below w.heap.size w w' := by
  subst hc; have := add_any a b w; rwa [h] at this
theorem add_no {a b : Int} (h : addOk a b = false) (w : World) : Calls Try.prog 29 #[.int .i64 a, .int .i64 b] w fun e w' => e = .returned (.tuple #[.int .i64 0, .int .i64 2]) ∧ Below w.heap.size w w' := by
  have := add_any a b w; rwa [h] at this
theorem sub_to {a b c : Int} (h : subOk a b = true) (hc : a - b = c) (w : World) : Calls Try.prog 32 #[.int .i64 a, .int .i64 b] w fun e w' => e = .returned (.tuple #[.int .i64 c, .int .i64 0]) ∧ Below w.heap.size w w' := by
  subst hc; have := sub_any a b w; rwa [h] at this
theorem mul_to {a b c : Int} (h : mulOk a b = true) (hc : a * b = c) (w : World) : Calls Try.prog 30 #[.int .i64 a, .int .i64 b] w fun e w' => e = .returned (.tuple #[.int .i64 c, .int .i64 0]) ∧ Below w.heap.size w w' := by
  subst hc; have := mul_any a b w; rwa [h] at this
theorem mul_no {a b : Int} (h : mulOk a b = false) (w : World) : Calls Try.prog 30 #[.int .i64 a, .int .i64 b] w fun e w' => e = .returned (.tuple #[.int .i64 0, .int .i64 2]) ∧ Below w.heap.size w w' := by
  have := mul_any a b w; rwa [h] at this
theorem addOk_comm (a b : Int) : addOk a b = addOk b a := by unfold addOk; rw [Int.add_comm a b, Bool.and_comm (isB a) (isB b)]
theorem mulOk_comm (a b : Int) : mulOk a b = mulOk b a := by unfold mulOk; rw [Int.mul_comm a b, Bool.and_comm (isB a) (isB b)]
theorem addOk_parts {a b : Int} (h : addOk a b = true) : isB a = true ∧ isB b = true ∧ isB (a + b) = true := by simpa [addOk, and_assoc] using h
theorem mulOk_parts {a b : Int} (h : mulOk a b = true) : isB a = true ∧ isB b = true ∧ isB (a * b) = true := by simpa [mulOk, and_assoc] using h
theorem mul_0 {a : Int} (h : isB a = true) : mulOk a 0 = true := by unfold mulOk; rw [h, Int.mul_zero]; rfl
theorem mul_1 {a : Int} (h : isB a = true) : mulOk a 1 = true := by unfold mulOk; rw [h, Int.mul_one, h]; rfl
theorem mul_m1 {a : Int} (h : isB a = true) : mulOk a (-1) = true := by
  have := isB_iff.1 h
  unfold mulOk; rw [h, show a * (-1) = -a by omega, show isB (-a) = true from isB_iff.2 (by omega)]; rfl
end Go.Proofs.Ytlpfdokaionkjaa
