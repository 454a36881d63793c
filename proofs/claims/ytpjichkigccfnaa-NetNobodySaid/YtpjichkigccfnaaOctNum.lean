/-
  Layer 8 (octets): numbers as bytes.
-/
import Derived.Test.YtpjichkigccfnaaBytes
import Derived.Test.YtpjichkigccfnaaNum
namespace Go.Proofs.Ytpjichkigccfnaa
set_option maxRecDepth 20000
open Go.RowKit
set_option linter.unusedSimpArgs false
/-- A slice without elements. -/
theorem own_none (w : World) : OwnBy (w.alloc (.cells #[] 5)) w.heap.size (.slice (some ⟨w.heap.size, 0, none⟩) 0 0) [] := OwnBy.row (xs := []) (rowAt_alloc_at _ _ _ _ rfl) (by decide)
theorem eql_nil (w : World) : (binOp .eql 29 (.slice none 0 0) (.slice none 0 0)).run Try.prog w = .ok (.bool true) w := by kernel_rfl
theorem eql_some (w : World) (ad : Addr) (n c : Nat) : (binOp .eql 29 (.slice (some ad) n c) (.slice none 0 0)).run Try.prog w = .ok (.bool false) w := by kernel_rfl
attribute [local go_sem] eql_nil eql_some
theorem clone_any (A : Option Addr) (c : Nat) (l : List UInt8) (w : World) (hl : IsBy w A l) (hA : A = none → c = 0) (hlen : l.length ≤ 70368744177664) :
    Calls Try.prog 56 #[.slice A l.length c] w fun e w' => ∃ v, e = .returned v ∧ OwnBy w' w.heap.size v l ∧ Below w.heap.size w w' := by
  cases A with
  | none =>
    have : l = [] := by
      cases l with
      | nil => rfl
      | cons y ys => obtain ⟨b, o, h1, _⟩ := hl 0 (by simp); cases h1
    subst this
    obtain rfl := hA rfl
    go_enter Try.func56, Try.ntmps56
    go_wp2
    go_ret
    exact ⟨_, rfl, OwnBy.nil _ _, Below.refl _ _⟩
  | some ad =>
    have HL := Lib.hid hl
    clear hl hA
    go_enter Try.func56, Try.ntmps56
    go_wp2_with (at_builtin; refine wl_append_bytes rfl _ _ rfl w.heap.size _ [] l (some ad) c rfl ?c1 rfl ?c2 (fun h => by cases h) ?c3 ?c4 ?_)
    case c1 => exact own_none w
    case c2 => exact HL.out.alloc _
    case c3 => simp; omega
    case c4 => simp
    intro v' w1 hown hb
    have HO := Lib.hid hown
    have HB := Lib.hid hb
    clear hown hb
    go_wp2
    go_ret
    exact ⟨_, rfl, HO.out, ((Below.refl _ _).alloc (Nat.le_refl _) _).trans HB.out⟩
def byt (n : Nat) : UInt8 := UInt8.ofNat n
/-- The bytes of a number that is not below 0. -/
def uB (u : Nat) : List UInt8 := if u < 128 then [byt u] else byt (128 + u % 128) :: uB (u / 128)
termination_by u
decreasing_by omega
theorem uB_less {u : Nat} (h : u < 128) : uB u = [byt u] := by rw [uB, if_pos h]
theorem uB_more {u : Nat} (h : ¬ u < 128) : uB u = byt (128 + u % 128) :: uB (u / 128) := by rw [uB, if_neg h]
theorem uB_len : ∀ (k u : Nat), u < 128 ^ (k + 1) → (uB u).length ≤ k + 1 := by
  intro k
  induction k with
  | zero => intro u h; rw [uB_less (by simpa using h)]; simp
  | succ k ih =>
    intro u h
    by_cases h1 : u < 128
    · rw [uB_less h1]; simp
    · rw [uB_more h1, List.length_cons]
      have := ih (u / 128) (by rw [Nat.div_lt_iff_lt_mul (by decide)]; rw [Nat.pow_succ] at h; exact h)
      omega
/-- Numbers from 0 on, those below 0 between them. -/
def zig (n : Int) : Nat := if isB n then (if n < 0 then (-2 * n - 1).toNat else (2 * n).toNat) else 0
theorem zig_le (n : Int) : zig n ≤ 2199023255552 := by
  unfold zig
  split
  · rename_i h
    have := isB_iff.1 h
    split <;> omega
  · omega
def numB (n : Int) : List UInt8 := uB (zig n)
theorem numB_len (n : Int) : (numB n).length ≤ 6 := uB_len 5 (zig n) (Nat.lt_of_le_of_lt (zig_le n) (by decide))
/-- The bits that the bytes of a number take. -/
theorem low7 {u : Nat} (h : u < 9223372036854775808) : bits .and .i64 (u : Int) 127 = ((u % 128 : Nat) : Int) := by
  show IntKind.wrap .i64 ((BitVec.ofInt 64 u &&& BitVec.ofInt 64 127).toNat : Int) = _
  have e : (BitVec.ofInt 64 (u : Int) &&& BitVec.ofInt 64 127).toNat = u % 128 := by
    rw [BitVec.toNat_and, BitVec.ofInt_natCast, BitVec.toNat_ofNat, Nat.mod_eq_of_lt (by omega), show (BitVec.ofInt 64 127).toNat = 2 ^ 7 - 1 by decide, Nat.and_two_pow_sub_one_eq_mod]
  rw [e, IntWalk.i64_in _ (by omega)]
theorem high8 {u : Nat} (h : u < 128) : bits .or .i64 (u : Int) 128 = ((128 + u : Nat) : Int) := by
  show IntKind.wrap .i64 ((BitVec.ofInt 64 u ||| BitVec.ofInt 64 128).toNat : Int) = _
  have e : (BitVec.ofInt 64 (u : Int) ||| BitVec.ofInt 64 128).toNat = 128 + u := by
    rw [BitVec.toNat_or, BitVec.ofInt_natCast, BitVec.toNat_ofNat, Nat.mod_eq_of_lt (by omega), show (BitVec.ofInt 64 128).toNat = 2 ^ 7 * 1 by decide, Nat.or_comm, ← Nat.two_pow_add_eq_or_of_lt (by omega : u < 2 ^ 7)]
  rw [e, IntWalk.i64_in _ (by omega)]
theorem byt_toNat {u : Nat} (h : u < 256) : (byt u).toNat = u := by
  unfold byt
  rw [UInt8.toNat_ofNat']
  exact Nat.mod_eq_of_lt (by omega)
theorem byte_of {u : Nat} (h : u < 256) : (u : Int) % 256 = ((byt u).toNat : Int) := by
  rw [byt_toNat h]; omega
theorem number_any (A : Option Addr) (c : Nat) (l : List UInt8) (n : Int) (w : World) (hl : IsBy w A l) (hA : A = none → c = 0) (hlen : l.length ≤ 70368744177664) :
    Calls Try.prog 32 #[.slice A l.length c, .int .i64 n] w fun e w' => ∃ v, e = .returned v ∧ OwnBy w' w.heap.size v (l ++ numB n) ∧ Below w.heap.size w w' := by
  obtain ⟨z, hz, hz1⟩ : ∃ z : Nat, z = zig n ∧ z ≤ 2199023255552 := ⟨_, rfl, zig_le n⟩
  have hnb : numB n = uB z := by rw [hz]; rfl
  have hlz : (uB z).length ≤ 6 := by rw [← hnb]; exact numB_len n
  rw [hnb]
  clear hnb
  have HL := Lib.hid hl
  have HA := Lib.hid hA
  have HZ := Lib.hid hz
  clear hl hA hz
  have main : ∀ (s : Int) (b : Bool), isB n = b → n < 0 ∨ ¬ n < 0 → True := fun _ _ _ _ => trivial
  clear main
  cases hB : isB n
  · have hz0 : (z : Int) = 0 := by rw [HZ.out, zig, hB]; rfl
    go_enter Try.func32, Try.ntmps32
    go_wp2_with (go_at_call 43; refine (is_any _ _).mono ?_; rintro e w' ⟨rfl, rfl⟩)
    refine (clone_any A c l _ HL.out HA.out hlen).mono ?_
    rintro e w1 ⟨v, rfl, hown, hb⟩
    have HO := Lib.hid hown
    have HB1 := Lib.hid hb
    have HZ0 := Lib.hid hz0
    clear hown hb hz0
    go_wp2_with fail
    go_loopw [5, 6] (fun s v w' => ∃ (u : Nat) (ys : List UInt8), s = .int .i64 (u : Int) ∧ u ≤ 2199023255552 ∧ OwnBy w' w.heap.size v (l ++ ys) ∧ ys ++ uB u = uB z ∧ Below w.heap.size w w') (fun s _ _ => (intOf s).toNat)
    case atStart => exact ⟨z, [], by rw [HZ0.out], hz1, by rw [List.append_nil]; exact HO.out, rfl, HB1.out⟩
    case round =>
      obtain ⟨u, ys, rfl, hu, hown, hys, hb⟩ := hrel
      have HO2 := Lib.hid hown
      have HB2 := Lib.hid hb
      have hu2 : u < 9223372036854775808 := by omega
      have hyl : ys.length ≤ 6 := by have := congrArg List.length hys; rw [List.length_append] at this; omega
      have HY := Lib.hid hys
      clear hown hb hys
      by_cases hlt : 127 < u
      · have hm : u % 128 < 128 := Nat.mod_lt _ (by decide)
        go_wp2_with (at_builtin; refine wl_append_byte rfl _ _ rfl w.heap.size _ _ (byt (128 + u % 128)) ?c0 HO2.out rfl rfl rfl ?c3 HB2.out.size ?_)
        case c0 => rw [low7 hu2, high8 hm]; exact byte_of (by omega)
        case c3 => simp; omega
        intro v' w3 hown hb
        have HO3 := Lib.hid hown
        have HB3 := Lib.hid (HB2.out.trans hb)
        clear hown hb HO2 HB2
        go_wp2_with fail
        go_roundw
        case rel => exact ⟨u / 128, ys ++ [byt (128 + u % 128)], rfl, by omega, HO3.out, by rw [← HY.out, uB_more (u := u) (by omega), List.append_assoc, List.singleton_append], HB3.out⟩
        case measure => simp [intOf]; omega
      · go_wp2_with (at_builtin; refine wl_append_byte rfl _ _ rfl w.heap.size _ _ (byt u) ?c0 HO2.out rfl rfl rfl ?c3 HB2.out.size ?_)
        case c0 => rw [byt_toNat (u := u) (by omega)]
        case c3 => simp; omega
        intro v' w3 hown hb
        have HO3 := Lib.hid hown
        have HB3 := Lib.hid (HB2.out.trans hb)
        clear hown hb HO2 HB2
        go_wp2_with fail
        go_ret
        exact ⟨_, rfl, by rw [← HY.out, uB_less (u := u) (by omega)]; exact HO3.out, HB3.out⟩
  · have hr := isB_iff.1 hB
    by_cases h0 : n < 0
    · have hz0 : (z : Int) = -2 * n - 1 := by rw [HZ.out, zig, hB, if_pos rfl, if_pos h0]; omega
      go_enter Try.func32, Try.ntmps32
      go_wp2_with (go_at_call 43; refine (is_any _ _).mono ?_; rintro e w' ⟨rfl, rfl⟩)
      refine (clone_any A c l _ HL.out HA.out hlen).mono ?_
      rintro e w1 ⟨v, rfl, hown, hb⟩
      have HO := Lib.hid hown
      have HB1 := Lib.hid hb
      have HZ0 := Lib.hid hz0
      clear hown hb hz0
      go_wp2_with fail
      go_loopw [5, 6] (fun s v w' => ∃ (u : Nat) (ys : List UInt8), s = .int .i64 (u : Int) ∧ u ≤ 2199023255552 ∧ OwnBy w' w.heap.size v (l ++ ys) ∧ ys ++ uB u = uB z ∧ Below w.heap.size w w') (fun s _ _ => (intOf s).toNat)
      case atStart => exact ⟨z, [], by rw [HZ0.out], hz1, by rw [List.append_nil]; exact HO.out, rfl, HB1.out⟩
      case round =>
        obtain ⟨u, ys, rfl, hu, hown, hys, hb⟩ := hrel
        have HO2 := Lib.hid hown
        have HB2 := Lib.hid hb
        have hu2 : u < 9223372036854775808 := by omega
        have hyl : ys.length ≤ 6 := by have := congrArg List.length hys; rw [List.length_append] at this; omega
        have HY := Lib.hid hys
        clear hown hb hys
        by_cases hlt : 127 < u
        · have hm : u % 128 < 128 := Nat.mod_lt _ (by decide)
          go_wp2_with (at_builtin; refine wl_append_byte rfl _ _ rfl w.heap.size _ _ (byt (128 + u % 128)) ?c0 HO2.out rfl rfl rfl ?c3 HB2.out.size ?_)
          case c0 => rw [low7 hu2, high8 hm]; exact byte_of (by omega)
          case c3 => simp; omega
          intro v' w3 hown hb
          have HO3 := Lib.hid hown
          have HB3 := Lib.hid (HB2.out.trans hb)
          clear hown hb HO2 HB2
          go_wp2_with fail
          go_roundw
          case rel => exact ⟨u / 128, ys ++ [byt (128 + u % 128)], rfl, by omega, HO3.out, by rw [← HY.out, uB_more (u := u) (by omega), List.append_assoc, List.singleton_append], HB3.out⟩
          case measure => simp [intOf]; omega
        · go_wp2_with (at_builtin; refine wl_append_byte rfl _ _ rfl w.heap.size _ _ (byt u) ?c0 HO2.out rfl rfl rfl ?c3 HB2.out.size ?_)
          case c0 => rw [byt_toNat (u := u) (by omega)]
          case c3 => simp; omega
          intro v' w3 hown hb
          have HO3 := Lib.hid hown
          have HB3 := Lib.hid (HB2.out.trans hb)
          clear hown hb HO2 HB2
          go_wp2_with fail
          go_ret
          exact ⟨_, rfl, by rw [← HY.out, uB_less (u := u) (by omega)]; exact HO3.out, HB3.out⟩
    · have hz0 : (z : Int) = 2 * n := by rw [HZ.out, zig, hB, if_pos rfl, if_neg h0]; omega
      go_enter Try.func32, Try.ntmps32
      go_wp2_with (go_at_call 43; refine (is_any _ _).mono ?_; rintro e w' ⟨rfl, rfl⟩)
      refine (clone_any A c l _ HL.out HA.out hlen).mono ?_
      rintro e w1 ⟨v, rfl, hown, hb⟩
      have HO := Lib.hid hown
      have HB1 := Lib.hid hb
      have HZ0 := Lib.hid hz0
      clear hown hb hz0
      go_wp2_with fail
      go_loopw [5, 6] (fun s v w' => ∃ (u : Nat) (ys : List UInt8), s = .int .i64 (u : Int) ∧ u ≤ 2199023255552 ∧ OwnBy w' w.heap.size v (l ++ ys) ∧ ys ++ uB u = uB z ∧ Below w.heap.size w w') (fun s _ _ => (intOf s).toNat)
      case atStart => exact ⟨z, [], by rw [HZ0.out], hz1, by rw [List.append_nil]; exact HO.out, rfl, HB1.out⟩
      case round =>
        obtain ⟨u, ys, rfl, hu, hown, hys, hb⟩ := hrel
        have HO2 := Lib.hid hown
        have HB2 := Lib.hid hb
        have hu2 : u < 9223372036854775808 := by omega
        have hyl : ys.length ≤ 6 := by have := congrArg List.length hys; rw [List.length_append] at this; omega
        have HY := Lib.hid hys
        clear hown hb hys
        by_cases hlt : 127 < u
        · have hm : u % 128 < 128 := Nat.mod_lt _ (by decide)
          go_wp2_with (at_builtin; refine wl_append_byte rfl _ _ rfl w.heap.size _ _ (byt (128 + u % 128)) ?c0 HO2.out rfl rfl rfl ?c3 HB2.out.size ?_)
          case c0 => rw [low7 hu2, high8 hm]; exact byte_of (by omega)
          case c3 => simp; omega
          intro v' w3 hown hb
          have HO3 := Lib.hid hown
          have HB3 := Lib.hid (HB2.out.trans hb)
          clear hown hb HO2 HB2
          go_wp2_with fail
          go_roundw
          case rel => exact ⟨u / 128, ys ++ [byt (128 + u % 128)], rfl, by omega, HO3.out, by rw [← HY.out, uB_more (u := u) (by omega), List.append_assoc, List.singleton_append], HB3.out⟩
          case measure => simp [intOf]; omega
        · go_wp2_with (at_builtin; refine wl_append_byte rfl _ _ rfl w.heap.size _ _ (byt u) ?c0 HO2.out rfl rfl rfl ?c3 HB2.out.size ?_)
          case c0 => rw [byt_toNat (u := u) (by omega)]
          case c3 => simp; omega
          intro v' w3 hown hb
          have HO3 := Lib.hid hown
          have HB3 := Lib.hid (HB2.out.trans hb)
          clear hown hb HO2 HB2
          go_wp2_with fail
          go_ret
          exact ⟨_, rfl, by rw [← HY.out, uB_less (u := u) (by omega)]; exact HO3.out, HB3.out⟩
end Go.Proofs.Ytpjichkigccfnaa
