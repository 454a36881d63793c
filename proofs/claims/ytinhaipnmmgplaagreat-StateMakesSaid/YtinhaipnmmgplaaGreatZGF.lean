/-
  Layer 8 (octets): numbers as bytes.
-/
import Derived.Test.YtinhaipnmmgplaaGreatZGD
import Derived.Test.YtinhaipnmmgplaaGreatZGB
import Derived.Test.YtinhaipnmmgplaaGreatZGA
import Derived.Lib.AppendStr
namespace Go.Proofs.YtinhaipnmmgplaaGreat
set_option maxRecDepth 20000
open Go.RowKit
set_option linter.unusedSimpArgs false
/-- A slice without elements. -/
theorem own_none (w : World) : OwnBy (w.alloc (.cells #[] 5)) w.heap.size (.slice (some ⟨w.heap.size, 0, none⟩) 0 0) [] := OwnBy.row (xs := []) (rowAt_alloc_at _ _ _ _ rfl) (by decide)
theorem eql_nil (w : World) : (binOp .eql 39 (.slice none 0 0) (.slice none 0 0)).run Tryz.prog w = .ok (.bool true) w := by kernel_rfl
theorem eql_some (w : World) (ad : Addr) (n c : Nat) : (binOp .eql 39 (.slice (some ad) n c) (.slice none 0 0)).run Tryz.prog w = .ok (.bool false) w := by kernel_rfl
attribute [local go_sem] eql_nil eql_some
theorem clone_any (A : Option Addr) (c : Nat) (l : List UInt8) (w : World) (hl : IsBy w A l) (hA : A = none → c = 0) (hlen : l.length ≤ 70368744177664) :
    Calls Tryz.prog 48 #[.slice A l.length c] w fun e w' => ∃ v, e = .returned v ∧ OwnBy w' w.heap.size v l ∧ Below w.heap.size w w' := by
  cases A with
  | none =>
    have : l = [] := by
      cases l with
      | nil => rfl
      | cons y ys => obtain ⟨b, o, h1, _⟩ := hl 0 (by simp); cases h1
    subst this
    obtain rfl := hA rfl
    go_enter Tryz.func48, Tryz.ntmps48
    go_wp2
    go_ret
    exact ⟨_, rfl, OwnBy.nil _ _, Below.refl _ _⟩
  | some ad =>
    have HL := Lib.hid hl
    clear hl hA
    go_enter Tryz.func48, Tryz.ntmps48
    go_wp2_with (at_builtin; refine wl_append_bytes rfl _ _ rfl w.heap.size _ [] l (some ad) c rfl ?c1 rfl ?c2 (fun h => by cases h) ?c3 ?c4 ?_)
    case c1 => exact own_none w
    case c2 => exact HL.out.alloc _
    case c3 => simp; omega
    case c4 => simp
    intro v' w1 hown hb
    have HO := Lib.hid hown
    have HB := Lib.hid hb
    clear hown hb
    go_wp2
    go_ret
    exact ⟨_, rfl, HO.out, ((Below.refl _ _).alloc (Nat.le_refl _) _).trans HB.out⟩
def byt (n : Nat) : UInt8 := UInt8.ofNat n
/-- The bytes of a number that is not below 0. -/
def uB (u : Nat) : List UInt8 := if u < 128 then [byt u] else byt (128 + u % 128) :: uB (u / 128)
termination_by u
decreasing_by omega
theorem uB_less {u : Nat} (h : u < 128) : uB u = [byt u] := by rw [uB, if_pos h]
theorem uB_more {u : Nat} (h : ¬ u < 128) : uB u = byt (128 + u % 128) :: uB (u / 128) := by rw [uB, if_neg h]
theorem uB_len : ∀ (k u : Nat), u < 128 ^ (k + 1) → (uB u).length ≤ k + 1 := by
  intro k
  induction k with
  | zero => intro u h; rw [uB_less (by simpa using h)]; simp
  | succ k ih =>
    intro u h
    by_cases h1 : u < 128
    · rw [uB_less h1]; simp
    · rw [uB_more h1, List.length_cons]
      have := ih (u / 128) (by rw [Nat.div_lt_iff_lt_mul (by decide)]; rw [Nat.pow_succ] at h; exact h)
      omega
/-- Numbers from 0 on, those below 0 between them. -/
def zig (n : Int) : Nat := if isB n then (if n < 0 then (-2 * n - 1).toNat else (2 * n).toNat) else 0
theorem zig_le (n : Int) : zig n ≤ 2199023255552 := by
  unfold zig
  split
  · rename_i h
    have := isB_iff.1 h
    split <;> omega
  · omega
def numB (n : Int) : List UInt8 := uB (zig n)
theorem numB_len (n : Int) : (numB n).length ≤ 6 := uB_len 5 (zig n) (Nat.lt_of_le_of_lt (zig_le n) (by decide))
/-- The bits that the bytes of a number take. -/
theorem low7 {u : Nat} (h : u < 9223372036854775808) : bits .and .i64 (u : Int) 127 = ((u % 128 : Nat) : Int) := by
  show IntKind.wrap .i64 ((BitVec.ofInt 64 u &&& BitVec.ofInt 64 127).toNat : Int) = _
  have e : (BitVec.ofInt 64 (u : Int) &&& BitVec.ofInt 64 127).toNat = u % 128 := by
    rw [BitVec.toNat_and, BitVec.ofInt_natCast, BitVec.toNat_ofNat, Nat.mod_eq_of_lt (by omega), show (BitVec.ofInt 64 127).toNat = 2 ^ 7 - 1 by decide, Nat.and_two_pow_sub_one_eq_mod]
  rw [e, IntWalk.i64_in _ (by omega)]
theorem high8 {u : Nat} (h : u < 128) : bits .or .i64 (u : Int) 128 = ((128 + u : Nat) : Int) := by
  show IntKind.wrap .i64 ((BitVec.ofInt 64 u ||| BitVec.ofInt 64 128).toNat : Int) = _
  have e : (BitVec.ofInt 64 (u : Int) ||| BitVec.ofInt 64 128).toNat = 128 + u := by
    rw [BitVec.toNat_or, BitVec.ofInt_natCast, BitVec.toNat_ofNat, Nat.mod_eq_of_lt (by omega), show (BitVec.ofInt 64 128).toNat = 2 ^ 7 * 1 by decide, Nat.or_comm, ← Nat.two_pow_add_eq_or_of_lt (by omega : u < 2 ^ 7)]
  rw [e, IntWalk.i64_in _ (by omega)]
theorem byt_toNat {u : Nat} (h : u < 256) : (byt u).toNat = u := by
  unfold byt
  rw [UInt8.toNat_ofNat']
  exact Nat.mod_eq_of_lt (by omega)
theorem byte_of {u : Nat} (h : u < 256) : (u : Int) % 256 = ((byt u).toNat : Int) := by
  rw [byt_toNat h]; omega
theorem number_any (A : Option Addr) (c : Nat) (l : List UInt8) (n : Int) (w : World) (hl : IsBy w A l) (hA : A = none → c = 0) (hlen : l.length ≤ 70368744177664) :
    Calls Tryz.prog 45 #[.slice A l.length c, .int .i64 n] w fun e w' => ∃ v, e = .returned v ∧ OwnBy w' w.heap.size v (l ++ numB n) ∧ Below w.heap.size w w' := by
  obtain ⟨z, hz, hz1⟩ : ∃ z : Nat, z = zig n ∧ z ≤ 2199023255552 := ⟨_, rfl, zig_le n⟩
  have hnb : numB n = uB z := by rw [hz]; rfl
  have hlz : (uB z).length ≤ 6 := by rw [← hnb]; exact numB_len n
  rw [hnb]
  clear hnb
  have HL := Lib.hid hl
  have HA := Lib.hid hA
  have HZ := Lib.hid hz
  clear hl hA hz
  have main : ∀ (s : Int) (b : Bool), isB n = b → n < 0 ∨ ¬ n < 0 → True := fun _ _ _ _ => trivial
  clear main
  cases hB : isB n
  · have hz0 : (z : Int) = 0 := by rw [HZ.out, zig, hB]; rfl
    go_enter Tryz.func45, Tryz.ntmps45
    go_wp2_with (go_at_call 43; refine (is_any _ _).mono ?_; rintro e w' ⟨rfl, rfl⟩)
    refine (clone_any A c l _ HL.out HA.out hlen).mono ?_
    rintro e w1 ⟨v, rfl, hown, hb⟩
    have HO := Lib.hid hown
    have HB1 := Lib.hid hb
    have HZ0 := Lib.hid hz0
    clear hown hb hz0
    go_wp2_with fail
    go_loopw [5, 6] (fun s v w' => ∃ (u : Nat) (ys : List UInt8), s = .int .i64 (u : Int) ∧ u ≤ 2199023255552 ∧ OwnBy w' w.heap.size v (l ++ ys) ∧ ys ++ uB u = uB z ∧ Below w.heap.size w w') (fun s _ _ => (intOf s).toNat)
    case atStart => exact ⟨z, [], by rw [HZ0.out], hz1, by rw [List.append_nil]; exact HO.out, rfl, HB1.out⟩
    case round =>
      obtain ⟨u, ys, rfl, hu, hown, hys, hb⟩ := hrel
      have HO2 := Lib.hid hown
      have HB2 := Lib.hid hb
      have hu2 : u < 9223372036854775808 := by omega
      have hyl : ys.length ≤ 6 := by have := congrArg List.length hys; rw [List.length_append] at this; omega
      have HY := Lib.hid hys
      clear hown hb hys
      by_cases hlt : 127 < u
      · have hm : u % 128 < 128 := Nat.mod_lt _ (by decide)
        go_wp2_with (at_builtin; refine wl_append_byte rfl _ _ rfl w.heap.size _ _ (byt (128 + u % 128)) ?c0 HO2.out rfl rfl rfl ?c3 HB2.out.size ?_)
        case c0 => rw [low7 hu2, high8 hm]; exact byte_of (by omega)
        case c3 => simp; omega
        intro v' w3 hown hb
        have HO3 := Lib.hid hown
        have HB3 := Lib.hid (HB2.out.trans hb)
        clear hown hb HO2 HB2
        go_wp2_with fail
        go_roundw
        case rel => exact ⟨u / 128, ys ++ [byt (128 + u % 128)], rfl, by omega, HO3.out, by rw [← HY.out, uB_more (u := u) (by omega), List.append_assoc, List.singleton_append], HB3.out⟩
        case measure => simp [intOf]; omega
      · go_wp2_with (at_builtin; refine wl_append_byte rfl _ _ rfl w.heap.size _ _ (byt u) ?c0 HO2.out rfl rfl rfl ?c3 HB2.out.size ?_)
        case c0 => rw [byt_toNat (u := u) (by omega)]
        case c3 => simp; omega
        intro v' w3 hown hb
        have HO3 := Lib.hid hown
        have HB3 := Lib.hid (HB2.out.trans hb)
        clear hown hb HO2 HB2
        go_wp2_with fail
        go_ret
        exact ⟨_, rfl, by rw [← HY.out, uB_less (u := u) (by omega)]; exact HO3.out, HB3.out⟩
  · have hr := isB_iff.1 hB
    by_cases h0 : n < 0
    · have hz0 : (z : Int) = -2 * n - 1 := by rw [HZ.out, zig, hB, if_pos rfl, if_pos h0]; omega
      go_enter Tryz.func45, Tryz.ntmps45
      go_wp2_with (go_at_call 43; refine (is_any _ _).mono ?_; rintro e w' ⟨rfl, rfl⟩)
      refine (clone_any A c l _ HL.out HA.out hlen).mono ?_
      rintro e w1 ⟨v, rfl, hown, hb⟩
      have HO := Lib.hid hown
      have HB1 := Lib.hid hb
      have HZ0 := Lib.hid hz0
      clear hown hb hz0
      go_wp2_with fail
      go_loopw [5, 6] (fun s v w' => ∃ (u : Nat) (ys : List UInt8), s = .int .i64 (u : Int) ∧ u ≤ 2199023255552 ∧ OwnBy w' w.heap.size v (l ++ ys) ∧ ys ++ uB u = uB z ∧ Below w.heap.size w w') (fun s _ _ => (intOf s).toNat)
      case atStart => exact ⟨z, [], by rw [HZ0.out], hz1, by rw [List.append_nil]; exact HO.out, rfl, HB1.out⟩
      case round =>
        obtain ⟨u, ys, rfl, hu, hown, hys, hb⟩ := hrel
        have HO2 := Lib.hid hown
        have HB2 := Lib.hid hb
        have hu2 : u < 9223372036854775808 := by omega
        have hyl : ys.length ≤ 6 := by have := congrArg List.length hys; rw [List.length_append] at this; omega
        have HY := Lib.hid hys
        clear hown hb hys
        by_cases hlt : 127 < u
        · have hm : u % 128 < 128 := Nat.mod_lt _ (by decide)
          go_wp2_with (at_builtin; refine wl_append_byte rfl _ _ rfl w.heap.size _ _ (byt (128 + u % 128)) ?c0 HO2.out rfl rfl rfl ?c3 HB2.out.size ?_)
          case c0 => rw [low7 hu2, high8 hm]; exact byte_of (by omega)
          case c3 => simp; omega
          intro v' w3 hown hb
          have HO3 := Lib.hid hown
          have HB3 := Lib.hid (HB2.out.trans hb)
          clear hown hb HO2 HB2
          go_wp2_with fail
          go_roundw
          case rel => exact ⟨u / 128, ys ++ [byt (128 + u % 128)], rfl, by omega, HO3.out, by rw [← HY.out, uB_more (u := u) (by omega), List.append_assoc, List.singleton_append], HB3.out⟩
          case measure => simp [intOf]; omega
        · go_wp2_with (at_builtin; refine wl_append_byte rfl _ _ rfl w.heap.size _ _ (byt u) ?c0 HO2.out rfl rfl rfl ?c3 HB2.out.size ?_)
          case c0 => rw [byt_toNat (u := u) (by omega)]
          case c3 => simp; omega
          intro v' w3 hown hb
          have HO3 := Lib.hid hown
          have HB3 := Lib.hid (HB2.out.trans hb)
          clear hown hb HO2 HB2
          go_wp2_with fail
          go_ret
          exact ⟨_, rfl, by rw [← HY.out, uB_less (u := u) (by omega)]; exact HO3.out, HB3.out⟩
    · have hz0 : (z : Int) = 2 * n := by rw [HZ.out, zig, hB, if_pos rfl, if_neg h0]; omega
      go_enter Tryz.func45, Tryz.ntmps45
      go_wp2_with (go_at_call 43; refine (is_any _ _).mono ?_; rintro e w' ⟨rfl, rfl⟩)
      refine (clone_any A c l _ HL.out HA.out hlen).mono ?_
      rintro e w1 ⟨v, rfl, hown, hb⟩
      have HO := Lib.hid hown
      have HB1 := Lib.hid hb
      have HZ0 := Lib.hid hz0
      clear hown hb hz0
      go_wp2_with fail
      go_loopw [5, 6] (fun s v w' => ∃ (u : Nat) (ys : List UInt8), s = .int .i64 (u : Int) ∧ u ≤ 2199023255552 ∧ OwnBy w' w.heap.size v (l ++ ys) ∧ ys ++ uB u = uB z ∧ Below w.heap.size w w') (fun s _ _ => (intOf s).toNat)
      case atStart => exact ⟨z, [], by rw [HZ0.out], hz1, by rw [List.append_nil]; exact HO.out, rfl, HB1.out⟩
      case round =>
        obtain ⟨u, ys, rfl, hu, hown, hys, hb⟩ := hrel
        have HO2 := Lib.hid hown
        have HB2 := Lib.hid hb
        have hu2 : u < 9223372036854775808 := by omega
        have hyl : ys.length ≤ 6 := by have := congrArg List.length hys; rw [List.length_append] at this; omega
        have HY := Lib.hid hys
        clear hown hb hys
        by_cases hlt : 127 < u
        · have hm : u % 128 < 128 := Nat.mod_lt _ (by decide)
          go_wp2_with (at_builtin; refine wl_append_byte rfl _ _ rfl w.heap.size _ _ (byt (128 + u % 128)) ?c0 HO2.out rfl rfl rfl ?c3 HB2.out.size ?_)
          case c0 => rw [low7 hu2, high8 hm]; exact byte_of (by omega)
          case c3 => simp; omega
          intro v' w3 hown hb
          have HO3 := Lib.hid hown
          have HB3 := Lib.hid (HB2.out.trans hb)
          clear hown hb HO2 HB2
          go_wp2_with fail
          go_roundw
          case rel => exact ⟨u / 128, ys ++ [byt (128 + u % 128)], rfl, by omega, HO3.out, by rw [← HY.out, uB_more (u := u) (by omega), List.append_assoc, List.singleton_append], HB3.out⟩
          case measure => simp [intOf]; omega
        · go_wp2_with (at_builtin; refine wl_append_byte rfl _ _ rfl w.heap.size _ _ (byt u) ?c0 HO2.out rfl rfl rfl ?c3 HB2.out.size ?_)
          case c0 => rw [byt_toNat (u := u) (by omega)]
          case c3 => simp; omega
          intro v' w3 hown hb
          have HO3 := Lib.hid hown
          have HB3 := Lib.hid (HB2.out.trans hb)
          clear hown hb HO2 HB2
          go_wp2_with fail
          go_ret
          exact ⟨_, rfl, by rw [← HY.out, uB_less (u := u) (by omega)]; exact HO3.out, HB3.out⟩
end Go.Proofs.YtinhaipnmmgplaaGreat

/-
  Layer 8 (octets): the reader.
-/
namespace Go.Proofs.YtinhaipnmmgplaaGreat
set_option maxRecDepth 20000
open Go.RowKit
set_option linter.unusedSimpArgs false
/-- Block p is a reader of the bytes l, with the error e. -/
def Rd (w : World) (p : Nat) (l : List UInt8) (e : Int) : Prop :=
  ∃ A c, rowAt w p = some (#[.slice A l.length c, .int .i64 e], 102) ∧ IsBy w A l ∧ l.length ≤ c ∧ (A = none → c = 0) ∧ ∀ x, A = some x → x.block < p
theorem Rd.lt {w : World} {p : Nat} {l : List UInt8} {e : Int} (h : Rd w p l e) : p < w.heap.size := by
  obtain ⟨A, c, h1, _⟩ := h
  exact rowAt_lt h1
theorem Rd.below {w w' : World} {p B : Nat} {l : List UInt8} {e : Int} (h : Rd w p l e) (hb : Below B w w') (hp : p < B) : Rd w' p l e := by
  obtain ⟨A, c, h1, h2, h3, h4, h5⟩ := h
  refine ⟨A, c, (rowAt_below hb p hp).trans h1, fun i hi => ?_, h3, h4, h5⟩
  obtain ⟨b, o, g1, g2⟩ := h2 i hi
  have : b < p := h5 _ g1
  exact ⟨b, o, g1, (hb.cell (p := ⟨b, o + i, none⟩) (by show b < B; omega)).trans g2⟩
theorem err_any {w : World} {p : Nat} {l : List UInt8} {e : Int} (h : Rd w p l e) :
    Calls Tryz.prog 53 #[.pointer (some ⟨p, 0, none⟩)] w fun x w' => x = .returned (.int .i64 e) ∧ w = w' := by
  obtain ⟨A, c, h1, _⟩ := h
  have d1 : w.cell? ⟨p, 1, none⟩ = some (.int .i64 e) := by rw [cell_of_rowAt h1]; rfl
  clear h1
  go_enter Tryz.func53, Tryz.ntmps53
  go_wp2_with fail
  go_ret
  exact ⟨rfl, rfl⟩
theorem fail_only {w : World} {p : Nat} {l : List UInt8} {e : Int} (k : Int) (h : Rd w p l e) :
    Calls Tryz.prog 71 #[.pointer (some ⟨p, 0, none⟩), .int .i64 k] w fun x w' => x = .returned (.int .i64 0) ∧ Rd w' p l k ∧ Only p w w' := by
  obtain ⟨A, c, h1, h2, h3, h4, h5⟩ := h
  have d1 : w.cell? ⟨p, 1, none⟩ = some (.int .i64 e) := by rw [cell_of_rowAt h1]; rfl
  have d2 : w.frozen? ⟨p, 1, none⟩ = false := frozen_of_rowAt h1 1
  have H1 := Lib.hid h1
  have H2 := Lib.hid h2
  clear h1 h2
  go_enter Tryz.func71, Tryz.ntmps71
  go_wp2_with fail
  go_ret
  refine ⟨rfl, ⟨A, c, by rw [rowAt_setCell, if_pos rfl, H1.out]; rfl, fun i hi => ?_, h3, h4, h5⟩, Only.setCell _⟩
  obtain ⟨b, o, g1, g2⟩ := H2.out i hi
  have : b < p := h5 _ g1
  exact ⟨b, o, g1, ((below_setCell' (Below.refl p w) (Nat.le_refl _)).cell (p := ⟨b, o + i, none⟩) this).trans g2⟩
theorem fail_any {w : World} {p : Nat} {l : List UInt8} {e : Int} (k : Int) (h : Rd w p l e) :
    Calls Tryz.prog 71 #[.pointer (some ⟨p, 0, none⟩), .int .i64 k] w fun x w' => x = .returned (.int .i64 0) ∧ Rd w' p l k ∧ Below p w w' :=
  (fail_only k h).mono fun _ _ ⟨h1, h2, h3⟩ => ⟨h1, h2, h3.2.1⟩
theorem new_any (A : Option Addr) (c : Nat) (l : List UInt8) (w : World) (hl : IsBy w A l) (hA : A = none → c = 0) (hlen : l.length ≤ 70368744177664) :
    Calls Tryz.prog 27 #[.slice A l.length c] w fun e w' => ∃ p, e = .returned (.pointer (some ⟨p, 0, none⟩)) ∧ Rd w' p l 0 ∧ w.heap.size ≤ p ∧ Below w.heap.size w w' := by
  go_enter Tryz.func27, Tryz.ntmps27
  go_wp2_with fail
  refine (clone_any A c l _ hl hA hlen).mono ?_
  rintro e w1 ⟨v, rfl, hown, hb⟩
  obtain ⟨A', c', rfl, i1, i2, i3, i4⟩ := hown.isBy
  have HI := Lib.hid i1
  have HB := Lib.hid hb
  have H4 := Lib.hid i4
  clear hl hA hown hb i1 i4
  go_wp2_with fail
  go_ret
  refine ⟨w1.heap.size, rfl, ⟨A', c', rowAt_alloc_at _ _ _ _ rfl, HI.out.alloc _, i3, i2, fun x h => (H4.out x h).2⟩, HB.out.size, below_allocS HB.out _⟩
/-- Where the first byte below 128 stands. -/
def fstB : List UInt8 → Nat
  | [] => 0
  | b :: t => if b.toNat < 128 then 0 else fstB t + 1
theorem fstB_le : ∀ l, fstB l ≤ l.length
  | [] => Nat.le_refl _
  | b :: t => by
    have := fstB_le t
    rw [fstB, List.length_cons]
    split <;> omega
theorem fstB_is : ∀ (l : List UInt8) (k : Nat), k ≤ l.length → (∀ i, i < k → 128 ≤ (l.getD i 0).toNat) → (k = l.length ∨ (l.getD k 0).toNat < 128) → fstB l = k
  | [], k, h1, _, _ => by simp at h1; rw [h1]; rfl
  | b :: t, 0, _, _, h3 => by
    rcases h3 with h | h
    · simp at h
    · rw [fstB, if_pos (by simpa using h)]
  | b :: t, k + 1, h1, h2, h3 => by
    have hb := h2 0 (by omega)
    rw [fstB, if_neg (by simp at hb; omega), fstB_is t k (by simpa using h1) (fun i hi => by simpa using h2 (i + 1) (by omega)) (by simpa using h3)]
theorem low_any (n : Int) (w : World) : Calls Tryz.prog 70 #[.int .u8 n] w fun e w' => e = .returned (.bool (decide (n < 128))) ∧ w = w' := by
  go_enter Tryz.func70, Tryz.ntmps70
  go_wp2
  go_ret
  exact ⟨rfl, rfl⟩
/-- Where it stands, or -1. -/
def idxB (l : List UInt8) : Int := if fstB l < l.length then (fstB l : Int) else -1
theorem index_any (A : Option Addr) (c : Nat) (l : List UInt8) (w : World) (hl : IsBy w A l) (hlen : l.length ≤ 70368744177664) :
    Calls Tryz.prog 69 #[.slice A l.length c, .func (.func 70) #[] #[]] w fun e w' => e = .returned (.int .i64 (idxB l)) ∧ w = w' := by
  have HL := Lib.hid hl
  clear hl
  go_enter Tryz.func69, Tryz.ntmps69
  go_wp2_with fail
  go_loop [8] (fun i => ∃ k : Nat, k ≤ l.length ∧ i = .int .i64 k ∧ ∀ j, j < k → 128 ≤ (l.getD j 0).toNat) (fun i => l.length - (intOf i).toNat)
  case atStart => exact ⟨0, Nat.zero_le _, rfl, fun j hj => by omega⟩
  case round =>
    obtain ⟨k, hk, rfl, hall⟩ := hrel
    have HA := Lib.hid hall
    clear hall
    by_cases hlt : k < l.length
    · obtain ⟨b, o, rfl, hc⟩ := HL.out k hlt
      have hc' : w.cell? ⟨b, o + k, none⟩ = some (.int .u8 ((l.getD k 0).toNat : Int)) := hc
      clear hc
      generalize hx : (l.getD k 0).toNat = x at hc'
      by_cases h1 : x < 128
      · have h2 : (x : Int) < 128 := by omega
        go_wp2_with (go_at_call 70; refine (low_any _ _).mono ?_; rintro e w' ⟨rfl, rfl⟩)
        go_ret
        exact ⟨by rw [idxB, fstB_is l k hk HA.out (Or.inr (by omega)), if_pos hlt]; rfl, rfl⟩
      · have h2 : decide ((x : Int) < 128) = false := decide_eq_false (by omega)
        have h3 := Lib.hid h1
        clear h1
        have HX := Lib.hid hx
        clear hx
        go_wp2_with (go_at_call 70; refine (low_any _ _).mono ?_; rintro e w' ⟨rfl, rfl⟩)
        go_round
        case rel =>
          refine ⟨k + 1, by omega, by go_num, fun j hj => ?_⟩
          by_cases hjk : j = k
          · have := h3.out; rw [hjk, HX.out]; omega
          · exact HA.out j (by omega)
        case measure => simp [intOf]; omega
    · have hf : idxB l = -1 := by rw [idxB, fstB_is l k hk HA.out (Or.inl (by omega)), if_neg hlt]
      have HF := Lib.hid hf
      clear hf HA
      go_wp2
      go_ret
      exact ⟨by rw [HF.out]; rfl, rfl⟩
end Go.Proofs.YtinhaipnmmgplaaGreat

/-
  Layer 8 (octets): the reader's Number.
-/
namespace Go.Proofs.YtinhaipnmmgplaaGreat
set_option maxRecDepth 20000
open Go.RowKit
set_option linter.unusedSimpArgs false
attribute [local go_sem] rowAt_setRow rowAt_setCell Later.cell Later.frozen
/-- The number whose bits are these. -/
def valB : List UInt8 → Nat
  | [] => 0
  | b :: t => b.toNat % 128 + 128 * valB t
theorem valB_lt : ∀ l, valB l < 128 ^ l.length
  | [] => by simp [valB]
  | b :: t => by
    have := valB_lt t
    rw [valB, List.length_cons, Nat.pow_succ]
    omega
theorem valB_small {l : List UInt8} (h : l.length ≤ 6) : valB l < 4398046511104 := Nat.lt_of_lt_of_le (valB_lt l) (Nat.pow_le_pow_right (by decide) h)
def unzig (u : Nat) : Int := if u % 2 = 1 then -((u / 2 : Nat) : Int) - 1 else ((u / 2 : Nat) : Int)
/-- What is read, the error, what is left. -/
def rdNum (l : List UInt8) : Int × Int × List UInt8 :=
  if fstB l < l.length then
    if 6 ≤ fstB l then (0, 4, l)
    else if 0 < fstB l ∧ (l.getD (fstB l) 0).toNat = 0 then (0, 4, l)
    else if isB (unzig (valB (l.take (fstB l + 1)))) then (unzig (valB (l.take (fstB l + 1))), 0, l.drop (fstB l + 1)) else (0, 2, l)
  else if 6 < l.length then (0, 4, l) else (0, 3, l)
def rd (l : List UInt8) (e : Int) : Int × Int × List UInt8 := if e = 0 then rdNum l else (0, e, l)
theorem rd_err {l : List UInt8} {e : Int} (h : e ≠ 0) : rd l e = (0, e, l) := by rw [rd, if_neg h]
theorem rd_long {l : List UInt8} {K : Nat} (hK : fstB l = K) (hf : K < l.length) (h6 : 6 ≤ K) : rd l 0 = (0, 4, l) := by rw [rd, if_pos rfl, rdNum, hK, if_pos hf, if_pos h6]
theorem rd_none {l : List UInt8} (hf : ¬ fstB l < l.length) (h6 : 6 < l.length) : rd l 0 = (0, 4, l) := by rw [rd, if_pos rfl, rdNum, if_neg hf, if_pos h6]
theorem rd_short {l : List UInt8} (hf : ¬ fstB l < l.length) (h6 : ¬ 6 < l.length) : rd l 0 = (0, 3, l) := by rw [rd, if_pos rfl, rdNum, if_neg hf, if_neg h6]
theorem rd_zero {l : List UInt8} {K : Nat} (hK : fstB l = K) (hf : K < l.length) (h6 : ¬ 6 ≤ K) (h0 : 0 < K ∧ (l.getD K 0).toNat = 0) : rd l 0 = (0, 4, l) := by rw [rd, if_pos rfl, rdNum, hK, if_pos hf, if_neg h6, if_pos h0]
theorem rd_range {l : List UInt8} {K : Nat} {N : Int} (hK : fstB l = K) (hf : K < l.length) (h6 : ¬ 6 ≤ K) (h0 : ¬ (0 < K ∧ (l.getD K 0).toNat = 0)) (hN : unzig (valB (l.take (K + 1))) = N) (hB : isB N = false) : rd l 0 = (0, 2, l) := by
  rw [rd, if_pos rfl, rdNum, hK, if_pos hf, if_neg h6, if_neg h0, hN, hB]; rfl
theorem rd_ok {l : List UInt8} {K : Nat} {N : Int} (hK : fstB l = K) (hf : K < l.length) (h6 : ¬ 6 ≤ K) (h0 : ¬ (0 < K ∧ (l.getD K 0).toNat = 0)) (hN : unzig (valB (l.take (K + 1))) = N) (hB : isB N = true) : rd l 0 = (N, 0, l.drop (K + 1)) := by
  rw [rd, if_pos rfl, rdNum, hK, if_pos hf, if_neg h6, if_neg h0, hN, hB]; rfl
theorem index_is {A : Option Addr} {c : Nat} {l : List UInt8} {w : World} (hl : IsBy w A l) (hlen : l.length ≤ 70368744177664) {n : Int} (hn : idxB l = n) :
    Calls Tryz.prog 69 #[.slice A l.length c, .func (.func 70) #[] #[]] w fun e w2 => e = .returned (.int .i64 n) ∧ w = w2 := by
  rw [← hn]
  exact index_any A c l w hl hlen
theorem low7b {u : Nat} (h : u < 256) : bits .and .u8 (u : Int) 127 = ((u % 128 : Nat) : Int) := by
  show IntKind.wrap .u8 ((BitVec.ofInt 8 u &&& BitVec.ofInt 8 127).toNat : Int) = _
  have e : (BitVec.ofInt 8 (u : Int) &&& BitVec.ofInt 8 127).toNat = u % 128 := by
    rw [BitVec.toNat_and, BitVec.ofInt_natCast, BitVec.toNat_ofNat, Nat.mod_eq_of_lt (by omega), show (BitVec.ofInt 8 127).toNat = 2 ^ 7 - 1 by decide, Nat.and_two_pow_sub_one_eq_mod]
  rw [e, IntWalk.u8_in _ (by omega)]
theorem low1 {u : Nat} (h : u < 9223372036854775808) : bits .and .i64 (u : Int) 1 = ((u % 2 : Nat) : Int) := by
  show IntKind.wrap .i64 ((BitVec.ofInt 64 u &&& BitVec.ofInt 64 1).toNat : Int) = _
  have e : (BitVec.ofInt 64 (u : Int) &&& BitVec.ofInt 64 1).toNat = u % 2 := by
    rw [BitVec.toNat_and, BitVec.ofInt_natCast, BitVec.toNat_ofNat, Nat.mod_eq_of_lt (by omega), show (BitVec.ofInt 64 1).toNat = 2 ^ 1 - 1 by decide, Nat.and_two_pow_sub_one_eq_mod]
  rw [e, IntWalk.i64_in _ (by omega)]
theorem join7 {u x : Nat} (h : u < 4398046511104) (hx : x < 128) : bits .or .i64 ((u : Int) * 128) (x : Int) = ((x + 128 * u : Nat) : Int) := by
  show IntKind.wrap .i64 ((BitVec.ofInt 64 ((u : Int) * 128) ||| BitVec.ofInt 64 x).toNat : Int) = _
  have e : (BitVec.ofInt 64 ((u : Int) * 128) ||| BitVec.ofInt 64 (x : Int)).toNat = x + 128 * u := by
    rw [show (u : Int) * 128 = ((2 ^ 7 * u : Nat) : Int) by omega, BitVec.toNat_or, BitVec.ofInt_natCast, BitVec.ofInt_natCast, BitVec.toNat_ofNat, BitVec.toNat_ofNat, Nat.mod_eq_of_lt (by omega), Nat.mod_eq_of_lt (by omega), ← Nat.two_pow_add_eq_or_of_lt (by omega : x < 2 ^ 7)]
    omega
  rw [e, IntWalk.i64_in _ (by omega)]
theorem val_step {l : List UInt8} {i m : Nat} (h : i < m) (hm : m ≤ l.length) : valB ((l.take m).drop i) = (l.getD i 0).toNat % 128 + 128 * valB ((l.take m).drop (i + 1)) := by
  rw [List.drop_eq_getElem_cons (by simp; omega), valB]
  simp [List.getD, List.getElem?_eq_getElem (show i < l.length by omega)]
theorem is_is {n N : Int} (h : n = N) {b : Bool} (hB : isB N = b) (w : World) : Calls Tryz.prog 43 #[.int .i64 n] w fun e w' => e = .returned (.bool b) ∧ w = w' := by
  subst h
  rw [← hB]
  exact is_any _ _
theorem rd_store {w : World} {p b o c' : Nat} {l : List UInt8} {v : Value} {A' : Option Addr} {e : Int} {m : Nat} (h : rowAt w p = some (#[v, .int .i64 e], 102)) (hl : IsBy w (some ⟨b, o, none⟩) l) (n : Nat) (hb : b < p)
    (hA : n < l.length → A' = some ⟨b, o + n, none⟩) (hm : m = l.length - n) (hc : l.length - n ≤ c') (hA' : ∃ o', A' = some ⟨b, o', none⟩) : Rd (w.setCell ⟨p, 0, none⟩ (.slice A' m c')) p (l.drop n) e := by
  subst hm
  obtain ⟨o', ho'⟩ := hA'
  refine ⟨A', c', by rw [rowAt_setCell, if_pos rfl, h, List.length_drop]; rfl, fun i hi => ?_, by rw [List.length_drop]; exact hc, fun hn => (by rw [ho'] at hn; cases hn), fun x2 h2 => ?_⟩
  · have hd := hl.drop n (A' := some ⟨b, o + n, none⟩) (fun _ => by simp [Addr.add_lit])
    obtain ⟨b1, o1, g1, g2⟩ := hd i hi
    injection g1 with g1
    injection g1 with g3 g4
    subst g3 g4
    have hlen : n < l.length := by simp at hi; omega
    exact ⟨b, o + n, hA hlen, ((below_setCell' (Below.refl p w) (Nat.le_refl _)).cell (p := ⟨b, o + n + i, none⟩) hb).trans g2⟩
  · rw [ho'] at h2
    injection h2 with h2
    subst h2
    exact hb
set_option maxRecDepth 10000 in
set_option maxHeartbeats 20000000 in
theorem rnum_only {w : World} {p : Nat} {l : List UInt8} {e : Int} (h : Rd w p l e) (hlen : l.length ≤ 70368744177664) :
    Calls Tryz.prog 49 #[.pointer (some ⟨p, 0, none⟩)] w fun x w' => x = .returned (.int .i64 (rd l e).1) ∧ Rd w' p (rd l e).2.2 (rd l e).2.1 ∧ Only p w w' := by
  have HR := Lib.hid h
  obtain ⟨A, c, h1, h2, h3, h4, h5⟩ := h
  by_cases he : e = 0
  · subst he
    have d0 : w.cell? ⟨p, 0, none⟩ = some (.slice A l.length c) := by rw [cell_of_rowAt h1]; rfl
    have HL := Lib.hid h2
    have H1 := Lib.hid h1
    have hpl := rowAt_lt h1
    have H4 := Lib.hid h4
    clear h1 h2 h4
    by_cases hf : fstB l < l.length
    · obtain ⟨K, hK⟩ : ∃ K, fstB l = K := ⟨_, rfl⟩
      rw [hK] at hf
      have HI : Hid (idxB l = (K : Int)) := Lib.hid (by rw [idxB, hK, if_pos hf])
      have HK := Lib.hid hK
      have HF := Lib.hid hf
      clear hK
      by_cases h6 : 6 ≤ K
      · go_enter Tryz.func49, Tryz.ntmps49
        go_wp2_with (first | (go_at_call 53; refine (err_any HR.out).mono ?_; rintro e w' ⟨rfl, rfl⟩) | (go_at_call 69; refine (index_is HL.out hlen HI.out).mono ?_; rintro e w' ⟨rfl, rfl⟩))
        refine (fail_only 4 HR.out).mono ?_
        rintro e w1 ⟨rfl, hr, hb⟩
        have HR1 := Lib.hid hr
        have HB1 := Lib.hid hb
        clear hr hb
        go_wp2_with fail
        go_ret
        rw [show rd l 0 = (0, 4, l) from rd_long HK.out HF.out h6]
        exact ⟨rfl, HR1.out, HB1.out⟩
      · obtain ⟨x, hx⟩ : ∃ x, (l.getD K 0).toNat = x := ⟨_, rfl⟩
        obtain ⟨b, o, rfl, hc⟩ := HL.out K hf
        have dK : w.cell? ⟨b, o + K, none⟩ = some (.int .u8 (x : Int)) := by rw [← hx]; exact hc
        have HX := Lib.hid hx
        clear hc hx
        go_enter Tryz.func49, Tryz.ntmps49
        go_wp2_with (first | (go_at_call 53; refine (err_any HR.out).mono ?_; rintro e w' ⟨rfl, rfl⟩) | (go_at_call 69; refine (index_is HL.out hlen HI.out).mono ?_; rintro e w' ⟨rfl, rfl⟩))
        go_loop [4, 5] (fun u k => ∃ j : Nat, j ≤ K + 1 ∧ k = .int .i64 ((j : Int) - 1) ∧ u = .int .i64 (valB ((l.take (K + 1)).drop j) : Int)) (fun _ k => (intOf k + 1).toNat)
        case atStart => exact ⟨K + 1, Nat.le_refl _, congrArg (Value.int .i64) (by omega), by rw [List.drop_eq_nil_of_le (by simp; omega)]; rfl⟩
        case round =>
          obtain ⟨j, hj, rfl, rfl⟩ := hrel
          cases j with
          | zero =>
            obtain ⟨V, hV⟩ : ∃ V, valB (l.take (K + 1)) = V := ⟨_, rfl⟩
            have hV2 : V < 4398046511104 := by rw [← hV]; exact valB_small (by simp; omega)
            rw [List.drop_zero, hV]
            obtain ⟨N, hN⟩ : ∃ N, unzig V = N := ⟨_, rfl⟩
            have HN : Hid (unzig (valB (l.take (K + 1))) = N) := Lib.hid (by rw [hV]; exact hN)
            by_cases hp : V % 2 = 1
            · rw [unzig, if_pos hp] at hN
              have hp1 := low1 (u := V) (by omega)
              rw [hp] at hp1
              have HNE := Lib.hid hN
              have HE : Hid (-((V : Int) / 2) - 1 = N) := Lib.hid (by omega)
              clear hV hN
              by_cases hk0 : 0 < K
              · by_cases hx0 : x = 0
                · subst hx0
                  go_wp2_with fail
                  refine (fail_only 4 HR.out).mono ?_
                  rintro e w1 ⟨rfl, hr, hb⟩
                  have HR1 := Lib.hid hr
                  have HB1 := Lib.hid hb
                  clear hr hb
                  go_wp2_with fail
                  go_ret
                  rw [show rd l 0 = (0, 4, l) from (rd_zero HK.out HF.out h6 ⟨hk0, HX.out.trans rfl⟩)]
                  exact ⟨rfl, HR1.out, HB1.out⟩
                · have NZ : Hid (¬ (0 < K ∧ (l.getD K 0).toNat = 0)) := Lib.hid fun h => hx0 (HX.out.symm.trans h.2)
                  have hx1 : decide ((x : Int) = 0) = false := decide_eq_false (by omega)
                  have hx2 : ((x : Int) == 0) = false := beq_eq_false_iff_ne.2 (by omega)
                  cases hB : isB N
                  · have hB2 := hB
                    go_wp2_with (go_at_call 43; refine (is_is (by have := HNE.out; omega) hB _).mono ?_; rintro e w' ⟨rfl, rfl⟩)
                    refine (fail_only 2 HR.out).mono ?_
                    rintro e w1 ⟨rfl, hr, hb⟩
                    have HR1 := Lib.hid hr
                    have HB1 := Lib.hid hb
                    clear hr hb
                    go_wp2_with fail
                    go_ret
                    rw [show rd l 0 = (0, 2, l) from rd_range HK.out HF.out h6 NZ.out HN.out hB]
                    exact ⟨rfl, HR1.out, HB1.out⟩
                  · have hB2 := hB
                    go_wp2_with (go_at_call 43; refine (is_is (by have := HNE.out; omega) hB _).mono ?_; rintro e w' ⟨rfl, rfl⟩)
                    go_wp2_with fail
                    refine region_quiet_tail 20 (by kernel_rfl) (by kernel_rfl) ?_
                    simp only [List.take_succ_cons, List.take_zero, List.drop_succ_cons, List.drop_zero]
                    repeat (go_big_quiet_step (fail))
                    refine wpQuiet_nil ?_
                    intro w3 hb3
                    have e0 : w3.cell? ⟨p, 0, none⟩ = some (.slice (some ⟨b, o, none⟩) l.length c) := (hb3.cell (p := ⟨p, 0, none⟩) hpl).trans d0
                    have H3 := Lib.hid (rowKeep hb3 H1.out)
                    have f0 : w3.frozen? ⟨p, 0, none⟩ = false := frozen_of_rowAt H3.out 0
                    have HB3 := Lib.hid hb3
                    clear hb3
                    have HL3 := Lib.hid (HL.out.below HB3.out)
                    have HO := Lib.hid (show rd l 0 = (N, 0, l.drop (K + 1)) from rd_ok HK.out HF.out h6 NZ.out HN.out hB)
                    go_wp2_with fail
                    all_goals
                      go_ret
                      rw [HO.out]
                      refine ⟨?z1, ?z2, ?z3⟩
                      case z1 => exact congrArg (fun n => Ending.returned (Value.int .i64 n)) HE.out
                      case z3 => exact (Only.of_below HB3.out (Nat.le_of_lt hpl)).trans (Only.setCell _)
                      case z2 => exact rd_store (b := b) (o := o) H3.out HL3.out (K + 1) (h5 _ rfl) (fun h => (by first | rfl | omega)) (by omega) (by omega) ⟨_, rfl⟩
              · have NZ : Hid (¬ (0 < K ∧ (l.getD K 0).toNat = 0)) := Lib.hid fun h => hk0 h.1
                have hk1 : decide ((0 : Int) < (K : Int)) = false := decide_eq_false (by omega)
                have hk2 : decide (0 < K) = false := decide_eq_false hk0
                have hk3 : K = 0 := by omega
                have HK3 := Lib.hid hk3
                clear hk3
                cases hB : isB N
                · have hB2 := hB
                  go_wp2_with (go_at_call 43; refine (is_is (by have := HNE.out; omega) hB _).mono ?_; rintro e w' ⟨rfl, rfl⟩)
                  refine (fail_only 2 HR.out).mono ?_
                  rintro e w1 ⟨rfl, hr, hb⟩
                  have HR1 := Lib.hid hr
                  have HB1 := Lib.hid hb
                  clear hr hb
                  go_wp2_with fail
                  go_ret
                  rw [show rd l 0 = (0, 2, l) from rd_range HK.out HF.out h6 NZ.out HN.out hB]
                  exact ⟨rfl, HR1.out, HB1.out⟩
                · have hB2 := hB
                  go_wp2_with (go_at_call 43; refine (is_is (by have := HNE.out; omega) hB _).mono ?_; rintro e w' ⟨rfl, rfl⟩)
                  go_wp2_with fail
                  refine region_quiet_tail 20 (by kernel_rfl) (by kernel_rfl) ?_
                  simp only [List.take_succ_cons, List.take_zero, List.drop_succ_cons, List.drop_zero]
                  repeat (go_big_quiet_step (fail))
                  refine wpQuiet_nil ?_
                  intro w3 hb3
                  have e0 : w3.cell? ⟨p, 0, none⟩ = some (.slice (some ⟨b, o, none⟩) l.length c) := (hb3.cell (p := ⟨p, 0, none⟩) hpl).trans d0
                  have H3 := Lib.hid (rowKeep hb3 H1.out)
                  have f0 : w3.frozen? ⟨p, 0, none⟩ = false := frozen_of_rowAt H3.out 0
                  have HB3 := Lib.hid hb3
                  clear hb3
                  have HL3 := Lib.hid (HL.out.below HB3.out)
                  have HO := Lib.hid (show rd l 0 = (N, 0, l.drop (K + 1)) from rd_ok HK.out HF.out h6 NZ.out HN.out hB)
                  go_wp2_with fail
                  all_goals
                    go_ret
                    rw [HO.out]
                    refine ⟨?z1, ?z2, ?z3⟩
                    case z1 => exact congrArg (fun n => Ending.returned (Value.int .i64 n)) HE.out
                    case z3 => exact (Only.of_below HB3.out (Nat.le_of_lt hpl)).trans (Only.setCell _)
                    case z2 => exact rd_store (b := b) (o := o) H3.out HL3.out (K + 1) (h5 _ rfl) (fun h => (by first | rfl | omega)) (by omega) (by omega) ⟨_, rfl⟩
            · rw [unzig, if_neg hp] at hN
              have hp1 := low1 (u := V) (by omega)
              rw [show V % 2 = 0 by omega] at hp1
              have HNE := Lib.hid hN
              have HE : Hid ((V : Int) / 2 = N) := Lib.hid (by omega)
              clear hV hN
              by_cases hk0 : 0 < K
              · by_cases hx0 : x = 0
                · subst hx0
                  go_wp2_with fail
                  refine (fail_only 4 HR.out).mono ?_
                  rintro e w1 ⟨rfl, hr, hb⟩
                  have HR1 := Lib.hid hr
                  have HB1 := Lib.hid hb
                  clear hr hb
                  go_wp2_with fail
                  go_ret
                  rw [show rd l 0 = (0, 4, l) from (rd_zero HK.out HF.out h6 ⟨hk0, HX.out.trans rfl⟩)]
                  exact ⟨rfl, HR1.out, HB1.out⟩
                · have NZ : Hid (¬ (0 < K ∧ (l.getD K 0).toNat = 0)) := Lib.hid fun h => hx0 (HX.out.symm.trans h.2)
                  have hx1 : decide ((x : Int) = 0) = false := decide_eq_false (by omega)
                  have hx2 : ((x : Int) == 0) = false := beq_eq_false_iff_ne.2 (by omega)
                  cases hB : isB N
                  · have hB2 := hB
                    go_wp2_with (go_at_call 43; refine (is_is (by have := HNE.out; omega) hB _).mono ?_; rintro e w' ⟨rfl, rfl⟩)
                    refine (fail_only 2 HR.out).mono ?_
                    rintro e w1 ⟨rfl, hr, hb⟩
                    have HR1 := Lib.hid hr
                    have HB1 := Lib.hid hb
                    clear hr hb
                    go_wp2_with fail
                    go_ret
                    rw [show rd l 0 = (0, 2, l) from rd_range HK.out HF.out h6 NZ.out HN.out hB]
                    exact ⟨rfl, HR1.out, HB1.out⟩
                  · have hB2 := hB
                    go_wp2_with (go_at_call 43; refine (is_is (by have := HNE.out; omega) hB _).mono ?_; rintro e w' ⟨rfl, rfl⟩)
                    go_wp2_with fail
                    refine region_quiet_tail 20 (by kernel_rfl) (by kernel_rfl) ?_
                    simp only [List.take_succ_cons, List.take_zero, List.drop_succ_cons, List.drop_zero]
                    repeat (go_big_quiet_step (fail))
                    refine wpQuiet_nil ?_
                    intro w3 hb3
                    have e0 : w3.cell? ⟨p, 0, none⟩ = some (.slice (some ⟨b, o, none⟩) l.length c) := (hb3.cell (p := ⟨p, 0, none⟩) hpl).trans d0
                    have H3 := Lib.hid (rowKeep hb3 H1.out)
                    have f0 : w3.frozen? ⟨p, 0, none⟩ = false := frozen_of_rowAt H3.out 0
                    have HB3 := Lib.hid hb3
                    clear hb3
                    have HL3 := Lib.hid (HL.out.below HB3.out)
                    have HO := Lib.hid (show rd l 0 = (N, 0, l.drop (K + 1)) from rd_ok HK.out HF.out h6 NZ.out HN.out hB)
                    go_wp2_with fail
                    all_goals
                      go_ret
                      rw [HO.out]
                      refine ⟨?z1, ?z2, ?z3⟩
                      case z1 => exact congrArg (fun n => Ending.returned (Value.int .i64 n)) HE.out
                      case z3 => exact (Only.of_below HB3.out (Nat.le_of_lt hpl)).trans (Only.setCell _)
                      case z2 => exact rd_store (b := b) (o := o) H3.out HL3.out (K + 1) (h5 _ rfl) (fun h => (by first | rfl | omega)) (by omega) (by omega) ⟨_, rfl⟩
              · have NZ : Hid (¬ (0 < K ∧ (l.getD K 0).toNat = 0)) := Lib.hid fun h => hk0 h.1
                have hk1 : decide ((0 : Int) < (K : Int)) = false := decide_eq_false (by omega)
                have hk2 : decide (0 < K) = false := decide_eq_false hk0
                have hk3 : K = 0 := by omega
                have HK3 := Lib.hid hk3
                clear hk3
                cases hB : isB N
                · have hB2 := hB
                  go_wp2_with (go_at_call 43; refine (is_is (by have := HNE.out; omega) hB _).mono ?_; rintro e w' ⟨rfl, rfl⟩)
                  refine (fail_only 2 HR.out).mono ?_
                  rintro e w1 ⟨rfl, hr, hb⟩
                  have HR1 := Lib.hid hr
                  have HB1 := Lib.hid hb
                  clear hr hb
                  go_wp2_with fail
                  go_ret
                  rw [show rd l 0 = (0, 2, l) from rd_range HK.out HF.out h6 NZ.out HN.out hB]
                  exact ⟨rfl, HR1.out, HB1.out⟩
                · have hB2 := hB
                  go_wp2_with (go_at_call 43; refine (is_is (by have := HNE.out; omega) hB _).mono ?_; rintro e w' ⟨rfl, rfl⟩)
                  go_wp2_with fail
                  refine region_quiet_tail 20 (by kernel_rfl) (by kernel_rfl) ?_
                  simp only [List.take_succ_cons, List.take_zero, List.drop_succ_cons, List.drop_zero]
                  repeat (go_big_quiet_step (fail))
                  refine wpQuiet_nil ?_
                  intro w3 hb3
                  have e0 : w3.cell? ⟨p, 0, none⟩ = some (.slice (some ⟨b, o, none⟩) l.length c) := (hb3.cell (p := ⟨p, 0, none⟩) hpl).trans d0
                  have H3 := Lib.hid (rowKeep hb3 H1.out)
                  have f0 : w3.frozen? ⟨p, 0, none⟩ = false := frozen_of_rowAt H3.out 0
                  have HB3 := Lib.hid hb3
                  clear hb3
                  have HL3 := Lib.hid (HL.out.below HB3.out)
                  have HO := Lib.hid (show rd l 0 = (N, 0, l.drop (K + 1)) from rd_ok HK.out HF.out h6 NZ.out HN.out hB)
                  go_wp2_with fail
                  all_goals
                    go_ret
                    rw [HO.out]
                    refine ⟨?z1, ?z2, ?z3⟩
                    case z1 => exact congrArg (fun n => Ending.returned (Value.int .i64 n)) HE.out
                    case z3 => exact (Only.of_below HB3.out (Nat.le_of_lt hpl)).trans (Only.setCell _)
                    case z2 => exact rd_store (b := b) (o := o) H3.out HL3.out (K + 1) (h5 _ rfl) (fun h => (by first | rfl | omega)) (by omega) (by omega) ⟨_, rfl⟩
          | succ i =>
            have hi : i < l.length := by omega
            obtain ⟨b', o', hbo, hc⟩ := HL.out i hi
            injection hbo with hbo
            injection hbo with hb1 hb2
            subst hb1 hb2
            have hstep := val_step (l := l) (i := i) (m := K + 1) (by omega) (by omega)
            have hlt : valB ((l.take (K + 1)).drop (i + 1)) < 4398046511104 := valB_small (by simp; omega)
            have hlt2 : valB ((l.take (K + 1)).drop i) < 4398046511104 := valB_small (by simp; omega)
            have dI : w.cell? ⟨b, o + i, none⟩ = some (.int .u8 ((l.getD i 0).toNat : Int)) := hc
            have hx256 : (l.getD i 0).toNat < 256 := (l.getD i 0).toNat_lt
            clear hc
            generalize (l.getD i 0).toNat = y at *
            generalize valB ((l.take (K + 1)).drop (i + 1)) = U at *
            have HS := Lib.hid hstep
            clear hstep
            go_wp2_with fail
            go_round
            case rel =>
              refine ⟨i, by omega, ?_, ?_⟩
              · rfl
              · refine congrArg (Value.int .i64) ?_
                rw [low7b hx256, IntWalk.wrap64_in _ (by omega), join7 hlt (Nat.mod_lt _ (by decide)), HS.out]
            case measure => simp [intOf]
    · have HF := Lib.hid hf
      have HI : Hid (idxB l = -1) := Lib.hid (by rw [idxB, if_neg hf])
      clear hf
      by_cases h6 : 6 < l.length
      · have h6i : (6 : Int) < (l.length : Int) := by omega
        go_enter Tryz.func49, Tryz.ntmps49
        go_wp2_with (first | (go_at_call 53; refine (err_any HR.out).mono ?_; rintro e w' ⟨rfl, rfl⟩) | (go_at_call 69; refine (index_is HL.out hlen HI.out).mono ?_; rintro e w' ⟨rfl, rfl⟩))
        refine (fail_only 4 HR.out).mono ?_
        rintro e w1 ⟨rfl, hr, hb⟩
        have HR1 := Lib.hid hr
        have HB1 := Lib.hid hb
        clear hr hb
        go_wp2_with fail
        go_ret
        rw [show rd l 0 = (0, 4, l) from rd_none HF.out h6]
        exact ⟨rfl, HR1.out, HB1.out⟩
      · have h6i : decide ((6 : Int) < (l.length : Int)) = false := decide_eq_false (by omega)
        go_enter Tryz.func49, Tryz.ntmps49
        go_wp2_with (first | (go_at_call 53; refine (err_any HR.out).mono ?_; rintro e w' ⟨rfl, rfl⟩) | (go_at_call 69; refine (index_is HL.out hlen HI.out).mono ?_; rintro e w' ⟨rfl, rfl⟩))
        refine (fail_only 3 HR.out).mono ?_
        rintro e w1 ⟨rfl, hr, hb⟩
        have HR1 := Lib.hid hr
        have HB1 := Lib.hid hb
        clear hr hb
        go_wp2_with fail
        go_ret
        rw [show rd l 0 = (0, 3, l) from rd_short HF.out h6]
        exact ⟨rfl, HR1.out, HB1.out⟩
  · have e1 : (e == 0) = false := beq_eq_false_iff_ne.2 he
    have e2 : decide (e = 0) = false := decide_eq_false he
    rw [rd_err he]
    clear h1 h2 h3 h4 h5
    go_enter Tryz.func49, Tryz.ntmps49
    go_wp2_with (go_at_call 53; refine (err_any HR.out).mono ?_; rintro e w' ⟨rfl, rfl⟩)
    go_ret
    exact ⟨rfl, HR.out, Only.refl _ _⟩
theorem rnum_any {w : World} {p : Nat} {l : List UInt8} {e : Int} (h : Rd w p l e) (hlen : l.length ≤ 70368744177664) :
    Calls Tryz.prog 49 #[.pointer (some ⟨p, 0, none⟩)] w fun x w' => x = .returned (.int .i64 (rd l e).1) ∧ Rd w' p (rd l e).2.2 (rd l e).2.1 ∧ Below p w w' :=
  (rnum_only h hlen).mono fun _ _ ⟨h1, h2, h3⟩ => ⟨h1, h2, h3.2.1⟩
end Go.Proofs.YtinhaipnmmgplaaGreat

/-
  Layer 8 (octets): the reader's Count, Text and End.
-/
namespace Go.Proofs.YtinhaipnmmgplaaGreat
set_option maxRecDepth 20000
open Go.RowKit
set_option linter.unusedSimpArgs false
attribute [local go_sem] rowAt_setRow rowAt_setCell Later.cell Later.frozen
/-- What End tells. -/
def rdEnd (l : List UInt8) (e : Int) : Int := if e = 0 then (if 0 < l.length then 5 else 0) else e
theorem end_any {w : World} {p : Nat} {l : List UInt8} {e : Int} (h : Rd w p l e) :
    Calls Tryz.prog 32 #[.pointer (some ⟨p, 0, none⟩)] w fun x w' => x = .returned (.int .i64 (rdEnd l e)) ∧ w = w' := by
  have HR := Lib.hid h
  obtain ⟨A, c, h1, _⟩ := h
  have d0 : w.cell? ⟨p, 0, none⟩ = some (.slice A l.length c) := by rw [cell_of_rowAt h1]; rfl
  clear h1
  by_cases he : e = 0
  · subst he
    by_cases hl : 0 < l.length
    · have hl1 : decide ((0 : Int) < (l.length : Int)) = true := decide_eq_true (by omega)
      go_enter Tryz.func32, Tryz.ntmps32
      go_wp2_with (go_at_call 53; refine (err_any HR.out).mono ?_; rintro e w' ⟨rfl, rfl⟩)
      go_ret
      exact ⟨by rw [rdEnd, if_pos rfl, if_pos hl]; rfl, rfl⟩
    · have hl1 : decide ((0 : Int) < (l.length : Int)) = false := decide_eq_false (by omega)
      have hl2 : decide (0 < l.length) = false := decide_eq_false (by omega)
      go_enter Tryz.func32, Tryz.ntmps32
      go_wp2_with (go_at_call 53; refine (err_any HR.out).mono ?_; rintro e w' ⟨rfl, rfl⟩)
      go_ret
      exact ⟨by rw [rdEnd, if_pos rfl, if_neg hl]; rfl, rfl⟩
  · have e1 : (e == 0) = false := beq_eq_false_iff_ne.2 he
    have e2 : decide (e = 0) = false := decide_eq_false he
    have HE := Lib.hid (show rdEnd l e = e from if_neg he)
    go_enter Tryz.func32, Tryz.ntmps32
    go_wp2_with (go_at_call 53; refine (err_any HR.out).mono ?_; rintro e w' ⟨rfl, rfl⟩)
    go_ret
    exact ⟨by rw [HE.out]; rfl, rfl⟩
end Go.Proofs.YtinhaipnmmgplaaGreat

/-
  Layer 8 (octets): what is awake.
-/
namespace Go.Proofs.YtinhaipnmmgplaaGreat
set_option maxRecDepth 20000
open Go.RowKit
set_option linter.unusedSimpArgs false
/-- The text of bytes. -/
def strB (l : List UInt8) : ByteArray := ⟨l.toArray⟩
theorem strB_inj {l r : List UInt8} : strB l = strB r ↔ l = r := by
  constructor
  · intro h
    have := congrArg (fun b : ByteArray => b.data.toList) h
    simpa [strB] using this
  · intro h; rw [h]
theorem conv_bytes {w : World} {A : Option Addr} {c : Nat} {l : List UInt8} (h : IsBy w A l) : (convert 39 9 (.slice A l.length c)).run Tryz.prog w = .ok (.string (strB l)) w := by
  cases A with
  | none =>
    have : l = [] := by
      cases l with
      | nil => rfl
      | cons y ys => obtain ⟨b, o, h1, _⟩ := h 0 (by simp); cases h1
    subst this
    rw [List.length_nil, run_convert_bytes_string w _ _ _ none 0 c Tryz.underlying39 Tryz.underlying5 Tryz.underlying9]
    rfl
  | some a =>
    refine run_convert_bytes_back w _ _ _ a c l Tryz.underlying39 Tryz.underlying5 Tryz.underlying9 fun j hj => ?_
    obtain ⟨b, o, h1, h2⟩ := h j hj
    injection h1 with h1
    subst h1
    rw [Addr.add_lit, h2]
    simp [bc, List.getD, List.getElem?_eq_getElem hj]
def aw8 : List UInt8 := [byt 1, byt 128, byt 1]
theorem aw8_1 : numB (-1) = [byt 1] := by
  rw [numB, show zig (-1) = 1 by decide, uB_less (by decide)]
theorem aw8_2 : [byt 1] ++ numB 64 = aw8 := by
  rw [numB, show zig 64 = 128 by decide, uB_more (by decide), uB_less (by decide)]; rfl
theorem new_is (A : Option Addr) (c : Nat) (l : List UInt8) (w : World) (hl : IsBy w A l) (hA : A = none → c = 0) (hlen : l.length ≤ 70368744177664) {n : Nat} (hn : n = l.length) :
    Calls Tryz.prog 27 #[.slice A n c] w fun e w' => ∃ p, e = .returned (.pointer (some ⟨p, 0, none⟩)) ∧ Rd w' p l 0 ∧ w.heap.size ≤ p ∧ Below w.heap.size w w' := by
  subst hn
  exact new_any A c l w hl hA hlen
theorem rnum_is {w : World} {p : Nat} {l l' : List UInt8} {e n e' : Int} (h : Rd w p l e) (hlen : l.length ≤ 70368744177664) (hr : rd l e = (n, e', l')) :
    Calls Tryz.prog 49 #[.pointer (some ⟨p, 0, none⟩)] w fun x w' => x = .returned (.int .i64 n) ∧ Rd w' p l' e' ∧ Below p w w' := by
  have := rnum_any h hlen
  rwa [hr] at this
theorem rnum_iso {w : World} {p : Nat} {l l' : List UInt8} {e n e' : Int} (h : Rd w p l e) (hlen : l.length ≤ 70368744177664) (hr : rd l e = (n, e', l')) :
    Calls Tryz.prog 49 #[.pointer (some ⟨p, 0, none⟩)] w fun x w' => x = .returned (.int .i64 n) ∧ Rd w' p l' e' ∧ Only p w w' := by
  have := rnum_only h hlen
  rwa [hr] at this
theorem end_is {w : World} {p : Nat} {l : List UInt8} {e n : Int} (h : Rd w p l e) (hr : rdEnd l e = n) :
    Calls Tryz.prog 32 #[.pointer (some ⟨p, 0, none⟩)] w fun x w' => x = .returned (.int .i64 n) ∧ w = w' := by
  rw [← hr]
  exact end_any h
end Go.Proofs.YtinhaipnmmgplaaGreat

/-
  Layer 8 (octets): what was put is read.
-/
namespace Go.Proofs.YtinhaipnmmgplaaGreat
set_option maxRecDepth 20000
open Go.RowKit
theorem uB_ind {P : Nat → Prop} (h0 : ∀ u, u < 128 → P u) (h1 : ∀ u, ¬ u < 128 → P (u / 128) → P u) : ∀ n u, u ≤ n → P u := by
  intro n
  induction n with
  | zero => intro u hu; exact h0 u (by omega)
  | succ n ih =>
    intro u hu
    by_cases h : u < 128
    · exact h0 u h
    · exact h1 u h (ih _ (by omega))
theorem uB_rec {P : Nat → Prop} (h0 : ∀ u, u < 128 → P u) (h1 : ∀ u, ¬ u < 128 → P (u / 128) → P u) (u : Nat) : P u := uB_ind h0 h1 u u (Nat.le_refl _)
theorem fst_uB (r : List UInt8) (u : Nat) : fstB (uB u ++ r) + 1 = (uB u).length := by
  refine uB_rec (P := fun u => fstB (uB u ++ r) + 1 = (uB u).length) (fun u h => ?_) (fun u h ih => ?_) u
  · rw [uB_less h, List.singleton_append, fstB, if_pos (by rw [byt_toNat (by omega)]; exact h)]; rfl
  · rw [uB_more h, List.cons_append, fstB, if_neg (by rw [byt_toNat (by omega)]; omega), List.length_cons]
    omega
theorem val_uB (u : Nat) : valB (uB u) = u := by
  refine uB_rec (P := fun u => valB (uB u) = u) (fun u h => ?_) (fun u h ih => ?_) u
  · rw [uB_less h, valB, valB, byt_toNat (by omega)]; omega
  · rw [uB_more h, valB, ih, byt_toNat (by omega)]; omega
theorem uB_some (u : Nat) : 1 ≤ (uB u).length := by
  by_cases h : u < 128
  · rw [uB_less h]; simp
  · rw [uB_more h]; simp
theorem last_uB (r : List UInt8) (u : Nat) : u ≠ 0 → (((uB u ++ r).getD ((uB u).length - 1) 0)).toNat ≠ 0 := by
  refine uB_rec (P := fun u => u ≠ 0 → (((uB u ++ r).getD ((uB u).length - 1) 0)).toNat ≠ 0) (fun u h h0 => ?_) (fun u h ih h0 => ?_) u
  · rw [uB_less h]
    show (byt u).toNat ≠ 0
    rw [byt_toNat (by omega)]; exact h0
  · have h2 := uB_some (u / 128)
    rw [uB_more h, List.length_cons, List.cons_append, show (uB (u / 128)).length + 1 - 1 = ((uB (u / 128)).length - 1) + 1 by omega]
    exact ih (by omega)
theorem unzig_zig {n : Int} (h : isB n = true) : unzig (zig n) = n := by
  unfold unzig zig
  rw [h]
  simp only [if_true]
  by_cases h0 : n < 0
  · simp only [h0, if_true]; rw [if_pos (by omega)]; omega
  · simp only [h0, if_false]; rw [if_neg (by omega)]; omega
theorem rd_numB {n : Int} (h : isB n = true) (r : List UInt8) : rd (numB n ++ r) 0 = (n, 0, r) := by
  have hl := numB_len n
  have h1 := fst_uB r (zig n)
  have h2 := uB_some (zig n)
  have hK : fstB (numB n ++ r) = (numB n).length - 1 := by unfold numB; omega
  have ht : (numB n ++ r).take ((numB n).length - 1 + 1) = numB n := by
    rw [show (numB n).length - 1 + 1 = (numB n).length by unfold numB; omega]; simp
  have hd : (numB n ++ r).drop ((numB n).length - 1 + 1) = r := by
    rw [show (numB n).length - 1 + 1 = (numB n).length by unfold numB; omega]; simp
  have hv : unzig (valB ((numB n ++ r).take ((numB n).length - 1 + 1))) = n := by rw [ht, numB, val_uB, unzig_zig h]
  have := rd_ok (l := numB n ++ r) hK (by rw [List.length_append]; have : 1 ≤ (numB n).length := h2; omega) (by omega) (fun ⟨g1, g2⟩ => ?_) hv h
  · rw [this, hd]
  · refine last_uB r (zig n) (fun hz => ?_) g2
    rw [numB, hz, uB_less (by decide)] at g1
    simp at g1
/-- What is cut off ahead of its last byte. -/
theorem take_uB_all (u : Nat) : ∀ m, m < (uB u).length → ∀ i, i < m → 128 ≤ ((uB u).getD i 0).toNat := by
  refine uB_rec (P := fun u => ∀ m, m < (uB u).length → ∀ i, i < m → 128 ≤ ((uB u).getD i 0).toNat) (fun u h m hm i hi => ?_) (fun u h ih m hm i hi => ?_) u
  · rw [uB_less h] at hm
    simp at hm
    omega
  · rw [uB_more h] at hm ⊢
    cases i with
    | zero => show 128 ≤ (byt _).toNat; rw [byt_toNat (by omega)]; omega
    | succ i =>
      rw [List.length_cons] at hm
      exact ih (m - 1) (by omega) i (by omega)
theorem rd_cut {n : Int} (r : List UInt8) {m : Nat} (hm : m < (numB n).length) : rd ((numB n ++ r).take m) 0 = (0, 3, (numB n ++ r).take m) := by
  have hl := numB_len n
  have ht : (numB n ++ r).take m = (numB n).take m := by rw [List.take_append_of_le_length (by omega)]
  have hlen : ((numB n).take m).length = m := by simp; omega
  have hf : fstB ((numB n).take m) = m := by
    refine fstB_is _ m (by omega) (fun i hi => ?_) (Or.inl hlen.symm)
    have := take_uB_all (zig n) m hm i hi
    rw [List.getD, List.getElem?_take, if_pos hi]
    exact this
  rw [ht]
  exact rd_short (by omega) (by omega)
/-- Numbers, one behind the other. -/
def catB : List Int → List UInt8
  | [] => []
  | n :: t => numB n ++ catB t
theorem catB_append : ∀ l r, catB (l ++ r) = catB l ++ catB r
  | [], r => rfl
  | n :: l, r => by rw [List.cons_append, catB, catB, catB_append l r, List.append_assoc]
theorem catB_len : ∀ l, (catB l).length ≤ 6 * l.length
  | [] => by simp [catB]
  | n :: l => by
    have := catB_len l
    have := numB_len n
    rw [catB, List.length_append, List.length_cons]; omega
theorem catB_take {l : List Int} {k : Nat} (h : k < l.length) : catB (l.take (k + 1)) = catB (l.take k) ++ numB (l.getD k 0) := by
  rw [List.take_succ_eq_append_getElem h, catB_append, catB, catB, List.append_nil]
  simp [List.getD, List.getElem?_eq_getElem h]
theorem catB_drop {l : List Int} {k : Nat} (h : k < l.length) : catB (l.drop k) = numB (l.getD k 0) ++ catB (l.drop (k + 1)) := by
  rw [List.drop_eq_getElem_cons h, catB]
  simp [List.getD, List.getElem?_eq_getElem h]
/-- A reader of what was cut off: it is short, or what is left is. -/
def cutAt (l : List Int) (k : Nat) (rest : List UInt8) (e : Int) : Prop := e = 3 ∨ (e = 0 ∧ ∃ m, m < (catB (l.drop k)).length ∧ rest = (catB (l.drop k)).take m)
theorem cut_step {l : List Int} {k : Nat} {rest : List UInt8} {e : Int} (hk : k < l.length) (hb : isB (l.getD k 0) = true) (h : cutAt l k rest e) : cutAt l (k + 1) (rd rest e).2.2 (rd rest e).2.1 := by
  rcases h with rfl | ⟨rfl, m, hm, rfl⟩
  · rw [rd_err (by decide)]; exact Or.inl rfl
  · rw [catB_drop hk] at hm ⊢
    by_cases hc : m < (numB (l.getD k 0)).length
    · rw [rd_cut _ hc]; exact Or.inl rfl
    · rw [List.take_append, List.take_of_length_le (by omega), rd_numB hb]
      refine Or.inr ⟨rfl, m - (numB (l.getD k 0)).length, ?_, rfl⟩
      rw [List.length_append] at hm
      omega
theorem cut_end {l : List Int} {rest : List UInt8} {e : Int} (h : cutAt l l.length rest e) : rdEnd rest e = 3 := by
  rcases h with rfl | ⟨rfl, m, hm, _⟩
  · rfl
  · rw [List.drop_length] at hm; simp [catB] at hm
theorem cut_rest {rest : List UInt8} {e : Int} : (rd rest e).2.2.length ≤ rest.length := by
  unfold rd rdNum
  split
  · split
    · split
      · exact Nat.le_refl _
      · split
        · exact Nat.le_refl _
        · split
          · simp
          · exact Nat.le_refl _
    · split <;> exact Nat.le_refl _
  · exact Nat.le_refl _
theorem IsBy.keep {w w' : World} {p : Nat} {a : Option Addr} {l : List UInt8} (h : IsBy w a l) (hb : Below p w w') (hlt : ∀ b o, a = some ⟨b, o, none⟩ → b < p) : IsBy w' a l := by
  intro i hi
  obtain ⟨b, o, hx, hc⟩ := h i hi
  exact ⟨b, o, hx, (hb.cell (p := ⟨b, o + i, none⟩) (hlt b o hx)).trans hc⟩
end Go.Proofs.YtinhaipnmmgplaaGreat

/-
  Layer 8 (octets): texts as bytes, and read.
-/
namespace Go.Proofs.YtinhaipnmmgplaaGreat
set_option maxRecDepth 20000
open Go.RowKit
set_option linter.unusedSimpArgs false
attribute [local go_sem] rowAt_setRow rowAt_setCell Later.cell Later.frozen
theorem strB_size (l : List UInt8) : (strB l).size = l.length := by simp [strB, ByteArray.size]
theorem strB_of (s : ByteArray) : strB s.data.toList = s := by simp [strB]
theorem strCells_strB (l : List UInt8) : Lib.strCells (strB l) = l.map bc := by simp [Lib.strCells, strB, bc]
/-- append of a text to bytes of the call's own. -/
theorem wl_append_text {ops : Array Oper} {rest : List Oper} {o : Oper} {a : Act} {w : World} {Q : Exit → Act → World → Prop} (hgd : o.guard = none) (s x : Operand)
    (ho : o.op = .call { callee := .builtin .append, args := #[s, x], argTypes := #[39, 9] }) (base : Nat) (v : Value) (xs ys : List UInt8)
    (hs : a.eval s = v) (hown : OwnBy w base v xs) (hx : a.eval x = .string (strB ys)) (hlen : xs.length + ys.length ≤ 140737488355328) (hbase : base ≤ w.heap.size)
    (h : ∀ v' w', OwnBy w' base v' (xs ++ ys) → Below base w w' → wpList Tryz.prog ops Q rest (a.put o.dst v') w') : wpList Tryz.prog ops Q (o :: rest) a w := by
  obtain ⟨i0, hi, hz0, hz1, hz2⟩ := info_byte
  refine Lib.wpList_append_own_string w hgd s x _ _ ho base 5 i0 Tryz.underlying39 Tryz.underlying9 hi hz0 hz1 hz2 v _ _ hs hown (strB ys) hx (by rw [strB_size]; unfold maxLen; omega) (by rw [strB_size]; omega) hbase fun v' w' h1 h2 _ => ?_
  rw [strB_size, strCells_strB] at h1
  exact h v' w' (by unfold OwnBy; rw [List.length_append, List.map_append]; exact h1) (hown.grown hbase h2)
theorem text_any (A : Option Addr) (c : Nat) (l t : List UInt8) (w : World) (hl : IsBy w A l) (hA : A = none → c = 0) (hlen : l.length ≤ 70368744177000) (ht : t.length ≤ 70368744177000) :
    Calls Tryz.prog 46 #[.slice A l.length c, .string (strB t)] w fun e w' => ∃ v, e = .returned v ∧ OwnBy w' w.heap.size v (l ++ (numB t.length ++ t)) ∧ Below w.heap.size w w' := by
  have hn := numB_len t.length
  have hsz := strB_size t
  go_enter Tryz.func46, Tryz.ntmps46
  go_wp2_with fail
  refine (number_any A c l t.length w hl hA (by omega)).mono ?_
  rintro e w1 ⟨v, rfl, hown, hb⟩
  have HO := Lib.hid hown
  have HB := Lib.hid hb
  clear hown hb hl hA hsz
  go_wp2_with (at_builtin; refine wl_append_text rfl _ _ rfl w.heap.size _ (l ++ numB t.length) t rfl HO.out rfl ?c1 HB.out.size ?_)
  case c1 => rw [List.length_append]; omega
  intro v' w2 hown hb
  have HO2 := Lib.hid hown
  have HB2 := Lib.hid (HB.out.trans hb)
  clear hown hb
  go_wp2_with fail
  go_ret
  exact ⟨_, rfl, HO2.out, HB2.out⟩
theorem rd_store2 {w : World} {p c' : Nat} {l : List UInt8} {v : Value} {A A' : Option Addr} {e : Int} {m : Nat} (h : rowAt w p = some (#[v, .int .i64 e], 102)) (hl : IsBy w A l) (n : Nat) (_hb : ∀ x, A = some x → x.block < p)
    (hA : n < l.length → A' = A.map (·.add n)) (hm : m = l.length - n) (hc : l.length - n ≤ c') (hN : A' = none → c' = 0) (hb' : ∀ x, A' = some x → x.block < p) : Rd (w.setCell ⟨p, 0, none⟩ (.slice A' m c')) p (l.drop n) e := by
  subst hm
  refine ⟨A', c', by rw [rowAt_setCell, if_pos rfl, h, List.length_drop]; rfl, fun i hi => ?_, by rw [List.length_drop]; exact hc, hN, hb'⟩
  obtain ⟨b1, o1, g1, g2⟩ := hl.drop n hA i hi
  have : b1 < p := hb' _ g1
  exact ⟨b1, o1, g1, ((below_setCell' (Below.refl p w) (Nat.le_refl _)).cell (p := ⟨b1, o1 + i, none⟩) this).trans g2⟩
theorem count_only {w : World} {p : Nat} {l r : List UInt8} {n m : Int} (h : Rd w p l 0) (hlen : l.length ≤ 70368744177664) (hr : rd l 0 = (n, 0, r)) (h0 : 0 ≤ n) (hm : n ≤ m) :
    Calls Tryz.prog 51 #[.pointer (some ⟨p, 0, none⟩), .int .i64 m] w fun x w' => x = .returned (.int .i64 n) ∧ Rd w' p r 0 ∧ Only p w w' := by
  have HR := Lib.hid h
  have HD := Lib.hid hr
  clear h hr
  go_enter Tryz.func51, Tryz.ntmps51
  go_wp2_with fail
  refine (rnum_iso HR.out hlen HD.out).mono ?_
  rintro e w1 ⟨rfl, hr, hb⟩
  have HR1 := Lib.hid hr
  have HB1 := Lib.hid hb
  clear hr hb
  have g1 : decide (n < 0) = false := decide_eq_false (by omega)
  have g2 : decide (m < n) = false := decide_eq_false (by omega)
  go_wp2_with (go_at_call 53; refine (err_any HR1.out).mono ?_; rintro e w' ⟨rfl, rfl⟩)
  go_ret
  exact ⟨rfl, HR1.out, HB1.out⟩
theorem count_ok {w : World} {p : Nat} {l r : List UInt8} {n m : Int} (h : Rd w p l 0) (hlen : l.length ≤ 70368744177664) (hr : rd l 0 = (n, 0, r)) (h0 : 0 ≤ n) (hm : n ≤ m) :
    Calls Tryz.prog 51 #[.pointer (some ⟨p, 0, none⟩), .int .i64 m] w fun x w' => x = .returned (.int .i64 n) ∧ Rd w' p r 0 ∧ Below p w w' :=
  (count_only h hlen hr h0 hm).mono fun _ _ ⟨h1, h2, h3⟩ => ⟨h1, h2, h3.2.1⟩
set_option maxRecDepth 10000 in
set_option maxHeartbeats 4000000 in
theorem rtext_only {w : World} {p k : Nat} {l r : List UInt8} {m : Int} (h : Rd w p l 0) (hlen : l.length ≤ 70368744177664) (hr : rd l 0 = ((k : Int), 0, r)) (hm : (k : Int) ≤ m) (hk : k ≤ r.length) :
    Calls Tryz.prog 50 #[.pointer (some ⟨p, 0, none⟩), .int .i64 m] w fun x w' => x = .returned (.string (strB (r.take k))) ∧ Rd w' p (r.drop k) 0 ∧ Only p w w' := by
  have HR := Lib.hid h
  have HD := Lib.hid hr
  clear h hr
  go_enter Tryz.func50, Tryz.ntmps50
  go_wp2_with fail
  refine (count_only HR.out hlen HD.out (by omega) hm).mono ?_
  rintro e w1 ⟨rfl, hr, hb⟩
  have HR1 := Lib.hid hr
  have HB1 := Lib.hid hb
  obtain ⟨A, c, h1, h2, h3, h4, h5⟩ := hr
  have d0 : w1.cell? ⟨p, 0, none⟩ = some (.slice A r.length c) := by rw [cell_of_rowAt h1]; rfl
  have hpl := rowAt_lt h1
  have H1 := Lib.hid h1
  have HL := Lib.hid h2
  have hcv : (convert 39 9 (.slice A k c)).run Tryz.prog w1 = .ok (.string (strB (r.take k))) w1 := by
    have := conv_bytes (c := c) (h2.take k)
    rwa [show (r.take k).length = k by simp; omega] at this
  have g1 : decide ((r.length : Int) < (k : Int)) = false := decide_eq_false (by omega)
  have g2 : decide (r.length < k) = false := decide_eq_false (by omega)
  have hkc : k ≤ c := by omega
  have H4 := Lib.hid h4
  have H5 := Lib.hid h5
  clear hb h1 h2 h4 h5
  go_wp2_with (first | (go_at_call 53; refine (err_any HR1.out).mono ?_; rintro e w' ⟨rfl, rfl⟩) | (refine bytes_slice_to rfl _ _ rfl A r.length c k rfl rfl hkc ?_))
  refine region_quiet_tail 19 (by kernel_rfl) (by kernel_rfl) ?_
  simp only [List.take_succ_cons, List.take_zero, List.drop_succ_cons, List.drop_zero]
  repeat (go_big_quiet_step (fail))
  refine wpQuiet_nil ?_
  intro w3 hb3
  have e0 : w3.cell? ⟨p, 0, none⟩ = some (.slice A r.length c) := (hb3.cell (p := ⟨p, 0, none⟩) hpl).trans d0
  have H3 := Lib.hid (rowKeep hb3 H1.out)
  have f0 : w3.frozen? ⟨p, 0, none⟩ = false := frozen_of_rowAt H3.out 0
  have HB3 := Lib.hid hb3
  have HL3 := Lib.hid (HL.out.below hb3)
  clear hb3
  go_wp2_with fail
  · go_ret
    refine ⟨rfl, ?z1, ?z2⟩
    case z2 => exact HB1.out.trans ((Only.of_below HB3.out (Nat.le_of_lt hpl)).trans (Only.setCell _))
    case z1 => exact rd_store2 H3.out HL3.out k H5.out (fun h => by omega) (by omega) (by omega) (fun _ => rfl) H5.out
  · go_ret
    refine ⟨rfl, ?z1, ?z2⟩
    case z2 => exact HB1.out.trans ((Only.of_below HB3.out (Nat.le_of_lt hpl)).trans (Only.setCell _))
    case z1 =>
      refine rd_store2 H3.out HL3.out k H5.out (fun h => rfl) rfl (Nat.le_refl _) (fun hn => ?_) (fun x hx => ?_)
      · have : A = none := by cases A <;> simp_all
        have := H4.out this
        omega
      · cases A with
        | none => cases hx
        | some a =>
          have := H5.out a rfl
          injection hx with hx
          subst hx
          unfold Addr.add
          split
          · exact this
          · exact this
theorem rtext_ok {w : World} {p k : Nat} {l r : List UInt8} {m : Int} (h : Rd w p l 0) (hlen : l.length ≤ 70368744177664) (hr : rd l 0 = ((k : Int), 0, r)) (hm : (k : Int) ≤ m) (hk : k ≤ r.length) :
    Calls Tryz.prog 50 #[.pointer (some ⟨p, 0, none⟩), .int .i64 m] w fun x w' => x = .returned (.string (strB (r.take k))) ∧ Rd w' p (r.drop k) 0 ∧ Below p w w' :=
  (rtext_only h hlen hr hm hk).mono fun _ _ ⟨h1, h2, h3⟩ => ⟨h1, h2, h3.2.1⟩
end Go.Proofs.YtinhaipnmmgplaaGreat

/-
  Layer 8 (octets): reading what was put, whole with more behind, or cut off.
-/
namespace Go.Proofs.YtinhaipnmmgplaaGreat
set_option maxRecDepth 20000
open Go.RowKit
set_option linter.unusedSimpArgs false
set_option linter.unusedVariables false
attribute [local go_sem] rowAt_setRow rowAt_setCell Later.cell Later.frozen
/-- What is left of X: all, with r behind; or, cut off, less than all. -/
def Feed (c : Bool) (l X r : List UInt8) : Prop := if c then ∃ M, M < X.length ∧ l = X.take M else l = X ++ r
/-- A reader that has read all so far, or was cut off. -/
def FedE (c : Bool) (l X r : List UInt8) (e : Int) : Prop := (e = 0 ∧ Feed c l X r) ∨ (c = true ∧ e = 3)
theorem feed_take {c : Bool} {l X Y r : List UInt8} (h : Feed c l (X ++ Y) r) : (∃ l', l = X ++ l' ∧ Feed c l' Y r) ∨ (c = true ∧ ∃ M, M < X.length ∧ l = X.take M) := by
  unfold Feed at *
  cases c with
  | false => exact .inl ⟨Y ++ r, by simpa [List.append_assoc] using h, by simp⟩
  | true =>
    obtain ⟨M, hM, rfl⟩ := h
    by_cases hc : M < X.length
    · exact .inr ⟨rfl, M, hc, List.take_append_of_le_length (by omega)⟩
    · refine .inl ⟨Y.take (M - X.length), ?_, M - X.length, by rw [List.length_append] at hM; omega, rfl⟩
      rw [List.take_append, List.take_of_length_le (by omega)]
/-- A number. -/
theorem rd_feed {c : Bool} {l Y r : List UInt8} {e n : Int} (hn : isB n = true) (h : FedE c l (numB n ++ Y) r e) :
    (e = 0 ∧ ∃ l', rd l e = (n, 0, l') ∧ Feed c l' Y r ∧ l'.length ≤ l.length) ∨ (c = true ∧ ∃ l', rd l e = (0, 3, l') ∧ l'.length ≤ l.length) := by
  rcases h with ⟨rfl, h⟩ | ⟨rfl, rfl⟩
  · rcases feed_take h with ⟨l', rfl, h2⟩ | ⟨hc, M, hM, rfl⟩
    · exact .inl ⟨rfl, l', rd_numB hn l', h2, by simp⟩
    · refine .inr ⟨hc, _, ?_, Nat.le_refl _⟩
      have := rd_cut (n := n) [] hM
      rwa [List.append_nil] at this
  · exact .inr ⟨rfl, l, rd_err (by decide), Nat.le_refl _⟩
theorem rnum_feed {w : World} {p : Nat} {c : Bool} {l Y r : List UInt8} {e n : Int} (h : Rd w p l e) (hlen : l.length ≤ 70368744177664) (hn : isB n = true) (hf : FedE c l (numB n ++ Y) r e) :
    Calls Tryz.prog 49 #[.pointer (some ⟨p, 0, none⟩)] w fun x w' => ∃ v l' e', x = .returned (.int .i64 v) ∧ Rd w' p l' e' ∧ ((e' = 0 ∧ e = 0 ∧ v = n ∧ Feed c l' Y r) ∨ (c = true ∧ e' = 3)) ∧ l'.length ≤ l.length ∧ Only p w w' := by
  refine (rnum_only h hlen).mono ?_
  rintro x w' ⟨rfl, hr, ho⟩
  rcases rd_feed hn hf with ⟨he, l', hd, h2, h3⟩ | ⟨hc, l', hd, h3⟩
  · rw [hd] at hr ⊢
    exact ⟨_, _, _, rfl, hr, .inl ⟨rfl, he, rfl, h2⟩, h3, ho⟩
  · rw [hd] at hr ⊢
    exact ⟨_, _, _, rfl, hr, .inr ⟨hc, rfl⟩, h3, ho⟩
theorem count_err {w : World} {p : Nat} {l r : List UInt8} {e n m : Int} (h : Rd w p l e) (hlen : l.length ≤ 70368744177664) (hr : rd l e = (n, 3, r)) :
    Calls Tryz.prog 51 #[.pointer (some ⟨p, 0, none⟩), .int .i64 m] w fun x w' => x = .returned (.int .i64 n) ∧ Rd w' p r 3 ∧ Only p w w' := by
  have HR := Lib.hid h
  have HD := Lib.hid hr
  clear h hr
  go_enter Tryz.func51, Tryz.ntmps51
  go_wp2_with fail
  refine (rnum_iso HR.out hlen HD.out).mono ?_
  rintro e w1 ⟨rfl, hr, hb⟩
  have HR1 := Lib.hid hr
  have HB1 := Lib.hid hb
  clear hr hb
  go_wp2_with (go_at_call 53; refine (err_any HR1.out).mono ?_; rintro e w' ⟨rfl, rfl⟩)
  go_ret
  exact ⟨rfl, HR1.out, HB1.out⟩
theorem rtext_err {w : World} {p : Nat} {l r : List UInt8} {e n m : Int} (h : Rd w p l e) (hlen : l.length ≤ 70368744177664) (hr : rd l e = (n, 3, r)) :
    Calls Tryz.prog 50 #[.pointer (some ⟨p, 0, none⟩), .int .i64 m] w fun x w' => x = .returned (.string (strB [])) ∧ Rd w' p r 3 ∧ Only p w w' := by
  have HR := Lib.hid h
  have HD := Lib.hid hr
  clear h hr
  go_enter Tryz.func50, Tryz.ntmps50
  go_wp2_with fail
  refine (count_err HR.out hlen HD.out).mono ?_
  rintro e w1 ⟨rfl, hr, hb⟩
  have HR1 := Lib.hid hr
  have HB1 := Lib.hid hb
  clear hr hb
  go_wp2_with (go_at_call 53; refine (err_any HR1.out).mono ?_; rintro e w' ⟨rfl, rfl⟩)
  go_ret
  exact ⟨rfl, HR1.out, HB1.out⟩
theorem rtext_short {w : World} {p k : Nat} {l r : List UInt8} {m : Int} (h : Rd w p l 0) (hlen : l.length ≤ 70368744177664) (hr : rd l 0 = ((k : Int), 0, r)) (hm : (k : Int) ≤ m) (hk : r.length < k) :
    Calls Tryz.prog 50 #[.pointer (some ⟨p, 0, none⟩), .int .i64 m] w fun x w' => x = .returned (.string (strB [])) ∧ Rd w' p r 3 ∧ Only p w w' := by
  have HR := Lib.hid h
  have HD := Lib.hid hr
  clear h hr
  go_enter Tryz.func50, Tryz.ntmps50
  go_wp2_with fail
  refine (count_only HR.out hlen HD.out (by omega) hm).mono ?_
  rintro e w1 ⟨rfl, hr, hb⟩
  have HR1 := Lib.hid hr
  have HB1 := Lib.hid hb
  obtain ⟨A, c, h1, h2, h3, h4, h5⟩ := hr
  have d0 : w1.cell? ⟨p, 0, none⟩ = some (.slice A r.length c) := by rw [cell_of_rowAt h1]; rfl
  have g1 : decide ((r.length : Int) < (k : Int)) = true := decide_eq_true (by omega)
  have g2 : decide (r.length < k) = true := decide_eq_true hk
  clear hb h1 h2 h3 h4 h5
  go_wp2_with (go_at_call 53; refine (err_any HR1.out).mono ?_; rintro e w' ⟨rfl, rfl⟩)
  refine (fail_only 3 HR1.out).mono ?_
  rintro e w2 ⟨rfl, hr, hb⟩
  have HR2 := Lib.hid hr
  have HB2 := Lib.hid hb
  clear hr hb
  go_wp2_with fail
  go_ret
  exact ⟨rfl, HR2.out, HB1.out.trans HB2.out⟩
/-- A number that counts. -/
theorem count_feed {w : World} {p : Nat} {c : Bool} {l Y r : List UInt8} {e n m : Int} (h : Rd w p l e) (hlen : l.length ≤ 70368744177664) (hn : isB n = true) (h0 : 0 ≤ n) (hm : n ≤ m) (hf : FedE c l (numB n ++ Y) r e) :
    Calls Tryz.prog 51 #[.pointer (some ⟨p, 0, none⟩), .int .i64 m] w fun x w' => ∃ v l' e', x = .returned (.int .i64 v) ∧ Rd w' p l' e' ∧ ((e' = 0 ∧ e = 0 ∧ v = n ∧ Feed c l' Y r) ∨ (c = true ∧ e' = 3 ∧ v = 0)) ∧ l'.length ≤ l.length ∧ Only p w w' := by
  rcases rd_feed hn hf with ⟨rfl, l', hd, h2, h3⟩ | ⟨hc, l', hd, h3⟩
  · refine (count_only h hlen hd h0 hm).mono ?_
    rintro x w' ⟨rfl, hr, ho⟩
    exact ⟨_, _, _, rfl, hr, .inl ⟨rfl, rfl, rfl, h2⟩, h3, ho⟩
  · refine (count_err h hlen hd).mono ?_
    rintro x w' ⟨rfl, hr, ho⟩
    exact ⟨_, _, _, rfl, hr, .inr ⟨hc, rfl, rfl⟩, h3, ho⟩
/-- A text. -/
theorem rtext_feed {w : World} {p : Nat} {c : Bool} {l t Y r : List UInt8} {e m : Int} (h : Rd w p l e) (hlen : l.length ≤ 70368744177664) (hn : isB (t.length : Int) = true) (hm : (t.length : Int) ≤ m) (hf : FedE c l (numB t.length ++ (t ++ Y)) r e) :
    Calls Tryz.prog 50 #[.pointer (some ⟨p, 0, none⟩), .int .i64 m] w fun x w' => ∃ s l' e', x = .returned (.string (strB s)) ∧ Rd w' p l' e' ∧ ((e' = 0 ∧ e = 0 ∧ s = t ∧ Feed c l' Y r) ∨ (c = true ∧ e' = 3)) ∧ l'.length ≤ l.length ∧ Only p w w' := by
  rcases rd_feed hn hf with ⟨rfl, l', hd, h2, h3⟩ | ⟨hc, l', hd, h3⟩
  · rcases feed_take h2 with ⟨l2, rfl, h4⟩ | ⟨hc, M, hM, rfl⟩
    · refine (rtext_only h hlen hd hm (by simp)).mono ?_
      rintro x w' ⟨rfl, hr, ho⟩
      rw [List.take_append_of_le_length (Nat.le_refl _), List.take_of_length_le (Nat.le_refl _)]
      rw [List.drop_left] at hr
      exact ⟨_, _, _, rfl, hr, .inl ⟨rfl, rfl, rfl, h4⟩, by simp at h3; omega, ho⟩
    · refine (rtext_short h hlen hd hm (by rw [List.length_take]; omega)).mono ?_
      rintro x w' ⟨rfl, hr, ho⟩
      exact ⟨_, _, _, rfl, hr, .inr ⟨hc, rfl⟩, h3, ho⟩
  · refine (rtext_err h hlen hd).mono ?_
    rintro x w' ⟨rfl, hr, ho⟩
    exact ⟨_, _, _, rfl, hr, .inr ⟨hc, rfl⟩, h3, ho⟩
end Go.Proofs.YtinhaipnmmgplaaGreat

/-
  Layer 8 (octets): the reference's numbers and texts as bytes.
-/
namespace Go.Proofs.YtinhaipnmmgplaaGreat
set_option maxRecDepth 20000
open Go.RowKit
set_option linter.unusedSimpArgs false
theorem conv_text (w : World) (t : List UInt8) : ∃ g, (convert 9 39 (.string (strB t))).run Tryz.prog w = .ok (.slice (some ⟨w.heap.size, 0, none⟩) t.length g) (w.drew.alloc (.cells (bytesRow (strB t) g) 5 ((bytesRow (strB t) g).size, (bytesRow (strB t) g).size + 1))) ∧ t.length ≤ g := by
  refine ⟨grownCap w (strB t).size 0 5, ?_, ?_⟩
  · rw [run_bytes_of_string w _ _ 5 (strB t) Tryz.underlying9 Tryz.underlying39 Tryz.underlying5, strB_size]
  · rw [← strB_size t]; exact grownCap_ge _ _ _ _
end Go.Proofs.YtinhaipnmmgplaaGreat
