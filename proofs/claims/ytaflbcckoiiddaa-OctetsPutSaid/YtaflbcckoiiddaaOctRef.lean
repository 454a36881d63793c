/-
  Layer 8 (octets): the reference's numbers and texts as bytes.
-/
import Derived.Test.YtaflbcckoiiddaaOctText
import Derived.Test.YtaflbcckoiiddaaSum
namespace Go.Proofs.Ytaflbcckoiiddaa
open Go.RowKit
set_option linter.unusedSimpArgs false
set_option maxHeartbeats 2000000 in
theorem rnumber_any (n : Int) (w : World) :
    Calls Try.prog 14 #[.int .i64 n] w fun e w' => ∃ v, e = .returned v ∧ OwnBy w' w.heap.size v (numB n) ∧ Below w.heap.size w w' := by
  obtain ⟨z, hz, hz1⟩ : ∃ z : Nat, z = zig n ∧ z ≤ 2199023255552 := ⟨_, rfl, zig_le n⟩
  have hnb : numB n = uB z := by rw [hz]; rfl
  have hlz : (uB z).length ≤ 6 := by rw [← hnb]; exact numB_len n
  rw [hnb]
  clear hnb
  have HZ := Lib.hid hz
  clear hz
  have IS : ∀ (b : Bool), isB n = b → ∀ w, Calls Try.prog 23 #[.int .i64 n] w fun e w' => e = .returned (.bool b) ∧ w = w' := fun b hb w => by rw [← hb]; exact ris_any _ _
  cases hB : isB n
  · have hz0 : z = 0 := by rw [HZ.out, zig, hB]; rfl
    have IS0 := Lib.hid (IS false hB)
    clear IS
    subst hz0
    go_enter Try.func14, Try.ntmps14
    go_wp2_with (go_at_call 23; refine (IS0.out _).mono ?_; rintro e w' ⟨rfl, rfl⟩)
    go_ret
    exact ⟨_, rfl, by rw [uB_less (by decide)]; exact OwnBy.row (xs := [byt 0]) (rowAt_alloc_at _ _ _ _ rfl) (by decide), (Below.refl _ _).alloc (Nat.le_refl _) _⟩
  · have hr := isB_iff.1 hB
    have IS1 := Lib.hid (IS true hB)
    clear IS
    by_cases h0 : n < 0
    · have hz0 : (z : Int) = -2 * n - 1 := by rw [HZ.out, zig, hB, if_pos rfl, if_pos h0]; omega
      have HZ0 := Lib.hid hz0
      clear hz0
      go_enter Try.func14, Try.ntmps14
      go_upto_region 6 with (go_at_call 23; refine (IS1.out _).mono ?_; rintro e w' ⟨rfl, rfl⟩)
      rw [show (-1 - n) * 2 + 1 = (z : Int) from by have := HZ0.out; omega]
      by_cases hs : z < 128
      · have HS := Lib.hid hs
        have hs1 : decide ((z : Int) < 128) = true := decide_eq_true (by omega)
        clear hs
        go_wp2_with fail
        go_ret
        have hs := HS.out
        refine ⟨_, rfl, ?_, (Below.refl _ _).alloc (Nat.le_refl _) _⟩
        rw [uB_less hs]
        refine OwnBy.row (xs := [byt z]) ?_ (by simp)
        rw [rowAt_alloc_at _ _ _ _ rfl]
        first | (congr 3; done) | (congr 3; rw [bc, byt_toNat (by omega)])
      · have HS := Lib.hid hs
        have hs1 : decide ((z : Int) < 128) = false := decide_eq_false (by omega)
        clear hs
        go_wp2_with fail
        go_loopw [3, 4] (fun s v w' => ∃ (u : Nat) (ys : List UInt8), s = .int .i64 (u : Int) ∧ u ≤ 2199023255552 ∧ OwnBy w' w.heap.size v ys ∧ ys ++ uB u = uB z ∧ Below w.heap.size w w') (fun s _ _ => (intOf s).toNat)
        case atStart => exact ⟨z, [], rfl, hz1, OwnBy.nil _ _, rfl, Below.refl _ _⟩
        case round =>
          obtain ⟨u, ys, rfl, hu, hown, hys, hb⟩ := hrel
          have HO2 := Lib.hid hown
          have HB2 := Lib.hid hb
          have hyl : ys.length ≤ 6 := by have := congrArg List.length hys; rw [List.length_append] at this; omega
          have HY := Lib.hid hys
          clear hown hb hys
          by_cases hlt : 128 ≤ u
          · have HLT := Lib.hid hlt
            have hlt1 : decide ((128 : Int) ≤ (u : Int)) = true := decide_eq_true (by omega)
            clear hlt
            go_wp2_with (at_builtin; refine wl_append_byte rfl _ _ rfl w.heap.size _ _ (byt (128 + u % 128)) ?c0 HO2.out rfl rfl rfl ?c3 HB2.out.size ?_)
            case c0 => rw [byt_toNat (by omega)]; omega
            case c3 => omega
            intro v' w3 hown hb
            have HO3 := Lib.hid hown
            have HB3 := Lib.hid (HB2.out.trans hb)
            clear hown hb HO2 HB2
            go_wp2_with fail
            go_roundw
            case rel => exact ⟨u / 128, ys ++ [byt (128 + u % 128)], rfl, by omega, HO3.out, by have := HLT.out; rw [← HY.out, uB_more (u := u) (by omega), List.append_assoc, List.singleton_append], HB3.out⟩
            case measure => have := HLT.out; simp [intOf]; omega
          · have HLT := Lib.hid hlt
            have hlt1 : decide ((128 : Int) ≤ (u : Int)) = false := decide_eq_false (by omega)
            clear hlt
            go_wp2_with (at_builtin; refine wl_append_byte rfl _ _ rfl w.heap.size _ _ (byt u) ?c0 HO2.out rfl rfl rfl ?c3 HB2.out.size ?_)
            case c0 => have := HLT.out; rw [byt_toNat (by omega)]; omega
            case c3 => omega
            intro v' w3 hown hb
            have HO3 := Lib.hid hown
            have HB3 := Lib.hid (HB2.out.trans hb)
            clear hown hb HO2 HB2
            go_wp2_with fail
            go_ret
            exact ⟨_, rfl, by have := HLT.out; rw [← HY.out, uB_less (u := u) (by omega)]; exact HO3.out, HB3.out⟩
    · have hz0 : (z : Int) = 2 * n := by rw [HZ.out, zig, hB, if_pos rfl, if_neg h0]; omega
      have HZ0 := Lib.hid hz0
      clear hz0
      go_enter Try.func14, Try.ntmps14
      go_upto_region 6 with (go_at_call 23; refine (IS1.out _).mono ?_; rintro e w' ⟨rfl, rfl⟩)
      rw [show n + n = (z : Int) from by have := HZ0.out; omega]
      by_cases hs : z < 128
      · have HS := Lib.hid hs
        have hs1 : decide ((z : Int) < 128) = true := decide_eq_true (by omega)
        clear hs
        go_wp2_with fail
        go_ret
        have hs := HS.out
        refine ⟨_, rfl, ?_, (Below.refl _ _).alloc (Nat.le_refl _) _⟩
        rw [uB_less hs]
        refine OwnBy.row (xs := [byt z]) ?_ (by simp)
        rw [rowAt_alloc_at _ _ _ _ rfl]
        first | (congr 3; done) | (congr 3; rw [bc, byt_toNat (by omega)])
      · have HS := Lib.hid hs
        have hs1 : decide ((z : Int) < 128) = false := decide_eq_false (by omega)
        clear hs
        go_wp2_with fail
        go_loopw [3, 4] (fun s v w' => ∃ (u : Nat) (ys : List UInt8), s = .int .i64 (u : Int) ∧ u ≤ 2199023255552 ∧ OwnBy w' w.heap.size v ys ∧ ys ++ uB u = uB z ∧ Below w.heap.size w w') (fun s _ _ => (intOf s).toNat)
        case atStart => exact ⟨z, [], rfl, hz1, OwnBy.nil _ _, rfl, Below.refl _ _⟩
        case round =>
          obtain ⟨u, ys, rfl, hu, hown, hys, hb⟩ := hrel
          have HO2 := Lib.hid hown
          have HB2 := Lib.hid hb
          have hyl : ys.length ≤ 6 := by have := congrArg List.length hys; rw [List.length_append] at this; omega
          have HY := Lib.hid hys
          clear hown hb hys
          by_cases hlt : 128 ≤ u
          · have HLT := Lib.hid hlt
            have hlt1 : decide ((128 : Int) ≤ (u : Int)) = true := decide_eq_true (by omega)
            clear hlt
            go_wp2_with (at_builtin; refine wl_append_byte rfl _ _ rfl w.heap.size _ _ (byt (128 + u % 128)) ?c0 HO2.out rfl rfl rfl ?c3 HB2.out.size ?_)
            case c0 => rw [byt_toNat (by omega)]; omega
            case c3 => omega
            intro v' w3 hown hb
            have HO3 := Lib.hid hown
            have HB3 := Lib.hid (HB2.out.trans hb)
            clear hown hb HO2 HB2
            go_wp2_with fail
            go_roundw
            case rel => exact ⟨u / 128, ys ++ [byt (128 + u % 128)], rfl, by omega, HO3.out, by have := HLT.out; rw [← HY.out, uB_more (u := u) (by omega), List.append_assoc, List.singleton_append], HB3.out⟩
            case measure => have := HLT.out; simp [intOf]; omega
          · have HLT := Lib.hid hlt
            have hlt1 : decide ((128 : Int) ≤ (u : Int)) = false := decide_eq_false (by omega)
            clear hlt
            go_wp2_with (at_builtin; refine wl_append_byte rfl _ _ rfl w.heap.size _ _ (byt u) ?c0 HO2.out rfl rfl rfl ?c3 HB2.out.size ?_)
            case c0 => have := HLT.out; rw [byt_toNat (by omega)]; omega
            case c3 => omega
            intro v' w3 hown hb
            have HO3 := Lib.hid hown
            have HB3 := Lib.hid (HB2.out.trans hb)
            clear hown hb HO2 HB2
            go_wp2_with fail
            go_ret
            exact ⟨_, rfl, by have := HLT.out; rw [← HY.out, uB_less (u := u) (by omega)]; exact HO3.out, HB3.out⟩
theorem conv_text (w : World) (t : List UInt8) : ∃ g, (convert 9 22 (.string (strB t))).run Try.prog w = .ok (.slice (some ⟨w.heap.size, 0, none⟩) t.length g) (w.drew.alloc (.cells (bytesRow (strB t) g) 5 ((bytesRow (strB t) g).size, (bytesRow (strB t) g).size + 1))) ∧ t.length ≤ g := by
  refine ⟨grownCap w (strB t).size 0 5, ?_, ?_⟩
  · rw [run_bytes_of_string w _ _ 5 (strB t) Try.underlying9 Try.underlying22 Try.underlying5, strB_size]
  · rw [← strB_size t]; exact grownCap_ge _ _ _ _
theorem rtextB_any (t : List UInt8) (w : World) (ht : t.length ≤ 70368744177000) :
    Calls Try.prog 16 #[.string (strB t)] w fun e w' => ∃ v, e = .returned v ∧ OwnBy w' w.heap.size v (numB t.length ++ t) ∧ Below w.heap.size w w' := by
  have hn := numB_len t.length
  have hsz := strB_size t
  go_enter Try.func16, Try.ntmps16
  go_wp2_with fail
  refine (rnumber_any t.length w).mono ?_
  rintro e w1 ⟨v, rfl, hown, hb⟩
  have HO := Lib.hid hown
  have HB := Lib.hid hb
  clear hown hb hsz
  obtain ⟨g, hg, hg2⟩ := conv_text w1 t
  have hgB : g = g := rfl
  generalize hW : w1.drew.alloc (.cells (bytesRow (strB t) g) 5 ((bytesRow (strB t) g).size, (bytesRow (strB t) g).size + 1)) = w2 at hg
  have hb2 : Below w1.heap.size w1 w2 := by rw [← hW]; exact (Below.refl _ _).drew.alloc (Nat.le_refl _) _
  have hi2 : IsBy w2 (some ⟨w1.heap.size, 0, none⟩) t := fun i hi => ⟨w1.heap.size, 0, rfl, by
    rw [← hW, Nat.zero_add]
    have := World.cell?_alloc_mark w1.drew (bytesRow (strB t) g) 5 ((bytesRow (strB t) g).size, (bytesRow (strB t) g).size + 1) i
    rw [show w1.drew.heap.size = w1.heap.size from rfl] at this
    rw [this, bytesRow_at (strB t) g i (by show i < (strB t).size; rw [strB_size]; exact hi)]
    simp [strB, bc, List.getD, List.getElem?_eq_getElem hi]⟩
  have HI2 := Lib.hid hi2
  have HB2 := Lib.hid hb2
  have HO2 := Lib.hid (HO.out.below hb2)
  have HB3 := Lib.hid (bthen HB.out hb2)
  clear hb2 hi2 hW hgB hg2
  go_wp2_with (at_builtin; refine wl_append_bytes rfl _ _ rfl w.heap.size _ (numB t.length) t (some ⟨w1.heap.size, 0, none⟩) g rfl HO2.out rfl HI2.out (fun h => by cases h) ?c1 HB3.out.size ?_)
  case c1 => omega
  intro v' w3 hown hb
  have HO3 := Lib.hid hown
  have HB4 := Lib.hid (HB3.out.trans hb)
  clear hown hb
  go_wp2_with fail
  go_ret
  exact ⟨_, rfl, HO3.out, HB4.out⟩
end Go.Proofs.Ytaflbcckoiiddaa
