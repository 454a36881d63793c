/-
  Layer 9 (frame): slices.Grow, Concat and Clone at bytes.
-/
import Derived.Test.YtfnbcafilbafgaaDoorFour
import Derived.Test.YtfnbcafilbafgaaDoorFrameB
import Derived.Lib.AppendZeros
import Derived.Lib.SliceRun
namespace Go.Proofs.YtfnbcafilbafgaaDoor
open Go.RowKit
set_option linter.unusedSimpArgs false
set_option linter.unusedVariables false
set_option maxHeartbeats 1000000 in
theorem grow_any (n : Nat) (h0 : 0 < n) (h1 : n ≤ 140737488355328) (w : World) :
    Calls Tryd.prog 45 #[.slice none 0 0, .int .i64 n] w fun e w' => ∃ v, e = .returned v ∧ OwnBy w' w.heap.size v [] ∧ Below w.heap.size w w' := by
  obtain ⟨i0, hi, hz0, hz1, hz2⟩ := info_byte
  have hpos : decide ((0 : Int) < (n : Int)) = true := decide_eq_true (by omega)
  have hneg : decide ((n : Int) < 0) = false := decide_eq_false (by omega)
  have HR : ∀ ty, Hid ((Builtin.append_ #[24, 3] ty #[.slice none 0 0, .int .i64 n]).run Tryd.prog w = .ok (.slice (some ⟨w.heap.size, 0, none⟩) n (grownCap w n 0 5)) (w.drew.alloc (.cells (Builtin.zeroCells (Value.int .u8 0).cells n ++ Builtin.zeroCells (Value.int .u8 0).cells (grownCap w n 0 5 - n)) 5))) :=
    fun ty => Lib.hid (Lib.run_append_nil_zeros w 24 3 ty 5 i0 (.int .u8 0) .i64 .i64 Tryd.underlying24 Tryd.underlying3 hi hz0 n h0 (by omega) (by omega) (by rw [hz2]; omega))
  have hcap := grownCap_ge w n 0 5
  have hcm := grownCap_le_maxLen w n 0 5 (by unfold maxLen; omega)
  generalize grownCap w n 0 5 = cp at *
  obtain ⟨W, hW⟩ : ∃ W, w.drew.alloc (.cells (Builtin.zeroCells (Value.int .u8 0).cells n ++ Builtin.zeroCells (Value.int .u8 0).cells (cp - n)) 5) = W := ⟨_, rfl⟩
  have HB : Hid (Below w.heap.size w W) := Lib.hid (by rw [← hW]; exact (Below.refl _ _).drew.alloc (Nat.le_refl _) _)
  have HO : Hid (OwnBy W w.heap.size (.slice (some ⟨w.heap.size, 0, none⟩) 0 cp) []) := Lib.hid (by
    refine ⟨rfl, .inr ⟨w.heap.size, cp, _, rfl, Nat.le_refl _, rowAt_iff.1 (by rw [← hW]; exact rowAt_alloc_at _ _ _ _ rfl), Nat.zero_le _, hcm, ?_, by simp⟩⟩
    simp [Builtin.zeroCells, Value.cells]
    omega)
  rw [hW] at HR
  clear hW
  go_enter Tryd.func45, Tryd.ntmps45
  go_wp2_with (at_builtin; refine Lib.wpList_append_run _ rfl _ _ _ _ rfl _ _ rfl rfl _ _ (HR _).out ?_)
  go_wp2_with fail
  go_ret
  exact ⟨_, rfl, HO.out, HB.out⟩
/-- Texts one behind the other. -/
def catV (V : Nat → Option Addr × Nat × List UInt8) (k : Nat) : List UInt8 := (List.range k).flatMap fun i => (V i).2.2
theorem catV_succ (V : Nat → Option Addr × Nat × List UInt8) (k : Nat) : catV V (k + 1) = catV V k ++ (V k).2.2 := by simp [catV, List.range_succ]
theorem catV_len (V : Nat → Option Addr × Nat × List UInt8) {k L : Nat} (h : k ≤ L) : (catV V k).length ≤ (catV V L).length := by
  induction L with
  | zero => obtain rfl : k = 0 := by omega
            exact Nat.le_refl _
  | succ L ih =>
    by_cases hk : k = L + 1
    · subst hk; exact Nat.le_refl _
    · rw [catV_succ, List.length_append]
      have := ih (by omega)
      omega
set_option maxHeartbeats 2000000 in
theorem concat_any (A : Option Addr) (c L : Nat) (V : Nat → Option Addr × Nat × List UInt8) (w : World) (hT : Texts w A L V) (hL : L ≤ 1000000) (h0 : 0 < (catV V L).length) (h1 : (catV V L).length ≤ 70368744177664) :
    Calls Tryd.prog 43 #[.slice A L c] w fun e w' => ∃ v, e = .returned v ∧ OwnBy w' w.heap.size v (catV V L) ∧ Below w.heap.size w w' := by
  have HT := Lib.hid hT
  clear hT
  go_enter Tryd.func43, Tryd.ntmps43
  go_wp2_with fail
  go_loopw [3, 11] (fun v i w' => ∃ k : Nat, k ≤ L ∧ v = .int .i64 ((catV V k).length : Nat) ∧ i = .int .i64 k ∧ w = w') (fun _ i _ => L - (intOf i).toNat)
  case atStart => exact ⟨0, Nat.zero_le _, rfl, rfl, rfl⟩
  case round =>
    obtain ⟨k, hk, rfl, rfl, rfl⟩ := hrel
    by_cases hlt : k < L
    · obtain ⟨bk, ok, rfl, hc⟩ := HT.out.cell k hlt
      have hs : (catV V (k + 1)).length = (catV V k).length + (V k).2.2.length := by rw [catV_succ, List.length_append]
      have hb := catV_len V (k := k + 1) hlt
      generalize V k = z at *
      obtain ⟨Ak, ck, t⟩ := z
      dsimp only at hc hs
      have HS := Lib.hid hs
      generalize (catV V k).length = m at *
      have hneg : decide ((m : Int) + (t.length : Int) < 0) = false := decide_eq_false (by omega)
      have hmt : m + t.length ≤ 70368744177664 := by omega
      clear hs hb
      go_wp2_with fail
      go_roundw
      case rel => exact ⟨k + 1, by omega, by rw [HS.out]; rfl, by go_num, trivial⟩
      case measure => simp [intOf]; omega
    · obtain rfl : k = L := by omega
      go_wp2_with fail
      refine (grow_any (catV V k).length h0 (by omega) w).mono ?_
      rintro e w1 ⟨v, rfl, hown, hb⟩
      have HO := Lib.hid hown
      have HB := Lib.hid hb
      clear hown hb
      go_wp2_with fail
      go_loopw [6, 27] (fun v i w' => ∃ j : Nat, j ≤ k ∧ i = .int .i64 j ∧ OwnBy w' w.heap.size v (catV V j) ∧ Below w.heap.size w w') (fun _ i _ => k - (intOf i).toNat)
      case atStart => exact ⟨0, Nat.zero_le _, rfl, HO.out, HB.out⟩
      case round =>
        rename World => wr
        obtain ⟨j, hj, rfl, hown, hb⟩ := hrel
        clear HO HB
        have HO := Lib.hid hown
        have HB := Lib.hid hb
        by_cases hjk : j < k
        · obtain ⟨bk, ok, rfl, hc⟩ := HT.out.cell j hjk
          have hby := (HT.out.by_ j hjk).below hb
          have hnil := HT.out.nil j hjk
          have hs : catV V (j + 1) = catV V j ++ (V j).2.2 := catV_succ V j
          have hl := catV_len V (k := j + 1) (L := k) hjk
          rw [hs, List.length_append] at hl
          have hc2 : wr.cell? ⟨bk, ok + j, none⟩ = some (.slice (V j).1 (V j).2.2.length (V j).2.1) := (hb.cell (World.block_lt_of_cell? _ _ hc)).trans hc
          clear hc hown hb
          have HS := Lib.hid hs
          have HBY := Lib.hid hby
          have HNIL := Lib.hid hnil
          clear hs hby hnil
          generalize V j = z at *
          obtain ⟨Ak, ck, t⟩ := z
          dsimp only at hc2 HS HBY HNIL hl
          go_wp2_with (at_builtin; refine wl_append_bytes rfl _ _ rfl w.heap.size _ _ t Ak ck rfl HO.out rfl HBY.out HNIL.out ?c1 HB.out.size ?_)
          case c1 => omega
          intro v' w3 hown hb
          have HO3 := Lib.hid hown
          have HB3 := Lib.hid (HB.out.trans hb)
          clear hown hb HO HB
          go_wp2_with fail
          go_roundw
          case rel => exact ⟨j + 1, by omega, by go_num, by rw [HS.out]; exact HO3.out, HB3.out⟩
          case measure => simp [intOf]; omega
        · obtain rfl : j = k := by omega
          clear hown hb
          go_wp2_with fail
          go_ret
          exact ⟨_, rfl, HO.out, HB.out⟩
set_option maxHeartbeats 1000000 in
theorem clone_bytes (A : Option Addr) (l : List UInt8) (c : Nat) (w : World) (hl : IsBy w A l) (hA : A = none → c = 0) (hlen : l.length ≤ 70368744177664) :
    Calls Tryd.prog 36 #[.slice A l.length c] w fun e w' => ∃ v, e = .returned v ∧ OwnBy w' w.heap.size v l ∧ Below w.heap.size w w' := by
  have HL := Lib.hid hl
  cases A with
  | none =>
    obtain rfl : l = [] := by
      cases l with
      | nil => rfl
      | cons y ys => obtain ⟨b, o, h1, _⟩ := hl 0 (by simp); cases h1
    obtain rfl := hA rfl
    go_enter Tryd.func36, Tryd.ntmps36
    have heq : (binOp .eql 24 (.slice none 0 0) (.slice none 0 0)).run Tryd.prog w = .ok (.bool true) w := Lib.run_eql_slice_nil w _ _ none 0 0 0 0 Tryd.underlying24
    go_wp2_with fail
    go_ret
    exact ⟨_, rfl, OwnBy.nil _ _, Below.refl _ _⟩
  | some a =>
    have heq : (binOp .eql 24 (.slice (some a) l.length c) (.slice none 0 0)).run Tryd.prog w = .ok (.bool false) w := Lib.run_eql_slice_nil w _ _ (some a) l.length c 0 0 Tryd.underlying24
    go_enter Tryd.func36, Tryd.ntmps36
    have HO : Hid (OwnBy (w.alloc (.cells #[] 5)) w.heap.size (.slice (some ⟨w.heap.size, 0, none⟩) 0 0) []) := Lib.hid (OwnBy.row (xs := []) (rowAt_alloc_at _ _ _ _ rfl) (by simp))
    clear hl
    go_wp2_with (at_builtin; refine wl_append_bytes rfl _ _ rfl w.heap.size _ _ l (some a) c rfl HO.out rfl (HL.out.alloc _) (fun h => by cases h) ?c1 (by simp) ?_)
    case c1 => simp; omega
    intro v' w3 hown hb
    have HO3 := Lib.hid hown
    have HB3 := Lib.hid (((Below.refl w.heap.size w).alloc (Nat.le_refl _) _).trans hb)
    clear hown hb
    go_wp2_with fail
    go_ret
    exact ⟨_, rfl, HO3.out, HB3.out⟩
end Go.Proofs.YtfnbcafilbafgaaDoor
