/-
  Layer 10 (wire): numbers put behind bytes.
-/
import Derived.Test.YtinhaipnmmgplaaGreatZGD
import Derived.Test.YtinhaipnmmgplaaGreatZGF
import Derived.Test.YtinhaipnmmgplaaGreatZGA
import Derived.Lib.AppendZeros
import Derived.Lib.SliceRun
namespace Go.Proofs.YtinhaipnmmgplaaGreat
set_option maxRecDepth 20000
open Go.RowKit
set_option linter.unusedSimpArgs false
set_option linter.unusedVariables false
attribute [local go_sem] rowAt_setRow rowAt_setCell Later.cell Later.frozen
/-- The bytes of the first n numbers. -/
def catN (n : Nat) (f : Nat → Int) : List UInt8 := catB ((List.range n).map f)
theorem catN_zero (f : Nat → Int) : catN 0 f = [] := rfl
theorem catN_succ (n : Nat) (f : Nat → Int) : catN (n + 1) f = catN n f ++ numB (f n) := by
  unfold catN
  rw [List.range_succ, List.map_append, catB_append]
  simp [catB]
theorem catN_len (n : Nat) (f : Nat → Int) : (catN n f).length ≤ 6 * n := by
  have := catB_len ((List.range n).map f)
  rwa [List.length_map, List.length_range] at this
theorem catN_congr {n : Nat} {f g : Nat → Int} (h : ∀ i, i < n → f i = g i) : catN n f = catN n g := by
  unfold catN
  rw [List.map_congr_left fun i hi => h i (List.mem_range.1 hi)]
theorem catN_add (n m : Nat) (f : Nat → Int) : catN (n + m) f = catN n f ++ catN m fun i => f (n + i) := by
  induction m with
  | zero => rw [Nat.add_zero, catN_zero, List.append_nil]
  | succ m ih => rw [← Nat.add_assoc, catN_succ, catN_succ, ih, List.append_assoc]
set_option maxHeartbeats 2000000 in
theorem wnum_any (B : Nat) (v : Value) (l : List UInt8) (G : Option Addr) (cg n : Nat) (f : Nat → Int) (w : World) (hown : OwnBy w B v l) (hB : B ≤ w.heap.size) (hI : IntsIs w G n f) (hn : n ≤ 1000000) (hlen : l.length ≤ 70368000000000) :
    Calls Tryz.prog 66 #[v, .slice G n cg] w fun e w' => ∃ v', e = .returned v' ∧ OwnBy w' B v' (l ++ catN n f) ∧ Below w.heap.size w w' := by
  have HO := Lib.hid hown
  have HI := Lib.hid hI
  clear hown hI
  go_enter Tryz.func66, Tryz.ntmps66
  go_wp2_with fail
  go_loopw [0, 9] (fun v i w' => ∃ k : Nat, k ≤ n ∧ i = .int .i64 k ∧ OwnBy w' B v (l ++ catN k f) ∧ Below w.heap.size w w') (fun _ i _ => n - (intOf i).toNat)
  case atStart => exact ⟨0, Nat.zero_le _, rfl, by rw [catN_zero, List.append_nil]; exact HO.out, Below.refl _ _⟩
  case round =>
    rename_i wr
    obtain ⟨k, hk, rfl, hown, hb⟩ := hrel
    have HB := Lib.hid hb
    by_cases hlt : k < n
    · obtain ⟨A, c, rfl, hi1, hi2, hi3, hi4⟩ := hown.isBy
      obtain ⟨gb, go, rfl, hc⟩ := (HI.out.below hb) k hlt
      have hl2 := catN_len k f
      have hlk : (l ++ catN k f).length ≤ 70368744177664 := by rw [List.length_append]; omega
      have HS := Lib.hid (catN_succ k f)
      have HI1 := Lib.hid hi1
      have HI2 := Lib.hid hi2
      have HBB := Lib.hid (Nat.le_trans hB hb.size)
      generalize f k = x at *
      clear hown
      generalize hX : l ++ catN k f = X at *
      have HX := Lib.hid hX
      clear hb hi1 hi2 hi3 hi4 hX
      go_wp2_with fail
      refine (number_any A c X x _ HI1.out HI2.out hlk).mono ?_
      rintro e w1 ⟨v1, rfl, hown, hb⟩
      have HO1 := Lib.hid (hown.mono HBB.out)
      have HB1 := Lib.hid (bthen HB.out hb)
      clear hown hb
      go_wp2_with fail
      go_roundw
      case rel => exact ⟨k + 1, by omega, by go_num, by rw [HS.out, ← List.append_assoc, HX.out]; exact HO1.out, HB1.out⟩
      case measure => simp [intOf]; omega
    · obtain rfl : k = n := by omega
      have HO1 := Lib.hid hown
      clear hown hb
      go_wp2_with fail
      go_ret
      exact ⟨_, rfl, HO1.out, HB.out⟩
end Go.Proofs.YtinhaipnmmgplaaGreat

/-
  Layer 10 (wire): the vectors of rights, as pointers.
-/
namespace Go.Proofs.YtinhaipnmmgplaaGreat
set_option maxRecDepth 20000
open Go.RowKit
set_option linter.unusedSimpArgs false
set_option linter.unusedVariables false
attribute [local go_sem] rowAt_setRow rowAt_setCell Later.cell Later.frozen
/-- Pointers to the vectors that lie in block g from o on. -/
def vecP (g o n : Nat) : List Value := (List.range n).map fun j => .pointer (some ⟨g, o + 16 * j, none⟩)
theorem vecP_len (g o n : Nat) : (vecP g o n).length = n := by simp [vecP]
theorem vecP_succ (g o n : Nat) : vecP g o (n + 1) = vecP g o n ++ [.pointer (some ⟨g, o + 16 * n, none⟩)] := by simp [vecP, List.range_succ]
theorem vecP_get (g o n i : Nat) (h : i < n) : (vecP g o n)[i]? = some (.pointer (some ⟨g, o + 16 * i, none⟩)) := by simp [vecP, h]
theorem info_pvec : (Tryz.prog.info? 124).map (fun i => (i.zero, i.size, i.bytes)) = some (some (.pointer none), 1, 8) := by kernel_rfl
set_option maxHeartbeats 2000000 in
theorem vectors_any (g o : Nat) (w : World) :
    Calls Tryz.prog 68 #[.pointer (some ⟨g, o, none⟩)] w fun e w' => ∃ v, e = .returned v ∧ w'.ownsRow w.heap.size 124 1 v 18 (vecP g o 18) ∧ Below w.heap.size w w' := by
  go_enter Tryz.func68, Tryz.ntmps68
  go_wp2_with fail
  refine region_quiet_tail 6 (by kernel_rfl) (by kernel_rfl) ?_
  simp only [List.take_succ_cons, List.take_zero, List.drop_succ_cons, List.drop_zero]
  repeat (go_big_quiet_step (fail))
  refine wpQuiet_nil ?_
  intro w1 hb
  have HB := Lib.hid hb
  have HO : Hid ((w1.alloc (.cells #[.pointer (some ⟨g, o, none⟩), .pointer (some ⟨g, o + 16, none⟩)] 124)).ownsRow w.heap.size 124 1 (.slice (some ⟨w1.heap.size, 0, none⟩) 2 2) 2 (vecP g o 2)) := Lib.hid (by
    refine ⟨rfl, .inr ⟨w1.heap.size, 2, _, rfl, hb.size, rowAt_iff.1 (rowAt_alloc_at _ _ _ _ rfl), Nat.le_refl _, by decide, rfl, rfl⟩⟩)
  clear hb
  go_wp2_with fail
  go_loopw [3, 12] (fun v i w' => ∃ k : Nat, k ≤ 16 ∧ i = .int .i64 k ∧ w'.ownsRow w.heap.size 124 1 v (2 + k) (vecP g o (2 + k)) ∧ Below w.heap.size w w') (fun _ i _ => 16 - (intOf i).toNat)
  case atStart => exact ⟨0, Nat.zero_le _, rfl, HO.out, below_allocS HB.out _⟩
  case round =>
    rename_i wr
    obtain ⟨k, hk, rfl, hown, hb⟩ := hrel
    clear HO HB
    have HB := Lib.hid hb
    have HO := Lib.hid hown
    clear hown hb
    by_cases hlt : k < 16
    · have hm : ((k : Int) * 16).toNat = 16 * k := by omega
      have HY : Hid (vecP g o (2 + (k + 1)) = vecP g o (2 + k) ++ [.pointer (some ⟨g, o + 32 + k * 16, none⟩)]) := Lib.hid (by rw [show 2 + (k + 1) = (2 + k) + 1 by omega, vecP_succ, show o + 16 * (2 + k) = o + 32 + k * 16 by omega])
      clear hm
      go_wp2_with (at_builtin; refine wl_append_rows Tryz.underlying122 info_pvec rfl (by decide) rfl _ _ rfl rfl (own_alloc HO.out _) _ 1 1 [.pointer (some ⟨g, o + 32 + k * 16, none⟩)] rfl rfl (fun h => by cases h) ?c1 ?c2 ?c3 ?c4 ?c5 ?_)
      case c1 => exact row_laid _ _ _ _ rfl
      case c2 => intro u hu; obtain rfl := List.mem_singleton.1 hu; rfl
      case c3 => omega
      case c4 => omega
      case c5 => have := HB.out.size; simp; omega
      intro v' w2 hown hb
      have HO2 := Lib.hid hown
      have HB2 := Lib.hid (((HB.out.alloc HB.out.size _)).trans hb)
      clear hown hb HO HB
      go_wp2_with fail
      go_roundw
      case rel => exact ⟨k + 1, by omega, by go_num, by rw [HY.out]; exact HO2.out, HB2.out⟩
      case measure => simp [intOf]; omega
    · obtain rfl : k = 16 := by omega
      go_wp2_with fail
      go_ret
      exact ⟨_, rfl, HO.out, HB.out⟩
end Go.Proofs.YtinhaipnmmgplaaGreat

/-
  Layer 10 (wire): slices.Grow and Concat at pointers to vectors.
-/
namespace Go.Proofs.YtinhaipnmmgplaaGreat
set_option maxRecDepth 20000
open Go.RowKit
set_option linter.unusedSimpArgs false
set_option linter.unusedVariables false
attribute [local go_sem] rowAt_setRow rowAt_setCell Later.cell Later.frozen
set_option maxHeartbeats 1000000 in
theorem growV_any (n : Nat) (h0 : 0 < n) (h1 : n ≤ 1000000) (w : World) :
    Calls Tryz.prog 91 #[.slice none 0 0, .int .i64 n] w fun e w' => ∃ v, e = .returned v ∧ w'.ownsRow w.heap.size 124 1 v 0 [] ∧ Below w.heap.size w w' := by
  obtain ⟨i0, hi, hz0, hz1, hz2⟩ := info_parts info_pvec
  have hpos : decide ((0 : Int) < (n : Int)) = true := decide_eq_true (by omega)
  have hneg : decide ((n : Int) < 0) = false := decide_eq_false (by omega)
  have HR : ∀ ty, Hid ((Builtin.append_ #[122, 3] ty #[.slice none 0 0, .int .i64 n]).run Tryz.prog w = .ok (.slice (some ⟨w.heap.size, 0, none⟩) n (grownCap w n 0 124)) (w.drew.alloc (.cells (Builtin.zeroCells (Value.pointer none).cells n ++ Builtin.zeroCells (Value.pointer none).cells (grownCap w n 0 124 - n)) 124))) :=
    fun ty => Lib.hid (Lib.run_append_nil_zeros w 122 3 ty 124 i0 (.pointer none) .i64 .i64 Tryz.underlying122 Tryz.underlying3 hi hz0 n h0 (by omega) (by omega) (by rw [hz2]; omega))
  have hcap := grownCap_ge w n 0 124
  have hcm := grownCap_le_maxLen w n 0 124 (by unfold maxLen; omega)
  generalize grownCap w n 0 124 = cp at *
  obtain ⟨W, hW⟩ : ∃ W, w.drew.alloc (.cells (Builtin.zeroCells (Value.pointer none).cells n ++ Builtin.zeroCells (Value.pointer none).cells (cp - n)) 124) = W := ⟨_, rfl⟩
  have HB : Hid (Below w.heap.size w W) := Lib.hid (by rw [← hW]; exact (Below.refl _ _).drew.alloc (Nat.le_refl _) _)
  have HO : Hid (W.ownsRow w.heap.size 124 1 (.slice (some ⟨w.heap.size, 0, none⟩) 0 cp) 0 []) := Lib.hid (by
    refine ⟨rfl, .inr ⟨w.heap.size, cp, _, rfl, Nat.le_refl _, rowAt_iff.1 (by rw [← hW]; exact rowAt_alloc_at _ _ _ _ rfl), Nat.zero_le _, hcm, ?_, by simp⟩⟩
    simp [Builtin.zeroCells, Value.cells]
    omega)
  rw [hW] at HR
  clear hW
  go_enter Tryz.func91, Tryz.ntmps91
  go_wp2_with (at_builtin; refine Lib.wpList_append_run _ rfl _ _ _ _ rfl _ _ rfl rfl _ _ (HR _).out ?_)
  go_wp2_with fail
  go_ret
  exact ⟨_, rfl, HO.out, HB.out⟩
/-- The first k of two rows, one behind the other. -/
def catTwo (xs ys : List Value) : Nat → List Value
  | 0 => []
  | 1 => xs
  | _ => xs ++ ys
set_option maxHeartbeats 2000000 in
theorem concatV_any (q c : Nat) (v1 v2 : Value) (b1 b2 : Nat) (xs ys : List Value) (w : World) (h1 : w.ownsRow b1 124 1 v1 18 xs) (h2 : w.ownsRow b2 124 1 v2 18 ys)
    (c1 : w.cell? ⟨q, 0, none⟩ = some v1) (c2 : w.cell? ⟨q, 1, none⟩ = some v2) (ho1 : ∀ u ∈ xs, u.oneCell' = true) (ho2 : ∀ u ∈ ys, u.oneCell' = true) :
    Calls Tryz.prog 67 #[.slice (some ⟨q, 0, none⟩) 2 c] w fun e w' => ∃ v, e = .returned v ∧ w'.ownsRow w.heap.size 124 1 v 36 (xs ++ ys) ∧ Below w.heap.size w w' := by
  have l1 := h1.1
  have l2 := h2.1
  obtain ⟨A1, k1, rfl, hn1, _, _, _, hc1⟩ := own_open h1 (by decide)
  obtain ⟨A2, k2, rfl, hn2, _, _, _, hc2⟩ := own_open h2 (by decide)
  have HC1 := Lib.hid hc1
  have HC2 := Lib.hid hc2
  have HN1 := Lib.hid hn1
  have HN2 := Lib.hid hn2
  have L1 := Lib.hid l1
  have L2 := Lib.hid l2
  have H1 := Lib.hid ho1
  have H2 := Lib.hid ho2
  clear h1 h2 hc1 hc2 hn1 hn2 l1 l2 ho1 ho2
  go_enter Tryz.func67, Tryz.ntmps67
  go_wp2_with fail
  go_loopw [3, 11] (fun v i w' => ∃ k : Nat, k ≤ 2 ∧ v = .int .i64 ((18 * k : Nat) : Int) ∧ i = .int .i64 k ∧ w = w') (fun _ i _ => 2 - (intOf i).toNat)
  case atStart => exact ⟨0, Nat.zero_le _, rfl, rfl, rfl⟩
  case round =>
    obtain ⟨k, hk, rfl, rfl, rfl⟩ := hrel
    have hk2 : k = 0 ∨ k = 1 ∨ k = 2 := by omega
    clear hk
    rcases hk2 with rfl | rfl | rfl
    · go_wp2_with fail
      go_roundw
      case rel => exact ⟨1, by omega, rfl, by go_num, trivial⟩
      case measure => simp [intOf]
    · go_wp2_with fail
      go_roundw
      case rel => exact ⟨2, by omega, rfl, by go_num, trivial⟩
      case measure => simp [intOf]
    · go_wp2_with fail
      refine (growV_any 36 (by decide) (by decide) w).mono ?_
      rintro e w1 ⟨v, rfl, hown, hb⟩
      have HO := Lib.hid hown
      have HB := Lib.hid hb
      clear hown hb
      go_wp2_with fail
      go_loopw [6, 27] (fun v i w' => ∃ j : Nat, j ≤ 2 ∧ i = .int .i64 j ∧ w'.ownsRow w.heap.size 124 1 v (18 * j) (catTwo xs ys j) ∧ Below w.heap.size w w') (fun _ i _ => 2 - (intOf i).toNat)
      case atStart => exact ⟨0, Nat.zero_le _, rfl, HO.out, HB.out⟩
      case round =>
        rename World => wr
        obtain ⟨j, hj, rfl, hown, hb⟩ := hrel
        clear HO HB
        have HO := Lib.hid hown
        have HB := Lib.hid hb
        clear hown
        have hj2 : j = 0 ∨ j = 1 ∨ j = 2 := by omega
        clear hj
        rcases hj2 with rfl | rfl | rfl
        · have d1 : wr.cell? ⟨q, 0, none⟩ = some (.slice A1 18 k1) := (hb.cell (World.block_lt_of_cell? _ _ c1)).trans c1
          have HD := Lib.hid (fun (j : Nat) (u : Value) (hu : xs[j]? = some u) => (HC1.out j u hu).imp fun g (hg : A1 = some ⟨g, 0, none⟩ ∧ w.cell? ⟨g, j, none⟩ = some u) => (⟨0, hg.1, by rw [Nat.zero_add]; exact (hb.cell (World.block_lt_of_cell? _ _ hg.2)).trans hg.2⟩ : ∃ o, A1 = some ⟨g, o, none⟩ ∧ wr.cell? ⟨g, o + j, none⟩ = some u))
          clear hb
          go_wp2_with (at_builtin; refine wl_append_rows Tryz.underlying122 info_pvec rfl (by decide) rfl _ _ rfl rfl HO.out A1 18 k1 xs rfl ?d1 HN1.out HD.out ?d2 ?d3 ?d4 ?d5 ?_)
          case d1 => rw [L1.out]
          case d2 => exact H1.out
          case d3 => decide
          case d4 => decide
          case d5 => exact HB.out.size
          intro v' w3 hown hb
          have HO3 := Lib.hid hown
          have HB3 := Lib.hid (HB.out.trans hb)
          clear hown hb HO HB
          go_wp2_with fail
          go_roundw
          case rel => exact ⟨1, by omega, by go_num, HO3.out, HB3.out⟩
          case measure => simp [intOf]
        · have d1 : wr.cell? ⟨q, 1, none⟩ = some (.slice A2 18 k2) := (hb.cell (World.block_lt_of_cell? _ _ c2)).trans c2
          have HD := Lib.hid (fun (j : Nat) (u : Value) (hu : ys[j]? = some u) => (HC2.out j u hu).imp fun g (hg : A2 = some ⟨g, 0, none⟩ ∧ w.cell? ⟨g, j, none⟩ = some u) => (⟨0, hg.1, by rw [Nat.zero_add]; exact (hb.cell (World.block_lt_of_cell? _ _ hg.2)).trans hg.2⟩ : ∃ o, A2 = some ⟨g, o, none⟩ ∧ wr.cell? ⟨g, o + j, none⟩ = some u))
          clear hb
          go_wp2_with (at_builtin; refine wl_append_rows Tryz.underlying122 info_pvec rfl (by decide) rfl _ _ rfl rfl HO.out A2 18 k2 ys rfl ?d1 HN2.out HD.out ?d2 ?d3 ?d4 ?d5 ?_)
          case d1 => rw [L2.out]
          case d2 => exact H2.out
          case d3 => decide
          case d4 => decide
          case d5 => exact HB.out.size
          intro v' w3 hown hb
          have HO3 := Lib.hid hown
          have HB3 := Lib.hid (HB.out.trans hb)
          clear hown hb HO HB
          go_wp2_with fail
          go_roundw
          case rel => exact ⟨2, by omega, by go_num, HO3.out, HB3.out⟩
          case measure => simp [intOf]
        · clear hb
          go_wp2_with fail
          go_ret
          exact ⟨_, rfl, HO.out, HB.out⟩
end Go.Proofs.YtinhaipnmmgplaaGreat
