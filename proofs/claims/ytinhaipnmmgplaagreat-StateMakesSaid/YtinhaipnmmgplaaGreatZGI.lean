/-
  Layer 7 (field): names; the reference's.
-/
import Derived.Test.YtinhaipnmmgplaaGreatZMsg1
namespace Go.Proofs.YtinhaipnmmgplaaGreat
set_option maxRecDepth 20000
open Go.RowKit
set_option linter.unusedSimpArgs false
def chB (b : UInt8) : Bool := decide (33 ≤ b.toNat) && decide (b.toNat ≤ 126)
def nameB (l : List UInt8) : Bool := l.all chB && decide (1 ≤ l.length) && decide (l.length ≤ 8)
theorem name_no {l : List UInt8} {i : Nat} (hi : i < l.length) (h : chB (l.getD i 0) = false) : nameB l = false := by
  have : l.all chB = false := by
    rw [List.all_eq_false]
    refine ⟨l[i], List.getElem_mem _, ?_⟩
    have e : l.getD i 0 = l[i] := by simp [List.getD, hi]
    rw [e] at h
    simp [h]
  simp [nameB, this]
theorem name_all {l : List UInt8} (h : ∀ i, i < l.length → chB (l.getD i 0) = true) : nameB l = (decide (1 ≤ l.length) && decide (l.length ≤ 8)) := by
  have : l.all chB = true := by
    rw [List.all_eq_true]
    intro x hx
    obtain ⟨i, hi, rfl⟩ := List.mem_iff_getElem.1 hx
    have := h i hi
    simpa [List.getD, hi] using this
  simp [nameB, this]
theorem strT_get (l : List UInt8) (i : Nat) (h : i < (strT l).size) : (strT l)[i] = l.getD i 0 := by
  have h' : i < l.length := by rw [strT_size] at h; exact h
  show (strT l).data[i] = _
  simp [strT, List.getD, h']
attribute [local go_sem] strT_size
set_option maxHeartbeats 1000000 in
theorem name_any (l : List UInt8) (hl : l.length ≤ 9223372036854775807) (w : World) : Calls Tryz.prog 54 #[.string (strT l)] w fun e w' => e = .returned (.bool (nameB l)) ∧ w = w' := by
  go_enter Tryz.func54, Tryz.ntmps54
  go_wp2_with fail
  go_loop [6] (fun i => ∃ k : Nat, k ≤ l.length ∧ i = .int .i64 k ∧ ∀ j, j < k → chB (l.getD j 0) = true) (fun i => l.length - (intOf i).toNat)
  case atStart => exact ⟨0, Nat.zero_le _, rfl, fun j hj => by omega⟩
  case round =>
    obtain ⟨k, hk, rfl, hall⟩ := hrel
    have HA := Lib.hid hall
    clear hall
    by_cases hlt : k < l.length
    · have hks : k < (strT l).size := by rw [strT_size]; exact hlt
      obtain ⟨x, hx⟩ : ∃ x, (l.getD k 0).toNat = x := ⟨_, rfl⟩
      have e : (strT l)[k].toNat = x := by rw [strT_get]; exact hx
      have HX := Lib.hid hx
      clear hx
      by_cases h1 : x < 33
      · have g1 : ((x : Nat) : Int) < 33 := by omega
        have HN : Hid (nameB l = false) := Lib.hid (name_no hlt (by unfold chB; rw [HX.out]; simp; omega))
        clear HA HX h1
        go_wp2_with fail
        go_ret
        exact ⟨by rw [HN.out]; rfl, rfl⟩
      · by_cases h2 : x ≤ 126
        · have g1 : ¬ ((x : Nat) : Int) < 33 := by omega
          have g2 : ((x : Nat) : Int) ≤ 126 := by omega
          have HC : Hid (chB (l.getD k 0) = true) := Lib.hid (by unfold chB; rw [HX.out]; simp; omega)
          clear HX h1 h2
          go_wp2_with fail
          go_round
          case rel =>
            refine ⟨k + 1, by omega, by go_num, fun j hj => ?_⟩
            by_cases hjk : j = k
            · rw [hjk]; exact HC.out
            · exact HA.out j (by omega)
          case measure => simp [intOf]; omega
        · have g1 : ¬ ((x : Nat) : Int) < 33 := by omega
          have g2 : ¬ ((x : Nat) : Int) ≤ 126 := by omega
          have g3 : (126 : Int) < ((x : Nat) : Int) := by omega
          have HN : Hid (nameB l = false) := Lib.hid (name_no hlt (by unfold chB; rw [HX.out]; simp; omega))
          clear HA HX h1 h2
          go_wp2_with fail
          go_ret
          exact ⟨by rw [HN.out]; rfl, rfl⟩
    · have hkk : k = l.length := by omega
      subst hkk
      have HN : Hid (nameB l = (decide (1 ≤ l.length) && decide (l.length ≤ 8))) := Lib.hid (name_all HA.out)
      clear HA
      by_cases h1 : 1 ≤ l.length
      · have g1 : (1 : Int) ≤ (l.length : Int) := by omega
        have g0 : (0 : Int) < (l.length : Int) := by omega
        go_wp2_with fail
        go_ret
        refine ⟨?_, rfl⟩
        rw [HN.out, decide_eq_true h1, Bool.true_and, show decide (l.length ≤ 8) = decide ((l.length : Int) ≤ 8) from decide_eq_decide.2 (by omega)]
        first | rfl | simp
      · have g1 : ¬ (1 : Int) ≤ (l.length : Int) := by omega
        have g0 : ¬ (0 : Int) < (l.length : Int) := by omega
        go_wp2_with fail
        go_ret
        refine ⟨?_, rfl⟩
        rw [HN.out, decide_eq_false h1]
        rfl
set_option maxHeartbeats 1000000 in
theorem rname_any (l : List UInt8) (hl : l.length ≤ 9223372036854775807) (w : World) : Calls Tryz.prog 35 #[.string (strT l)] w fun e w' => e = .returned (.bool (nameB l)) ∧ w = w' := by
  go_enter Tryz.func35, Tryz.ntmps35
  go_wp2_with fail
  go_loop [3] (fun i => ∃ k : Nat, k ≤ l.length ∧ i = .int .i64 k ∧ ∀ j, j < k → chB (l.getD j 0) = true) (fun i => l.length - (intOf i).toNat)
  case atStart => exact ⟨0, Nat.zero_le _, rfl, fun j hj => by omega⟩
  case round =>
    obtain ⟨k, hk, rfl, hall⟩ := hrel
    have HA := Lib.hid hall
    clear hall
    by_cases hlt : k < l.length
    · have hks : k < (strT l).size := by rw [strT_size]; exact hlt
      obtain ⟨x, hx⟩ : ∃ x, (l.getD k 0).toNat = x := ⟨_, rfl⟩
      have e : (strT l)[k].toNat = x := by rw [strT_get]; exact hx
      have HX := Lib.hid hx
      clear hx
      by_cases h1 : x < 33
      · have g1 : ((x : Nat) : Int) < 33 := by omega
        have HN : Hid (nameB l = false) := Lib.hid (name_no hlt (by unfold chB; rw [HX.out]; simp; omega))
        clear HA HX h1
        go_wp2_with fail
        go_ret
        exact ⟨by rw [HN.out]; rfl, rfl⟩
      · by_cases h2 : x ≤ 126
        · have g1 : ¬ ((x : Nat) : Int) < 33 := by omega
          have g2 : ((x : Nat) : Int) ≤ 126 := by omega
          have HC : Hid (chB (l.getD k 0) = true) := Lib.hid (by unfold chB; rw [HX.out]; simp; omega)
          clear HX h1 h2
          go_wp2_with fail
          go_round
          case rel =>
            refine ⟨k + 1, by omega, by go_num, fun j hj => ?_⟩
            by_cases hjk : j = k
            · rw [hjk]; exact HC.out
            · exact HA.out j (by omega)
          case measure => simp [intOf]; omega
        · have g1 : ¬ ((x : Nat) : Int) < 33 := by omega
          have g2 : ¬ ((x : Nat) : Int) ≤ 126 := by omega
          have g3 : (126 : Int) < ((x : Nat) : Int) := by omega
          have HN : Hid (nameB l = false) := Lib.hid (name_no hlt (by unfold chB; rw [HX.out]; simp; omega))
          clear HA HX h1 h2
          go_wp2_with fail
          go_ret
          exact ⟨by rw [HN.out]; rfl, rfl⟩
    · have hkk : k = l.length := by omega
      subst hkk
      have HN : Hid (nameB l = (decide (1 ≤ l.length) && decide (l.length ≤ 8))) := Lib.hid (name_all HA.out)
      clear HA
      by_cases h1 : 1 ≤ l.length
      · have g1 : (1 : Int) ≤ (l.length : Int) := by omega
        have g0 : (0 : Int) < (l.length : Int) := by omega
        go_wp2_with fail
        go_ret
        refine ⟨?_, rfl⟩
        rw [HN.out, decide_eq_true h1, Bool.true_and, show decide (l.length ≤ 8) = decide ((l.length : Int) ≤ 8) from decide_eq_decide.2 (by omega)]
        first | rfl | simp
      · have g1 : ¬ (1 : Int) ≤ (l.length : Int) := by omega
        have g0 : ¬ (0 : Int) < (l.length : Int) := by omega
        go_wp2_with fail
        go_ret
        refine ⟨?_, rfl⟩
        rw [HN.out, decide_eq_false h1]
        rfl
end Go.Proofs.YtinhaipnmmgplaaGreat

/-
  Layers 5, 6 (lock, hold): whether a lock, or a hold, may be; the references'.
-/
namespace Go.Proofs.YtinhaipnmmgplaaGreat
set_option maxRecDepth 20000
open Go.RowKit
set_option linter.unusedSimpArgs false
attribute [local go_sem] rowCells rowAt_drewN get_ints getE_ints set_ints size_ints rowAt_alloc rowAt_drew setRow_alloc setRow_drewN setRow_drew setCell_alloc setCell_drewN splice_upd splice_put splice_all load_vec_cut load_vecs_cut load_rights_cut load_counter store_vec store_rights store_counter eql_vec neq_vec index_vec eql_rights neq_rights eql_counter index_vecs cut_ints sub_zero
attribute [local go_sem ↓] xload_vec xstore_vec xalloc_vec xeql_vec xneq_vec xindex_vec xbuild_vec0 xload_rights xstore_rights xalloc_rights xeql_rights xneq_rights xbuild_rights0 xload_vecs xindex_vecs xload_counter xstore_counter xalloc_counter xbuild_counter0 xeql_counter xbuild_counter3
attribute [local go_sem] rowAt_setRow rowAt_setCell load_vec_cut_later load_rights_later load_counter_later Later.cell Later.frozen build3_ints
attribute [local go_sem ↓] xload_field xstore_field xalloc_field xload_lock
attribute [local go_sem] load_field load_field_later store_field load_counter_cut load_lock_cut load_lock_later Fld.size Fld.get0 Fld.get1 Fld.get2 Fld.get586 Fld.getE0 Fld.getE1 Fld.getE2 Fld.getE586 Fld.cut_cnt Fld.cut_lock Fld.cut_all Fld.splice_all strT_size

def cntB (n : Int) : Bool := decide (0 ≤ n) && isB n
theorem ris_at {n : Int} {b : Bool} (h : isB n = b) (w : World) : Calls Tryz.prog 36 #[.int .i64 n] w fun e w' => e = .returned (.bool b) ∧ Below w.heap.size w w' :=
  (ris_any n w).mono fun _ _ ⟨h1, h2⟩ => ⟨h1.trans (by rw [h]), h2 ▸ Below.refl _ _⟩
set_option maxHeartbeats 2000000 in
theorem count_any (n : Int) (w : World) : Calls Tryz.prog 95 #[.int .i64 n] w fun e w' => e = .returned (.bool (cntB n)) ∧ Below w.heap.size w w' := by
  obtain ⟨R, hR⟩ : ∃ R, (cntB n) = R := ⟨_, rfl⟩
  obtain ⟨b0, e0⟩ : ∃ b, decide (0 ≤ n) = b := ⟨_, rfl⟩
  obtain ⟨b1, e1⟩ : ∃ b, isB n = b := ⟨_, rfl⟩
  have hM : R = (b0 && b1) := by rw [← hR, ← e0, ← e1]; rfl
  rw [hR]
  clear hR
  cases b0
  · obtain rfl : R = false := by simpa using hM
    clear hM
    go_enter Tryz.func95, Tryz.ntmps95
    go_upto_region 1 with fail
    refine region_seq ?_
    repeat (go_big_quiet_step ((first | (go_at_call 43; exact quiet_call (by simp) (is_at (by assumption) _)))))
    refine wpQuiet_nil ?_
    intro w1 hb1
    have HB := Lib.hid (hb1)
    clear hb1
    go_wp2
    go_ret
    exact ⟨by first | rfl | simp [*], HB.out⟩
  · obtain rfl : R = b1 := by simpa using hM
    clear hM
    go_enter Tryz.func95, Tryz.ntmps95
    go_upto_region 1 with fail
    refine region_seq ?_
    repeat (go_big_quiet_step ((first | (go_at_call 43; exact quiet_call (by simp) (is_at (by assumption) _)))))
    refine wpQuiet_nil ?_
    intro w1 hb1
    have HB := Lib.hid (hb1)
    clear hb1
    go_wp2
    go_ret
    exact ⟨by first | rfl | simp [*], HB.out⟩
theorem count_at {n : Int} {b : Bool} (h : cntB n = b) (w : World) : Calls Tryz.prog 95 #[.int .i64 n] w fun e w' => e = .returned (.bool b) ∧ Below w.heap.size w w' := by rw [← h]; exact count_any n w
set_option maxHeartbeats 2000000 in
theorem lcount_any (n : Int) (w : World) : Calls Tryz.prog 78 #[.int .i64 n] w fun e w' => e = .returned (.bool (cntB n)) ∧ Below w.heap.size w w' := by
  obtain ⟨R, hR⟩ : ∃ R, (cntB n) = R := ⟨_, rfl⟩
  obtain ⟨b0, e0⟩ : ∃ b, decide (0 ≤ n) = b := ⟨_, rfl⟩
  obtain ⟨b1, e1⟩ : ∃ b, isB n = b := ⟨_, rfl⟩
  have hM : R = (b0 && b1) := by rw [← hR, ← e0, ← e1]; rfl
  rw [hR]
  clear hR
  cases b0
  · obtain rfl : R = false := by simpa using hM
    clear hM
    go_enter Tryz.func78, Tryz.ntmps78
    go_upto_region 1 with fail
    refine region_seq ?_
    repeat (go_big_quiet_step ((first | (go_at_call 43; exact quiet_call (by simp) (is_at (by assumption) _)))))
    refine wpQuiet_nil ?_
    intro w1 hb1
    have HB := Lib.hid (hb1)
    clear hb1
    go_wp2
    go_ret
    exact ⟨by first | rfl | simp [*], HB.out⟩
  · obtain rfl : R = b1 := by simpa using hM
    clear hM
    go_enter Tryz.func78, Tryz.ntmps78
    go_upto_region 1 with fail
    refine region_seq ?_
    repeat (go_big_quiet_step ((first | (go_at_call 43; exact quiet_call (by simp) (is_at (by assumption) _)))))
    refine wpQuiet_nil ?_
    intro w1 hb1
    have HB := Lib.hid (hb1)
    clear hb1
    go_wp2
    go_ret
    exact ⟨by first | rfl | simp [*], HB.out⟩
theorem lcount_at {n : Int} {b : Bool} (h : cntB n = b) (w : World) : Calls Tryz.prog 78 #[.int .i64 n] w fun e w' => e = .returned (.bool b) ∧ Below w.heap.size w w' := by rw [← h]; exact lcount_any n w
set_option maxHeartbeats 2000000 in
theorem rcounts_any (n : Int) (w : World) : Calls Tryz.prog 82 #[.int .i64 n] w fun e w' => e = .returned (.bool (cntB n)) ∧ Below w.heap.size w w' := by
  obtain ⟨R, hR⟩ : ∃ R, (cntB n) = R := ⟨_, rfl⟩
  obtain ⟨b0, e0⟩ : ∃ b, decide (0 ≤ n) = b := ⟨_, rfl⟩
  obtain ⟨b1, e1⟩ : ∃ b, isB n = b := ⟨_, rfl⟩
  have hM : R = (b0 && b1) := by rw [← hR, ← e0, ← e1]; rfl
  rw [hR]
  clear hR
  cases b0
  · obtain rfl : R = false := by simpa using hM
    clear hM
    go_enter Tryz.func82, Tryz.ntmps82
    go_upto_region 1 with fail
    refine region_seq ?_
    repeat (go_big_quiet_step ((first | (go_at_call 36; exact quiet_call (by simp) (ris_at (by assumption) _)))))
    refine wpQuiet_nil ?_
    intro w1 hb1
    have HB := Lib.hid (hb1)
    clear hb1
    go_wp2
    go_ret
    exact ⟨by first | rfl | simp [*], HB.out⟩
  · obtain rfl : R = b1 := by simpa using hM
    clear hM
    go_enter Tryz.func82, Tryz.ntmps82
    go_upto_region 1 with fail
    refine region_seq ?_
    repeat (go_big_quiet_step ((first | (go_at_call 36; exact quiet_call (by simp) (ris_at (by assumption) _)))))
    refine wpQuiet_nil ?_
    intro w1 hb1
    have HB := Lib.hid (hb1)
    clear hb1
    go_wp2
    go_ret
    exact ⟨by first | rfl | simp [*], HB.out⟩
theorem rcounts_at {n : Int} {b : Bool} (h : cntB n = b) (w : World) : Calls Tryz.prog 82 #[.int .i64 n] w fun e w' => e = .returned (.bool b) ∧ Below w.heap.size w w' := by rw [← h]; exact rcounts_any n w
def inK (n : Int) : Bool := decide (0 ≤ n) && decide (n < 16)
set_option maxHeartbeats 2000000 in
theorem lockis_any (n : Int) (w : World) : Calls Tryz.prog 79 #[.int .i64 n] w fun e w' => e = .returned (.bool (inK n)) ∧ Below w.heap.size w w' := by
  obtain ⟨R, hR⟩ : ∃ R, (inK n) = R := ⟨_, rfl⟩
  obtain ⟨b0, e0⟩ : ∃ b, decide (0 ≤ n) = b := ⟨_, rfl⟩
  obtain ⟨b1, e1⟩ : ∃ b, decide (n < 16) = b := ⟨_, rfl⟩
  have hM : R = (b0 && b1) := by rw [← hR, ← e0, ← e1]; rfl
  rw [hR]
  clear hR
  cases b0
  · obtain rfl : R = false := by simpa using hM
    clear hM
    go_enter Tryz.func79, Tryz.ntmps79
    go_upto_region 1 with fail
    refine region_seq ?_
    repeat (go_big_quiet_step ((fail)))
    refine wpQuiet_nil ?_
    intro w1 hb1
    have HB := Lib.hid (hb1)
    clear hb1
    go_wp2
    go_ret
    exact ⟨by first | rfl | simp [*], HB.out⟩
  · obtain rfl : R = b1 := by simpa using hM
    clear hM
    go_enter Tryz.func79, Tryz.ntmps79
    go_upto_region 1 with fail
    refine region_seq ?_
    repeat (go_big_quiet_step ((fail)))
    refine wpQuiet_nil ?_
    intro w1 hb1
    have HB := Lib.hid (hb1)
    clear hb1
    go_wp2
    go_ret
    exact ⟨by first | rfl | simp [*], HB.out⟩
theorem lockis_at {n : Int} {b : Bool} (h : inK n = b) (w : World) : Calls Tryz.prog 79 #[.int .i64 n] w fun e w' => e = .returned (.bool b) ∧ Below w.heap.size w w' := by rw [← h]; exact lockis_any n w
def holdB (h : Nat → Int) : Bool := decide (0 ≤ h 0) && decide (h 0 < 16) && decide (1 ≤ h 1) && isB (h 1) && cntB (h 2) && cntB (h 3) && decide (1 ≤ h 4) && decide (h 4 ≤ 3)
def lockB (h : Nat → Int) : Bool := cntB (h 0) && cntB (h 1) && inK (h 2) && isB (h 3)
set_option maxHeartbeats 2000000 in
theorem holdRight_any (h : Nat → Int) (w : World) : Calls Tryz.prog 76 #[.agg (ints 5 h)] w fun e w' => e = .returned (.bool (holdB h)) ∧ Below w.heap.size w w' := by
  obtain ⟨R, hR⟩ : ∃ R, (holdB h) = R := ⟨_, rfl⟩
  obtain ⟨b0, e0⟩ : ∃ b, decide (0 ≤ h 0) = b := ⟨_, rfl⟩
  obtain ⟨b1, e1⟩ : ∃ b, decide (h 0 < 16) = b := ⟨_, rfl⟩
  obtain ⟨b2, e2⟩ : ∃ b, decide (1 ≤ h 1) = b := ⟨_, rfl⟩
  obtain ⟨b3, e3⟩ : ∃ b, isB (h 1) = b := ⟨_, rfl⟩
  obtain ⟨b4, e4⟩ : ∃ b, cntB (h 2) = b := ⟨_, rfl⟩
  obtain ⟨b5, e5⟩ : ∃ b, cntB (h 3) = b := ⟨_, rfl⟩
  obtain ⟨b6, e6⟩ : ∃ b, decide (1 ≤ h 4) = b := ⟨_, rfl⟩
  obtain ⟨b7, e7⟩ : ∃ b, decide (h 4 ≤ 3) = b := ⟨_, rfl⟩
  have hM : R = (b0 && b1 && b2 && b3 && b4 && b5 && b6 && b7) := by rw [← hR, ← e0, ← e1, ← e2, ← e3, ← e4, ← e5, ← e6, ← e7]; rfl
  rw [hR]
  clear hR
  cases b0
  · obtain rfl : R = false := by simpa using hM
    clear hM
    go_enter Tryz.func76, Tryz.ntmps76
    go_upto_region 1 with fail
    refine region_seq ?_
    repeat (go_big_quiet_step ((first | (go_at_call 43; exact quiet_call (by simp) (is_at (by assumption) _)) | (go_at_call 95; exact quiet_call (by simp) (count_at (by assumption) _)))))
    refine wpQuiet_nil ?_
    intro w1 hb1
    have HB := Lib.hid (bthen (below_allocS (Below.refl _ _) _) hb1)
    clear hb1
    go_wp2
    go_ret
    exact ⟨by first | rfl | simp [*], HB.out⟩
  · cases b1
    · obtain rfl : R = false := by simpa using hM
      clear hM
      go_enter Tryz.func76, Tryz.ntmps76
      go_upto_region 1 with fail
      refine region_seq ?_
      repeat (go_big_quiet_step ((first | (go_at_call 43; exact quiet_call (by simp) (is_at (by assumption) _)) | (go_at_call 95; exact quiet_call (by simp) (count_at (by assumption) _)))))
      refine wpQuiet_nil ?_
      intro w1 hb1
      have HB := Lib.hid (bthen (below_allocS (Below.refl _ _) _) hb1)
      clear hb1
      go_wp2
      go_ret
      exact ⟨by first | rfl | simp [*], HB.out⟩
    · cases b2
      · obtain rfl : R = false := by simpa using hM
        clear hM
        go_enter Tryz.func76, Tryz.ntmps76
        go_upto_region 1 with fail
        refine region_seq ?_
        repeat (go_big_quiet_step ((first | (go_at_call 43; exact quiet_call (by simp) (is_at (by assumption) _)) | (go_at_call 95; exact quiet_call (by simp) (count_at (by assumption) _)))))
        refine wpQuiet_nil ?_
        intro w1 hb1
        have HB := Lib.hid (bthen (below_allocS (Below.refl _ _) _) hb1)
        clear hb1
        go_wp2
        go_ret
        exact ⟨by first | rfl | simp [*], HB.out⟩
      · cases b3
        · obtain rfl : R = false := by simpa using hM
          clear hM
          go_enter Tryz.func76, Tryz.ntmps76
          go_upto_region 1 with fail
          refine region_seq ?_
          repeat (go_big_quiet_step ((first | (go_at_call 43; exact quiet_call (by simp) (is_at (by assumption) _)) | (go_at_call 95; exact quiet_call (by simp) (count_at (by assumption) _)))))
          refine wpQuiet_nil ?_
          intro w1 hb1
          have HB := Lib.hid (bthen (below_allocS (Below.refl _ _) _) hb1)
          clear hb1
          go_wp2
          go_ret
          exact ⟨by first | rfl | simp [*], HB.out⟩
        · cases b4
          · obtain rfl : R = false := by simpa using hM
            clear hM
            go_enter Tryz.func76, Tryz.ntmps76
            go_upto_region 1 with fail
            refine region_seq ?_
            repeat (go_big_quiet_step ((first | (go_at_call 43; exact quiet_call (by simp) (is_at (by assumption) _)) | (go_at_call 95; exact quiet_call (by simp) (count_at (by assumption) _)))))
            refine wpQuiet_nil ?_
            intro w1 hb1
            have HB := Lib.hid (bthen (below_allocS (Below.refl _ _) _) hb1)
            clear hb1
            go_wp2
            go_ret
            exact ⟨by first | rfl | simp [*], HB.out⟩
          · cases b5
            · obtain rfl : R = false := by simpa using hM
              clear hM
              go_enter Tryz.func76, Tryz.ntmps76
              go_upto_region 1 with fail
              refine region_seq ?_
              repeat (go_big_quiet_step ((first | (go_at_call 43; exact quiet_call (by simp) (is_at (by assumption) _)) | (go_at_call 95; exact quiet_call (by simp) (count_at (by assumption) _)))))
              refine wpQuiet_nil ?_
              intro w1 hb1
              have HB := Lib.hid (bthen (below_allocS (Below.refl _ _) _) hb1)
              clear hb1
              go_wp2
              go_ret
              exact ⟨by first | rfl | simp [*], HB.out⟩
            · cases b6
              · obtain rfl : R = false := by simpa using hM
                clear hM
                go_enter Tryz.func76, Tryz.ntmps76
                go_upto_region 1 with fail
                refine region_seq ?_
                repeat (go_big_quiet_step ((first | (go_at_call 43; exact quiet_call (by simp) (is_at (by assumption) _)) | (go_at_call 95; exact quiet_call (by simp) (count_at (by assumption) _)))))
                refine wpQuiet_nil ?_
                intro w1 hb1
                have HB := Lib.hid (bthen (below_allocS (Below.refl _ _) _) hb1)
                clear hb1
                go_wp2
                go_ret
                exact ⟨by first | rfl | simp [*], HB.out⟩
              · obtain rfl : R = b7 := by simpa using hM
                clear hM
                go_enter Tryz.func76, Tryz.ntmps76
                go_upto_region 1 with fail
                refine region_seq ?_
                repeat (go_big_quiet_step ((first | (go_at_call 43; exact quiet_call (by simp) (is_at (by assumption) _)) | (go_at_call 95; exact quiet_call (by simp) (count_at (by assumption) _)))))
                refine wpQuiet_nil ?_
                intro w1 hb1
                have HB := Lib.hid (bthen (below_allocS (Below.refl _ _) _) hb1)
                clear hb1
                go_wp2
                go_ret
                exact ⟨by first | rfl | simp [*], HB.out⟩
set_option maxHeartbeats 2000000 in
theorem lockRight_any (h : Nat → Int) (w : World) : Calls Tryz.prog 57 #[.agg (ints 4 h)] w fun e w' => e = .returned (.bool (lockB h)) ∧ Below w.heap.size w w' := by
  obtain ⟨R, hR⟩ : ∃ R, (lockB h) = R := ⟨_, rfl⟩
  obtain ⟨b0, e0⟩ : ∃ b, cntB (h 0) = b := ⟨_, rfl⟩
  obtain ⟨b1, e1⟩ : ∃ b, cntB (h 1) = b := ⟨_, rfl⟩
  obtain ⟨b2, e2⟩ : ∃ b, inK (h 2) = b := ⟨_, rfl⟩
  obtain ⟨b3, e3⟩ : ∃ b, isB (h 3) = b := ⟨_, rfl⟩
  have hM : R = (b0 && b1 && b2 && b3) := by rw [← hR, ← e0, ← e1, ← e2, ← e3]; rfl
  rw [hR]
  clear hR
  cases b0
  · obtain rfl : R = false := by simpa using hM
    clear hM
    go_enter Tryz.func57, Tryz.ntmps57
    go_upto_region 2 with fail
    refine region_seq ?_
    repeat (go_big_quiet_step ((first | (go_at_call 43; exact quiet_call (by simp) (is_at (by assumption) _)) | (go_at_call 79; exact quiet_call (by simp) (lockis_at (by assumption) _)) | (go_at_call 78; exact quiet_call (by simp) (lcount_at (by assumption) _)))))
    refine wpQuiet_nil ?_
    intro w1 hb1
    have HB := Lib.hid (bthen (below_allocS (Below.refl _ _) _) hb1)
    clear hb1
    go_wp2
    go_ret
    exact ⟨by first | rfl | simp [*], HB.out⟩
  · cases b1
    · obtain rfl : R = false := by simpa using hM
      clear hM
      go_enter Tryz.func57, Tryz.ntmps57
      go_upto_region 2 with fail
      refine region_seq ?_
      repeat (go_big_quiet_step ((first | (go_at_call 43; exact quiet_call (by simp) (is_at (by assumption) _)) | (go_at_call 79; exact quiet_call (by simp) (lockis_at (by assumption) _)) | (go_at_call 78; exact quiet_call (by simp) (lcount_at (by assumption) _)))))
      refine wpQuiet_nil ?_
      intro w1 hb1
      have HB := Lib.hid (bthen (below_allocS (Below.refl _ _) _) hb1)
      clear hb1
      go_wp2
      go_ret
      exact ⟨by first | rfl | simp [*], HB.out⟩
    · cases b2
      · obtain rfl : R = false := by simpa using hM
        clear hM
        go_enter Tryz.func57, Tryz.ntmps57
        go_upto_region 2 with fail
        refine region_seq ?_
        repeat (go_big_quiet_step ((first | (go_at_call 43; exact quiet_call (by simp) (is_at (by assumption) _)) | (go_at_call 79; exact quiet_call (by simp) (lockis_at (by assumption) _)) | (go_at_call 78; exact quiet_call (by simp) (lcount_at (by assumption) _)))))
        refine wpQuiet_nil ?_
        intro w1 hb1
        have HB := Lib.hid (bthen (below_allocS (Below.refl _ _) _) hb1)
        clear hb1
        go_wp2
        go_ret
        exact ⟨by first | rfl | simp [*], HB.out⟩
      · obtain rfl : R = b3 := by simpa using hM
        clear hM
        go_enter Tryz.func57, Tryz.ntmps57
        go_upto_region 2 with fail
        refine region_seq ?_
        repeat (go_big_quiet_step ((first | (go_at_call 43; exact quiet_call (by simp) (is_at (by assumption) _)) | (go_at_call 79; exact quiet_call (by simp) (lockis_at (by assumption) _)) | (go_at_call 78; exact quiet_call (by simp) (lcount_at (by assumption) _)))))
        refine wpQuiet_nil ?_
        intro w1 hb1
        have HB := Lib.hid (bthen (below_allocS (Below.refl _ _) _) hb1)
        clear hb1
        go_wp2
        go_ret
        exact ⟨by first | rfl | simp [*], HB.out⟩
theorem holdB_ref (h : Nat → Int) : holdB h = (decide (0 ≤ h 0) && decide (h 0 ≤ 15) && decide (0 < h 1) && cntB (h 1) && cntB (h 2) && cntB (h 3) && decide (1 ≤ h 4) && decide (h 4 ≤ 3)) := by
  rw [Bool.eq_iff_iff]
  simp only [holdB, cntB, Bool.and_eq_true, decide_eq_true_eq]
  constructor
  · rintro ⟨⟨⟨⟨⟨⟨⟨h1, h2⟩, h3⟩, h4⟩, h5⟩, h6⟩, h7⟩, h8⟩
    exact ⟨⟨⟨⟨⟨⟨⟨h1, by omega⟩, by omega⟩, by omega, h4⟩, h5⟩, h6⟩, h7⟩, h8⟩
  · rintro ⟨⟨⟨⟨⟨⟨⟨h1, h2⟩, h3⟩, h9, h4⟩, h5⟩, h6⟩, h7⟩, h8⟩
    exact ⟨⟨⟨⟨⟨⟨⟨h1, by omega⟩, by omega⟩, h4⟩, h5⟩, h6⟩, h7⟩, h8⟩
theorem lockB_ref (h : Nat → Int) : lockB h = (decide (0 ≤ h 0) && isB (h 0) && decide (0 ≤ h 1) && isB (h 1) && decide (0 ≤ h 2) && decide (h 2 ≤ 15) && isB (h 3)) := by
  rw [Bool.eq_iff_iff]
  simp only [lockB, cntB, inK, Bool.and_eq_true, decide_eq_true_eq]
  constructor
  · rintro ⟨⟨⟨⟨h1, h2⟩, h3, h4⟩, h5, h6⟩, h7⟩
    exact ⟨⟨⟨⟨⟨⟨h1, h2⟩, h3⟩, h4⟩, h5⟩, by omega⟩, h7⟩
  · rintro ⟨⟨⟨⟨⟨⟨h1, h2⟩, h3⟩, h4⟩, h5⟩, h6⟩, h7⟩
    exact ⟨⟨⟨⟨h1, h2⟩, h3, h4⟩, h5, by omega⟩, h7⟩
set_option maxHeartbeats 2000000 in
theorem rholdRight_any (h : Nat → Int) (w : World) : Calls Tryz.prog 61 #[.agg (ints 5 h)] w fun e w' => e = .returned (.bool (holdB h)) ∧ Below w.heap.size w w' := by
  obtain ⟨R, hR⟩ : ∃ R, (holdB h) = R := ⟨_, rfl⟩
  obtain ⟨b0, e0⟩ : ∃ b, decide (0 ≤ h 0) = b := ⟨_, rfl⟩
  obtain ⟨b1, e1⟩ : ∃ b, decide (h 0 ≤ 15) = b := ⟨_, rfl⟩
  obtain ⟨b2, e2⟩ : ∃ b, decide (0 < h 1) = b := ⟨_, rfl⟩
  obtain ⟨b3, e3⟩ : ∃ b, cntB (h 1) = b := ⟨_, rfl⟩
  obtain ⟨b4, e4⟩ : ∃ b, cntB (h 2) = b := ⟨_, rfl⟩
  obtain ⟨b5, e5⟩ : ∃ b, cntB (h 3) = b := ⟨_, rfl⟩
  obtain ⟨b6, e6⟩ : ∃ b, decide (1 ≤ h 4) = b := ⟨_, rfl⟩
  obtain ⟨b7, e7⟩ : ∃ b, decide (h 4 ≤ 3) = b := ⟨_, rfl⟩
  have hM : R = (b0 && b1 && b2 && b3 && b4 && b5 && b6 && b7) := by rw [← hR, ← e0, ← e1, ← e2, ← e3, ← e4, ← e5, ← e6, ← e7]; exact holdB_ref h
  rw [hR]
  clear hR
  cases b0
  · obtain rfl : R = false := by simpa using hM
    clear hM
    go_enter Tryz.func61, Tryz.ntmps61
    go_upto_region 1 with fail
    refine region_seq ?_
    repeat (go_big_quiet_step ((first | (go_at_call 82; exact quiet_call (by simp) (rcounts_at (by assumption) _)))))
    refine wpQuiet_nil ?_
    intro w1 hb1
    have HB := Lib.hid (bthen (below_allocS (Below.refl _ _) _) hb1)
    clear hb1
    go_wp2
    go_ret
    exact ⟨by first | rfl | simp [*], HB.out⟩
  · cases b1
    · obtain rfl : R = false := by simpa using hM
      clear hM
      go_enter Tryz.func61, Tryz.ntmps61
      go_upto_region 1 with fail
      refine region_seq ?_
      repeat (go_big_quiet_step ((first | (go_at_call 82; exact quiet_call (by simp) (rcounts_at (by assumption) _)))))
      refine wpQuiet_nil ?_
      intro w1 hb1
      have HB := Lib.hid (bthen (below_allocS (Below.refl _ _) _) hb1)
      clear hb1
      go_wp2
      go_ret
      exact ⟨by first | rfl | simp [*], HB.out⟩
    · cases b2
      · obtain rfl : R = false := by simpa using hM
        clear hM
        go_enter Tryz.func61, Tryz.ntmps61
        go_upto_region 1 with fail
        refine region_seq ?_
        repeat (go_big_quiet_step ((first | (go_at_call 82; exact quiet_call (by simp) (rcounts_at (by assumption) _)))))
        refine wpQuiet_nil ?_
        intro w1 hb1
        have HB := Lib.hid (bthen (below_allocS (Below.refl _ _) _) hb1)
        clear hb1
        go_wp2
        go_ret
        exact ⟨by first | rfl | simp [*], HB.out⟩
      · cases b3
        · obtain rfl : R = false := by simpa using hM
          clear hM
          go_enter Tryz.func61, Tryz.ntmps61
          go_upto_region 1 with fail
          refine region_seq ?_
          repeat (go_big_quiet_step ((first | (go_at_call 82; exact quiet_call (by simp) (rcounts_at (by assumption) _)))))
          refine wpQuiet_nil ?_
          intro w1 hb1
          have HB := Lib.hid (bthen (below_allocS (Below.refl _ _) _) hb1)
          clear hb1
          go_wp2
          go_ret
          exact ⟨by first | rfl | simp [*], HB.out⟩
        · cases b4
          · obtain rfl : R = false := by simpa using hM
            clear hM
            go_enter Tryz.func61, Tryz.ntmps61
            go_upto_region 1 with fail
            refine region_seq ?_
            repeat (go_big_quiet_step ((first | (go_at_call 82; exact quiet_call (by simp) (rcounts_at (by assumption) _)))))
            refine wpQuiet_nil ?_
            intro w1 hb1
            have HB := Lib.hid (bthen (below_allocS (Below.refl _ _) _) hb1)
            clear hb1
            go_wp2
            go_ret
            exact ⟨by first | rfl | simp [*], HB.out⟩
          · cases b5
            · obtain rfl : R = false := by simpa using hM
              clear hM
              go_enter Tryz.func61, Tryz.ntmps61
              go_upto_region 1 with fail
              refine region_seq ?_
              repeat (go_big_quiet_step ((first | (go_at_call 82; exact quiet_call (by simp) (rcounts_at (by assumption) _)))))
              refine wpQuiet_nil ?_
              intro w1 hb1
              have HB := Lib.hid (bthen (below_allocS (Below.refl _ _) _) hb1)
              clear hb1
              go_wp2
              go_ret
              exact ⟨by first | rfl | simp [*], HB.out⟩
            · cases b6
              · obtain rfl : R = false := by simpa using hM
                clear hM
                go_enter Tryz.func61, Tryz.ntmps61
                go_upto_region 1 with fail
                refine region_seq ?_
                repeat (go_big_quiet_step ((first | (go_at_call 82; exact quiet_call (by simp) (rcounts_at (by assumption) _)))))
                refine wpQuiet_nil ?_
                intro w1 hb1
                have HB := Lib.hid (bthen (below_allocS (Below.refl _ _) _) hb1)
                clear hb1
                go_wp2
                go_ret
                exact ⟨by first | rfl | simp [*], HB.out⟩
              · obtain rfl : R = b7 := by simpa using hM
                clear hM
                go_enter Tryz.func61, Tryz.ntmps61
                go_upto_region 1 with fail
                refine region_seq ?_
                repeat (go_big_quiet_step ((first | (go_at_call 82; exact quiet_call (by simp) (rcounts_at (by assumption) _)))))
                refine wpQuiet_nil ?_
                intro w1 hb1
                have HB := Lib.hid (bthen (below_allocS (Below.refl _ _) _) hb1)
                clear hb1
                go_wp2
                go_ret
                exact ⟨by first | rfl | simp [*], HB.out⟩
set_option maxHeartbeats 2000000 in
theorem rlockRight_any (h : Nat → Int) (w : World) : Calls Tryz.prog 39 #[.agg (ints 4 h)] w fun e w' => e = .returned (.bool (lockB h)) ∧ Below w.heap.size w w' := by
  obtain ⟨R, hR⟩ : ∃ R, (lockB h) = R := ⟨_, rfl⟩
  obtain ⟨b0, e0⟩ : ∃ b, decide (0 ≤ h 0) = b := ⟨_, rfl⟩
  obtain ⟨b1, e1⟩ : ∃ b, isB (h 0) = b := ⟨_, rfl⟩
  obtain ⟨b2, e2⟩ : ∃ b, decide (0 ≤ h 1) = b := ⟨_, rfl⟩
  obtain ⟨b3, e3⟩ : ∃ b, isB (h 1) = b := ⟨_, rfl⟩
  obtain ⟨b4, e4⟩ : ∃ b, decide (0 ≤ h 2) = b := ⟨_, rfl⟩
  obtain ⟨b5, e5⟩ : ∃ b, decide (h 2 ≤ 15) = b := ⟨_, rfl⟩
  obtain ⟨b6, e6⟩ : ∃ b, isB (h 3) = b := ⟨_, rfl⟩
  have hM : R = (b0 && b1 && b2 && b3 && b4 && b5 && b6) := by rw [← hR, ← e0, ← e1, ← e2, ← e3, ← e4, ← e5, ← e6]; exact lockB_ref h
  rw [hR]
  clear hR
  cases b0
  · obtain rfl : R = false := by simpa using hM
    clear hM
    go_enter Tryz.func39, Tryz.ntmps39
    go_upto_region 1 with fail
    refine region_seq ?_
    repeat (go_big_quiet_step ((first | (go_at_call 36; exact quiet_call (by simp) (ris_at (by assumption) _)))))
    refine wpQuiet_nil ?_
    intro w1 hb1
    have HB := Lib.hid (bthen (below_allocS (Below.refl _ _) _) hb1)
    clear hb1
    go_wp2
    go_ret
    exact ⟨by first | rfl | simp [*], HB.out⟩
  · cases b1
    · obtain rfl : R = false := by simpa using hM
      clear hM
      go_enter Tryz.func39, Tryz.ntmps39
      go_upto_region 1 with fail
      refine region_seq ?_
      repeat (go_big_quiet_step ((first | (go_at_call 36; exact quiet_call (by simp) (ris_at (by assumption) _)))))
      refine wpQuiet_nil ?_
      intro w1 hb1
      have HB := Lib.hid (bthen (below_allocS (Below.refl _ _) _) hb1)
      clear hb1
      go_wp2
      go_ret
      exact ⟨by first | rfl | simp [*], HB.out⟩
    · cases b2
      · obtain rfl : R = false := by simpa using hM
        clear hM
        go_enter Tryz.func39, Tryz.ntmps39
        go_upto_region 1 with fail
        refine region_seq ?_
        repeat (go_big_quiet_step ((first | (go_at_call 36; exact quiet_call (by simp) (ris_at (by assumption) _)))))
        refine wpQuiet_nil ?_
        intro w1 hb1
        have HB := Lib.hid (bthen (below_allocS (Below.refl _ _) _) hb1)
        clear hb1
        go_wp2
        go_ret
        exact ⟨by first | rfl | simp [*], HB.out⟩
      · cases b3
        · obtain rfl : R = false := by simpa using hM
          clear hM
          go_enter Tryz.func39, Tryz.ntmps39
          go_upto_region 1 with fail
          refine region_seq ?_
          repeat (go_big_quiet_step ((first | (go_at_call 36; exact quiet_call (by simp) (ris_at (by assumption) _)))))
          refine wpQuiet_nil ?_
          intro w1 hb1
          have HB := Lib.hid (bthen (below_allocS (Below.refl _ _) _) hb1)
          clear hb1
          go_wp2
          go_ret
          exact ⟨by first | rfl | simp [*], HB.out⟩
        · cases b4
          · obtain rfl : R = false := by simpa using hM
            clear hM
            go_enter Tryz.func39, Tryz.ntmps39
            go_upto_region 1 with fail
            refine region_seq ?_
            repeat (go_big_quiet_step ((first | (go_at_call 36; exact quiet_call (by simp) (ris_at (by assumption) _)))))
            refine wpQuiet_nil ?_
            intro w1 hb1
            have HB := Lib.hid (bthen (below_allocS (Below.refl _ _) _) hb1)
            clear hb1
            go_wp2
            go_ret
            exact ⟨by first | rfl | simp [*], HB.out⟩
          · cases b5
            · obtain rfl : R = false := by simpa using hM
              clear hM
              go_enter Tryz.func39, Tryz.ntmps39
              go_upto_region 1 with fail
              refine region_seq ?_
              repeat (go_big_quiet_step ((first | (go_at_call 36; exact quiet_call (by simp) (ris_at (by assumption) _)))))
              refine wpQuiet_nil ?_
              intro w1 hb1
              have HB := Lib.hid (bthen (below_allocS (Below.refl _ _) _) hb1)
              clear hb1
              go_wp2
              go_ret
              exact ⟨by first | rfl | simp [*], HB.out⟩
            · obtain rfl : R = b6 := by simpa using hM
              clear hM
              go_enter Tryz.func39, Tryz.ntmps39
              go_upto_region 1 with fail
              refine region_seq ?_
              repeat (go_big_quiet_step ((first | (go_at_call 36; exact quiet_call (by simp) (ris_at (by assumption) _)))))
              refine wpQuiet_nil ?_
              intro w1 hb1
              have HB := Lib.hid (bthen (below_allocS (Below.refl _ _) _) hb1)
              clear hb1
              go_wp2
              go_ret
              exact ⟨by first | rfl | simp [*], HB.out⟩
end Go.Proofs.YtinhaipnmmgplaaGreat

/-
  Layer 6 (hold): whether holds may be; the reference's.
-/
namespace Go.Proofs.YtinhaipnmmgplaaGreat
set_option maxRecDepth 20000
open Go.RowKit
set_option linter.unusedSimpArgs false
section
variable (ρ : Operand → Value) (d : Option Tmp) (T : TypeId) (p : String) (af : Array Edge) (gd : Option (Nat × Bool)) (x y z : Operand) (w : World)
theorem xstore_hold : (execOp ρ ⟨d, .store 87 x y, T, p, af, gd⟩).run Tryz.prog w = storeAgg Tryz.prog w 87 (ρ x) (ρ y) := rfl
theorem xload_hold : (execOp ρ ⟨d, .load 87 x, T, p, af, gd⟩).run Tryz.prog w = loadAgg Tryz.prog w 87 (ρ x) := rfl
theorem xalloc_hold : (execOp ρ ⟨d, .alloc 87, T, p, af, gd⟩).run Tryz.prog w = .ok (.value (.pointer (some ⟨w.heap.size, 0, none⟩))) (w.alloc (.cells (ints 5 fun _ => 0) 87)) :=
  (exec_alloc ..).trans (allocAgg_ok (by kernel_rfl))
end
theorem load_hold (w : World) (g : Nat) (h : (rowAt w g).isSome = true) (hn : 0 + 5 ≤ (rowCells w g).size) :
    loadAgg Tryz.prog w 87 (.pointer (some ⟨g, 0, none⟩)) = .ok (.value (.agg (cut (rowCells w g) 0 5))) w := loadAgg_row Tryz.underlying87 rfl (by kernel_rfl) h hn
theorem load_hold_later {B : Nat} {w : World} (x : Later B w) (g : Nat) (hg : g < B) :
    loadAgg Tryz.prog x.wd 87 (.pointer (some ⟨g, 0, none⟩)) = if (rowAt w g).isSome = true ∧ 0 + 5 ≤ (rowCells w g).size then .ok (.value (.agg (cut (rowCells w g) 0 5))) x.wd else stuckLoad Tryz.prog x.wd 87 g 0 :=
  loadAgg_later x Tryz.underlying87 rfl (by kernel_rfl) hg
theorem store_hold (w : World) (g : Nat) (f : Nat → Int) (h : (rowAt w g).isSome = true) (hn : 0 + 5 ≤ (rowCells w g).size) :
    storeAgg Tryz.prog w 87 (.pointer (some ⟨g, 0, none⟩)) (.agg (ints 5 f)) = .ok .skip (w.setRow g (splice (rowCells w g) 0 (ints 5 f))) :=
  storeAgg_row (by rw [size_ints]; kernel_rfl) (one_ints _ _) h (by rw [size_ints]; exact hn)
theorem IntsIs.load {w : World} {A : Option Addr} {n : Nat} {f : Nat → Int} (h : IntsIs w A (5 * n) f) {i : Nat} (hi : i < n) :
    ∃ b o, A = some ⟨b, o, none⟩ ∧ ∀ w', Below w.heap.size w w' → loadAgg Tryz.prog w' 87 (.pointer (some ⟨b, o + i * 5, none⟩)) = .ok (.value (.agg (ints 5 (sub (5 * i) f)))) w' := by
  obtain ⟨b, o, h1, _⟩ := h (5 * i) (by omega)
  refine ⟨b, o, h1, fun w' hb => load_cellsAt Tryz.underlying87 rfl (by kernel_rfl) (size_ints _ _) fun j hj => ?_⟩
  obtain ⟨b2, o2, h2, h3⟩ := h (5 * i + j) (by omega)
  rw [h1] at h2
  injection h2 with h2
  injection h2 with h4 h5
  subst h4 h5
  rw [get_ints 5 _ j hj, show o + i * 5 + j = o + (5 * i + j) by omega]
  exact (hb.cell (p := ⟨b, o + (5 * i + j), none⟩) (World.block_lt_of_cell? _ _ h3)).trans h3
attribute [local go_sem] rowCells rowAt_drewN get_ints getE_ints set_ints size_ints rowAt_alloc rowAt_drew setRow_alloc setRow_drewN setRow_drew setCell_alloc setCell_drewN splice_upd splice_put splice_all load_vec_cut load_vecs_cut load_rights_cut load_counter store_vec store_rights store_counter eql_vec neq_vec index_vec eql_rights neq_rights eql_counter index_vecs cut_ints sub_zero
attribute [local go_sem ↓] xload_vec xstore_vec xalloc_vec xeql_vec xneq_vec xindex_vec xbuild_vec0 xload_rights xstore_rights xalloc_rights xeql_rights xneq_rights xbuild_rights0 xload_vecs xindex_vecs xload_counter xstore_counter xalloc_counter xbuild_counter0 xeql_counter xbuild_counter3
attribute [local go_sem] rowAt_setRow rowAt_setCell load_vec_cut_later load_rights_later load_counter_later Later.cell Later.frozen build3_ints
attribute [local go_sem ↓] xload_field xstore_field xalloc_field xload_lock
attribute [local go_sem] load_field load_field_later store_field load_counter_cut load_lock_cut load_lock_later Fld.size Fld.get0 Fld.get1 Fld.get2 Fld.get586 Fld.getE0 Fld.getE1 Fld.getE2 Fld.getE586 Fld.cut_cnt Fld.cut_lock Fld.cut_all Fld.splice_all strT_size
attribute [local go_sem ↓] xload_hold xstore_hold xalloc_hold
attribute [local go_sem] load_hold load_hold_later store_hold
def aheadB (a b : Nat → Int) : Bool := decide (a 0 < b 0) || (decide (a 0 = b 0) && decide (a 1 < b 1))
def cmpN (a b : Nat → Int) : Int := if a 0 = b 0 then (if a 1 = b 1 then 0 else if a 1 < b 1 then -1 else 1) else if a 0 < b 0 then -1 else 1
theorem cmp_ahead (a b : Nat → Int) : decide (0 ≤ cmpN a b) = !aheadB a b := by
  unfold cmpN aheadB
  by_cases h1 : a 0 = b 0
  · by_cases h2 : a 1 = b 1
    · simp [h1, h2]
    · by_cases h3 : a 1 < b 1 <;> simp [h1, h2, h3]
  · by_cases h3 : a 0 < b 0 <;> simp [h1, h3]
set_option maxHeartbeats 1000000 in
theorem rahead_any (a b : Nat → Int) (w : World) : Calls Tryz.prog 62 #[.agg (ints 5 a), .agg (ints 5 b)] w fun e w' => e = .returned (.bool (aheadB a b)) ∧ Below w.heap.size w w' := by
  have H : (a 0 < b 0 ∧ aheadB a b = true) ∨ (¬ a 0 < b 0 ∧ ¬ a 0 = b 0 ∧ aheadB a b = false) ∨ (¬ a 0 < b 0 ∧ a 0 = b 0 ∧ aheadB a b = decide (a 1 < b 1)) := by
    unfold aheadB
    by_cases h1 : a 0 < b 0 <;> by_cases h2 : a 0 = b 0 <;> simp [h1, h2]
  rcases H with ⟨h1, hR⟩ | ⟨h1, h2, hR⟩ | ⟨h1, h2, hR⟩ <;> rw [hR] <;> clear hR <;> (
    go_enter Tryz.func62, Tryz.ntmps62
    go_wp2_with fail
    go_ret
    exact ⟨by first | rfl | simp [*], below_allocS (below_allocS (Below.refl _ _) _) _⟩)
section
variable (ρ : Operand → Value) (d : Option Tmp) (T : TypeId) (p : String) (af : Array Edge) (gd : Option (Nat × Bool)) (x y : Operand) (w : World)
theorem xindex_pairs : (execOp ρ ⟨d, .index 141 x y, T, p, af, gd⟩).run Tryz.prog w = indexAgg Tryz.prog w 141 (ρ x) (ρ y) := exec_index ..
end
theorem pairs0 (w : World) (a b c d : Int) : indexAgg Tryz.prog w 141 (.agg #[.int .i64 a, .int .i64 b, .int .i64 c, .int .i64 d]) (.int .i64 0) = .ok (.value (.agg #[.int .i64 a, .int .i64 b])) w := by kernel_rfl
theorem pairs1 (w : World) (a b c d : Int) : indexAgg Tryz.prog w 141 (.agg #[.int .i64 a, .int .i64 b, .int .i64 c, .int .i64 d]) (.int .i64 1) = .ok (.value (.agg #[.int .i64 c, .int .i64 d])) w := by kernel_rfl
attribute [local go_sem ↓] xindex_pairs
attribute [local go_sem] pairs0 pairs1
set_option maxHeartbeats 1000000 in
theorem compare_any (a b : Nat → Int) (w : World) : Calls Tryz.prog 77 #[.agg (ints 5 a), .agg (ints 5 b)] w fun e w' => e = .returned (.int .i64 (cmpN a b)) ∧ Below w.heap.size w w' := by
  go_enter Tryz.func77, Tryz.ntmps77
  go_wp2_with fail
  go_loopw [18] (fun i w' => ∃ k : Nat, k ≤ 2 ∧ i = .int .i64 k ∧ (1 ≤ k → a 0 = b 0) ∧ (2 ≤ k → a 1 = b 1) ∧ Below w.heap.size w w') (fun i _ => 2 - (intOf i).toNat)
  case atStart => exact ⟨0, by omega, rfl, fun h => absurd h (by decide), fun h => absurd h (by decide), below_allocS (below_allocS (Below.refl _ _) _) _⟩
  case round =>
    rename_i wr
    obtain ⟨k, hk, rfl, ha, hb, hbl⟩ := hrel
    have HB := Lib.hid hbl
    clear hbl
    have hk2 : k = 0 ∨ k = 1 ∨ k = 2 := by omega
    clear hk
    rcases hk2 with rfl | rfl | rfl
    · clear ha hb
      have hcmp : ∀ {r : Int}, ¬ a 0 = b 0 → (a 0 < b 0 ∧ r = -1) ∨ (¬ a 0 < b 0 ∧ r = 1) → cmpN a b = r := by
        intro r h1 h2
        unfold cmpN
        rw [if_neg h1]
        rcases h2 with ⟨h3, rfl⟩ | ⟨h3, rfl⟩
        · rw [if_pos h3]
        · rw [if_neg h3]
      have hcmp := fun r => Lib.hid (@hcmp r)
      by_cases g0 : a 0 = b 0
      · clear hcmp
        go_wp2_with fail
        go_roundw
        case rel => exact ⟨1, by omega, by go_num, fun _ => g0, fun h => absurd h (by decide), below_allocS HB.out _⟩
        case measure => simp [intOf]
      · by_cases g1 : a 0 < b 0
        · have HN : Hid (cmpN a b = -1) := Lib.hid ((hcmp _).out g0 (Or.inl ⟨g1, rfl⟩))
          clear hcmp
          go_wp2_with fail
          go_ret
          exact ⟨by rw [HN.out]; rfl, below_allocS HB.out _⟩
        · have HN : Hid (cmpN a b = 1) := Lib.hid ((hcmp _).out g0 (Or.inr ⟨g1, rfl⟩))
          clear hcmp
          go_wp2_with fail
          go_ret
          exact ⟨by rw [HN.out]; rfl, below_allocS HB.out _⟩
    · have ha := ha (Nat.le_refl _)
      clear hb
      have hcmp : ∀ {r : Int}, ¬ a 1 = b 1 → (a 1 < b 1 ∧ r = -1) ∨ (¬ a 1 < b 1 ∧ r = 1) → cmpN a b = r := by
        intro r h1 h2
        unfold cmpN
        rw [if_pos ha, if_neg h1]
        rcases h2 with ⟨h3, rfl⟩ | ⟨h3, rfl⟩
        · rw [if_pos h3]
        · rw [if_neg h3]
      have hcmp := fun r => Lib.hid (@hcmp r)
      by_cases g0 : a 1 = b 1
      · clear hcmp
        go_wp2_with fail
        go_roundw
        case rel => exact ⟨2, by omega, by go_num, fun _ => ha, fun _ => g0, below_allocS HB.out _⟩
        case measure => simp [intOf]
      · by_cases g1 : a 1 < b 1
        · have HN : Hid (cmpN a b = -1) := Lib.hid ((hcmp _).out g0 (Or.inl ⟨g1, rfl⟩))
          clear hcmp
          go_wp2_with fail
          go_ret
          exact ⟨by rw [HN.out]; rfl, below_allocS HB.out _⟩
        · have HN : Hid (cmpN a b = 1) := Lib.hid ((hcmp _).out g0 (Or.inr ⟨g1, rfl⟩))
          clear hcmp
          go_wp2_with fail
          go_ret
          exact ⟨by rw [HN.out]; rfl, below_allocS HB.out _⟩
    · have HN : Hid (cmpN a b = 0) := Lib.hid (by unfold cmpN; rw [if_pos (ha (by decide)), if_pos (hb (by decide))])
      clear ha hb
      go_wp2_with fail
      go_ret
      exact ⟨by rw [HN.out]; rfl, HB.out⟩
end Go.Proofs.YtinhaipnmmgplaaGreat
