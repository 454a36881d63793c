/-
  Layer 6 (hold): whether holds may be; the reference's.
-/
import Derived.Test.YtinhaipnmmgplaaGreatZGI
namespace Go.Proofs.YtinhaipnmmgplaaGreat
set_option maxRecDepth 20000
open Go.RowKit
set_option linter.unusedSimpArgs false
attribute [local go_sem] rowCells rowAt_drewN get_ints getE_ints set_ints size_ints rowAt_alloc rowAt_drew setRow_alloc setRow_drewN setRow_drew setCell_alloc setCell_drewN splice_upd splice_put splice_all load_vec_cut load_vecs_cut load_rights_cut load_counter store_vec store_rights store_counter eql_vec neq_vec index_vec eql_rights neq_rights eql_counter index_vecs cut_ints sub_zero
attribute [local go_sem ↓] xload_vec xstore_vec xalloc_vec xeql_vec xneq_vec xindex_vec xbuild_vec0 xload_rights xstore_rights xalloc_rights xeql_rights xneq_rights xbuild_rights0 xload_vecs xindex_vecs xload_counter xstore_counter xalloc_counter xbuild_counter0 xeql_counter xbuild_counter3
attribute [local go_sem] rowAt_setRow rowAt_setCell load_vec_cut_later load_rights_later load_counter_later Later.cell Later.frozen build3_ints
attribute [local go_sem ↓] xload_field xstore_field xalloc_field xload_lock
attribute [local go_sem] load_field load_field_later store_field load_counter_cut load_lock_cut load_lock_later Fld.size Fld.get0 Fld.get1 Fld.get2 Fld.get586 Fld.getE0 Fld.getE1 Fld.getE2 Fld.getE586 Fld.cut_cnt Fld.cut_lock Fld.cut_all Fld.splice_all strT_size
attribute [local go_sem ↓] xload_hold xstore_hold xalloc_hold
attribute [local go_sem] load_hold load_hold_later store_hold
/-- The hold at i may be, and goes behind the one ahead of it. -/
def holdAt (f : Nat → Int) : Nat → Bool
  | 0 => holdB f
  | i + 1 => holdB (sub (5 * (i + 1)) f) && aheadB (sub (5 * i) f) (sub (5 * (i + 1)) f)
def holdsB (n : Nat) (f : Nat → Int) : Bool := (List.range n).all (holdAt f) && decide (n ≤ 16)
theorem holds_no {n : Nat} {f : Nat → Int} {i : Nat} (hi : i < n) (h : holdAt f i = false) : holdsB n f = false := by
  have : (List.range n).all (holdAt f) = false := by
    rw [List.all_eq_false]
    exact ⟨i, List.mem_range.2 hi, by simp [h]⟩
  simp [holdsB, this]
theorem holds_yes {n : Nat} {f : Nat → Int} (h : ∀ i, i < n → holdAt f i = true) : holdsB n f = decide (n ≤ 16) := by
  have : (List.range n).all (holdAt f) = true := by
    rw [List.all_eq_true]
    exact fun i hi => h i (List.mem_range.1 hi)
  simp [holdsB, this]
theorem holdRight_at {h : Nat → Int} {b : Bool} (e : holdB h = b) (w : World) : Calls Tryz.prog 76 #[.agg (ints 5 h)] w fun x w' => x = .returned (.bool b) ∧ Below w.heap.size w w' := by rw [← e]; exact holdRight_any h w
theorem rholdRight_at {h : Nat → Int} {b : Bool} (e : holdB h = b) (w : World) : Calls Tryz.prog 61 #[.agg (ints 5 h)] w fun x w' => x = .returned (.bool b) ∧ Below w.heap.size w w' := by rw [← e]; exact rholdRight_any h w
theorem compare_at {a b : Nat → Int} {r : Int} (e : cmpN a b = r) (w : World) : Calls Tryz.prog 77 #[.agg (ints 5 a), .agg (ints 5 b)] w fun x w' => x = .returned (.int .i64 r) ∧ Below w.heap.size w w' := by rw [← e]; exact compare_any a b w
theorem rahead_at {a b : Nat → Int} {r : Bool} (e : aheadB a b = r) (w : World) : Calls Tryz.prog 62 #[.agg (ints 5 a), .agg (ints 5 b)] w fun x w' => x = .returned (.bool r) ∧ Below w.heap.size w w' := by rw [← e]; exact rahead_any a b w
set_option maxHeartbeats 4000000 in
theorem holdRights_any (A : Option Addr) (c n : Nat) (f : Nat → Int) (w : World) (h : IntsIs w A (5 * n) f) (hn : n ≤ 9223372036854775807) : Calls Tryz.prog 56 #[.slice A n c] w fun e w' =>
    e = .returned (.bool (holdsB n f)) ∧ Below w.heap.size w w' := by
  have H := Lib.hid h
  clear h
  go_enter Tryz.func56, Tryz.ntmps56
  go_wp2_with fail
  go_loopw [7] (fun i w' => ∃ k : Nat, k ≤ n ∧ i = .int .i64 k ∧ (∀ j, j < k → holdAt f j = true) ∧ Below w.heap.size w w') (fun i _ => n - (intOf i).toNat)
  case atStart => exact ⟨0, Nat.zero_le _, rfl, fun j hj => by omega, Below.refl _ _⟩
  case round =>
    rename_i wr
    obtain ⟨k, hk, rfl, hall, hb⟩ := hrel
    have HA := Lib.hid hall
    have HB := Lib.hid hb
    have HI := H.out.below hb
    clear hall hb
    by_cases hlt : k < n
    · cases k with
      | zero =>
        obtain ⟨b, o, rfl, hl⟩ := HI.load hlt
        rw [show sub (5 * 0) f = f by funext q; simp [sub], Nat.zero_mul, Nat.add_zero] at hl
        have hl1 := hl wr (Below.refl _ _)
        have hlx : ∀ x : Later (wr.alloc (.cells (ints 5 f) 87)).heap.size (wr.alloc (.cells (ints 5 f) 87)), loadAgg Tryz.prog x.wd 87 (.pointer (some ⟨b, o, none⟩)) = .ok (.value (.agg (ints 5 f))) x.wd := fun x => hl _ (((Below.refl _ _).alloc (Nat.le_refl _) _).trans (x.below.mono (by simp)))
        clear hl
        clear HI
        cases hB : holdB f with
        | false =>
          have HN : Hid (holdsB n f = false) := Lib.hid (holds_no hlt hB)
          clear HA
          go_upto_region 4 with fail
          refine region_quiet (by kernel_rfl) (by kernel_rfl) ?_
          repeat (go_big_quiet_step ((first | (go_at_call 76; exact quiet_call (by simp) (holdRight_at (by assumption) _)) | (go_at_call 77; exact quiet_call (by simp) (compare_at (by assumption) _)))))
          refine wpQuiet_nil ?_
          intro w1 hb1
          have HB1 := Lib.hid (bthen (below_allocS HB.out _) hb1)
          clear hb1
          go_wp2_with fail
          go_ret
          exact ⟨by rw [HN.out]; rfl, HB1.out⟩
        | true =>
          have HC : Hid (holdAt f 0 = true) := Lib.hid hB
          go_upto_region 4 with fail
          refine region_quiet (by kernel_rfl) (by kernel_rfl) ?_
          repeat (go_big_quiet_step ((first | (go_at_call 76; exact quiet_call (by simp) (holdRight_at (by assumption) _)) | (go_at_call 77; exact quiet_call (by simp) (compare_at (by assumption) _)))))
          refine wpQuiet_nil ?_
          intro w1 hb1
          have HB1 := Lib.hid (bthen (below_allocS HB.out _) hb1)
          clear hb1
          go_wp2_with fail
          go_roundw
          case rel =>
            refine ⟨0 + 1, by omega, by go_num, fun j hj => ?_, HB1.out⟩
            by_cases hjk : j = 0
            · rw [hjk]; exact HC.out
            · exact HA.out j (by omega)
          case measure => simp [intOf]; omega
      | succ k =>
        have hlt2 : k < n := by omega
        obtain ⟨b, o, rfl, hl⟩ := HI.load hlt
        have hl1 := hl wr (Below.refl _ _)
        have hlx : ∀ x : Later (wr.alloc (.cells (ints 5 (sub (5 * (k + 1)) f)) 87)).heap.size (wr.alloc (.cells (ints 5 (sub (5 * (k + 1)) f)) 87)), loadAgg Tryz.prog x.wd 87 (.pointer (some ⟨b, o + (k + 1) * 5, none⟩)) = .ok (.value (.agg (ints 5 (sub (5 * (k + 1)) f)))) x.wd := fun x => hl _ (((Below.refl _ _).alloc (Nat.le_refl _) _).trans (x.below.mono (by simp)))
        obtain ⟨b', o', e', hp⟩ := HI.load (show k < n by omega)
        injection e' with e'
        injection e' with e1 e2
        subst e1 e2
        have hpx : ∀ x : Later (wr.alloc (.cells (ints 5 (sub (5 * (k + 1)) f)) 87)).heap.size (wr.alloc (.cells (ints 5 (sub (5 * (k + 1)) f)) 87)), loadAgg Tryz.prog x.wd 87 (.pointer (some ⟨b, o + k * 5, none⟩)) = .ok (.value (.agg (ints 5 (sub (5 * k) f)))) x.wd := fun x => hp _ (((Below.refl _ _).alloc (Nat.le_refl _) _).trans (x.below.mono (by simp)))
        clear hl hp
        clear HI
        cases hB : holdB (sub (5 * (k + 1)) f) with
        | false =>
          have HN : Hid (holdsB n f = false) := Lib.hid (holds_no hlt (by show (holdB (sub (5 * (k + 1)) f) && aheadB _ _) = _; rw [hB]; rfl))
          clear HA
          go_upto_region 4 with fail
          refine region_quiet (by kernel_rfl) (by kernel_rfl) ?_
          repeat (go_big_quiet_step ((first | (go_at_call 76; exact quiet_call (by simp) (holdRight_at (by assumption) _)) | (go_at_call 77; exact quiet_call (by simp) (compare_at (by assumption) _)))))
          refine wpQuiet_nil ?_
          intro w1 hb1
          have HB1 := Lib.hid (bthen (below_allocS HB.out _) hb1)
          clear hb1
          go_wp2_with fail
          go_ret
          exact ⟨by rw [HN.out]; rfl, HB1.out⟩
        | true =>
          cases hD : aheadB (sub (5 * k) f) (sub (5 * (k + 1)) f) with
          | false =>
            have HN : Hid (holdsB n f = false) := Lib.hid (holds_no hlt (by show (holdB (sub (5 * (k + 1)) f) && aheadB (sub (5 * k) f) _) = _; rw [hB, hD]; rfl))
            obtain ⟨r, hr⟩ : ∃ r, cmpN (sub (5 * k) f) (sub (5 * (k + 1)) f) = r := ⟨_, rfl⟩
            have hr1 : 0 ≤ r := by have := cmp_ahead (sub (5 * k) f) (sub (5 * (k + 1)) f); rw [hD, hr] at this; simpa using this
            clear hD
            clear HA
            go_upto_region 4 with fail
            refine region_quiet (by kernel_rfl) (by kernel_rfl) ?_
            repeat (go_big_quiet_step ((first | (go_at_call 76; exact quiet_call (by simp) (holdRight_at (by assumption) _)) | (go_at_call 77; exact quiet_call (by simp) (compare_at (by assumption) _)))))
            refine wpQuiet_nil ?_
            intro w1 hb1
            have HB1 := Lib.hid (bthen (below_allocS HB.out _) hb1)
            clear hb1
            go_wp2_with fail
            go_ret
            exact ⟨by rw [HN.out]; rfl, HB1.out⟩
          | true =>
            have HC : Hid (holdAt f (k + 1) = true) := Lib.hid (by show (holdB (sub (5 * (k + 1)) f) && aheadB (sub (5 * k) f) _) = _; rw [hB, hD]; rfl)
            obtain ⟨r, hr⟩ : ∃ r, cmpN (sub (5 * k) f) (sub (5 * (k + 1)) f) = r := ⟨_, rfl⟩
            have hr1 : ¬ 0 ≤ r := by have := cmp_ahead (sub (5 * k) f) (sub (5 * (k + 1)) f); rw [hD, hr] at this; simpa using this
            clear hD
            go_upto_region 4 with fail
            refine region_quiet (by kernel_rfl) (by kernel_rfl) ?_
            repeat (go_big_quiet_step ((first | (go_at_call 76; exact quiet_call (by simp) (holdRight_at (by assumption) _)) | (go_at_call 77; exact quiet_call (by simp) (compare_at (by assumption) _)))))
            refine wpQuiet_nil ?_
            intro w1 hb1
            have HB1 := Lib.hid (bthen (below_allocS HB.out _) hb1)
            clear hb1
            go_wp2_with fail
            go_roundw
            case rel =>
              refine ⟨(k + 1) + 1, by omega, by go_num, fun j hj => ?_, HB1.out⟩
              by_cases hjk : j = (k + 1)
              · rw [hjk]; exact HC.out
              · exact HA.out j (by omega)
            case measure => simp [intOf]; omega
    · have hkk : k = n := by omega
      subst hkk
      have HN : Hid (holdsB k f = decide (k ≤ 16)) := Lib.hid (holds_yes HA.out)
      clear HA HI
      go_wp2_with fail
      go_ret
      refine ⟨?_, HB.out⟩
      rw [HN.out, show decide (k ≤ 16) = decide ((k : Int) ≤ 16) from decide_eq_decide.2 (by omega)]
      first | rfl | simp
set_option maxHeartbeats 4000000 in
theorem rholdRights_any (A : Option Addr) (c n : Nat) (f : Nat → Int) (w : World) (h : IntsIs w A (5 * n) f) (hn : n ≤ 9223372036854775807) : Calls Tryz.prog 38 #[.slice A n c] w fun e w' =>
    e = .returned (.bool (holdsB n f)) ∧ Below w.heap.size w w' := by
  have H := Lib.hid h
  clear h
  go_enter Tryz.func38, Tryz.ntmps38
  go_wp2_with fail
  go_loopw [3] (fun i w' => ∃ k : Nat, k ≤ n ∧ i = .int .i64 k ∧ (∀ j, j < k → holdAt f j = true) ∧ Below w.heap.size w w') (fun i _ => n - (intOf i).toNat)
  case atStart => exact ⟨0, Nat.zero_le _, rfl, fun j hj => by omega, Below.refl _ _⟩
  case round =>
    rename_i wr
    obtain ⟨k, hk, rfl, hall, hb⟩ := hrel
    have HA := Lib.hid hall
    have HB := Lib.hid hb
    have HI := H.out.below hb
    clear hall hb
    by_cases hlt : k < n
    · cases k with
      | zero =>
        obtain ⟨b, o, rfl, hl⟩ := HI.load hlt
        rw [show sub (5 * 0) f = f by funext q; simp [sub], Nat.zero_mul, Nat.add_zero] at hl
        have hlx : ∀ x : Later wr.heap.size wr, loadAgg Tryz.prog x.wd 87 (.pointer (some ⟨b, o, none⟩)) = .ok (.value (.agg (ints 5 f))) x.wd := fun x => hl _ x.below
        clear hl
        clear HI
        cases hB : holdB f with
        | false =>
          have HN : Hid (holdsB n f = false) := Lib.hid (holds_no hlt hB)
          clear HA
          go_upto_region 4 with fail
          refine region_quiet (by kernel_rfl) (by kernel_rfl) ?_
          repeat (go_big_quiet_step ((first | (go_at_call 61; exact quiet_call (by simp) (rholdRight_at (by assumption) _)) | (go_at_call 62; exact quiet_call (by simp) (rahead_at (by assumption) _)))))
          refine wpQuiet_nil ?_
          intro w1 hb1
          have HB1 := Lib.hid (bthen (HB.out) hb1)
          clear hb1
          go_wp2_with fail
          go_ret
          exact ⟨by rw [HN.out]; rfl, HB1.out⟩
        | true =>
          have HC : Hid (holdAt f 0 = true) := Lib.hid hB
          go_upto_region 4 with fail
          refine region_quiet (by kernel_rfl) (by kernel_rfl) ?_
          repeat (go_big_quiet_step ((first | (go_at_call 61; exact quiet_call (by simp) (rholdRight_at (by assumption) _)) | (go_at_call 62; exact quiet_call (by simp) (rahead_at (by assumption) _)))))
          refine wpQuiet_nil ?_
          intro w1 hb1
          have HB1 := Lib.hid (bthen (HB.out) hb1)
          clear hb1
          go_wp2_with fail
          go_roundw
          case rel =>
            refine ⟨0 + 1, by omega, by go_num, fun j hj => ?_, HB1.out⟩
            by_cases hjk : j = 0
            · rw [hjk]; exact HC.out
            · exact HA.out j (by omega)
          case measure => simp [intOf]; omega
      | succ k =>
        have hlt2 : k < n := by omega
        obtain ⟨b, o, rfl, hl⟩ := HI.load hlt
        have hlx : ∀ x : Later wr.heap.size wr, loadAgg Tryz.prog x.wd 87 (.pointer (some ⟨b, o + (k + 1) * 5, none⟩)) = .ok (.value (.agg (ints 5 (sub (5 * (k + 1)) f)))) x.wd := fun x => hl _ x.below
        obtain ⟨b', o', e', hp⟩ := HI.load (show k < n by omega)
        injection e' with e'
        injection e' with e1 e2
        subst e1 e2
        have hpx : ∀ x : Later wr.heap.size wr, loadAgg Tryz.prog x.wd 87 (.pointer (some ⟨b, o + k * 5, none⟩)) = .ok (.value (.agg (ints 5 (sub (5 * k) f)))) x.wd := fun x => hp _ (x.below)
        clear hl hp
        clear HI
        cases hB : holdB (sub (5 * (k + 1)) f) with
        | false =>
          have HN : Hid (holdsB n f = false) := Lib.hid (holds_no hlt (by show (holdB (sub (5 * (k + 1)) f) && aheadB _ _) = _; rw [hB]; rfl))
          clear HA
          go_upto_region 4 with fail
          refine region_quiet (by kernel_rfl) (by kernel_rfl) ?_
          repeat (go_big_quiet_step ((first | (go_at_call 61; exact quiet_call (by simp) (rholdRight_at (by assumption) _)) | (go_at_call 62; exact quiet_call (by simp) (rahead_at (by assumption) _)))))
          refine wpQuiet_nil ?_
          intro w1 hb1
          have HB1 := Lib.hid (bthen (HB.out) hb1)
          clear hb1
          go_wp2_with fail
          go_ret
          exact ⟨by rw [HN.out]; rfl, HB1.out⟩
        | true =>
          cases hD : aheadB (sub (5 * k) f) (sub (5 * (k + 1)) f) with
          | false =>
            have HN : Hid (holdsB n f = false) := Lib.hid (holds_no hlt (by show (holdB (sub (5 * (k + 1)) f) && aheadB (sub (5 * k) f) _) = _; rw [hB, hD]; rfl))
            clear HA
            go_upto_region 4 with fail
            refine region_quiet (by kernel_rfl) (by kernel_rfl) ?_
            repeat (go_big_quiet_step ((first | (go_at_call 61; exact quiet_call (by simp) (rholdRight_at (by assumption) _)) | (go_at_call 62; exact quiet_call (by simp) (rahead_at (by assumption) _)))))
            refine wpQuiet_nil ?_
            intro w1 hb1
            have HB1 := Lib.hid (bthen (HB.out) hb1)
            clear hb1
            go_wp2_with fail
            go_ret
            exact ⟨by rw [HN.out]; rfl, HB1.out⟩
          | true =>
            have HC : Hid (holdAt f (k + 1) = true) := Lib.hid (by show (holdB (sub (5 * (k + 1)) f) && aheadB (sub (5 * k) f) _) = _; rw [hB, hD]; rfl)
            go_upto_region 4 with fail
            refine region_quiet (by kernel_rfl) (by kernel_rfl) ?_
            repeat (go_big_quiet_step ((first | (go_at_call 61; exact quiet_call (by simp) (rholdRight_at (by assumption) _)) | (go_at_call 62; exact quiet_call (by simp) (rahead_at (by assumption) _)))))
            refine wpQuiet_nil ?_
            intro w1 hb1
            have HB1 := Lib.hid (bthen (HB.out) hb1)
            clear hb1
            go_wp2_with fail
            go_roundw
            case rel =>
              refine ⟨(k + 1) + 1, by omega, by go_num, fun j hj => ?_, HB1.out⟩
              by_cases hjk : j = (k + 1)
              · rw [hjk]; exact HC.out
              · exact HA.out j (by omega)
            case measure => simp [intOf]; omega
    · have hkk : k = n := by omega
      subst hkk
      have HN : Hid (holdsB k f = decide (k ≤ 16)) := Lib.hid (holds_yes HA.out)
      clear HA HI
      go_wp2_with fail
      go_ret
      refine ⟨?_, HB.out⟩
      rw [HN.out, show decide (k ≤ 16) = decide ((k : Int) ≤ 16) from decide_eq_decide.2 (by omega)]
      first | rfl | simp
end Go.Proofs.YtinhaipnmmgplaaGreat
