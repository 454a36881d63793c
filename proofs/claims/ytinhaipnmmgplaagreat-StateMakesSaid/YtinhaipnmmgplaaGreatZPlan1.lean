/-
  Layer 13 (plan): the rules of plans, one by one.
-/
import Derived.Test.YtinhaipnmmgplaaGreatZField6
namespace Go.Proofs.YtinhaipnmmgplaaGreat
set_option maxRecDepth 20000
open Go.RowKit
set_option linter.unusedSimpArgs false
attribute [local go_sem] rowCells rowAt_drewN get_ints getE_ints set_ints size_ints rowAt_alloc rowAt_drew setRow_alloc setRow_drewN setRow_drew setCell_alloc setCell_drewN splice_upd splice_put splice_all load_vec_cut load_vecs_cut load_rights_cut load_counter store_vec store_rights store_counter eql_vec neq_vec index_vec eql_rights neq_rights eql_counter index_vecs cut_ints sub_zero
attribute [local go_sem ↓] xload_vec xstore_vec xalloc_vec xeql_vec xneq_vec xindex_vec xbuild_vec0 xload_rights xstore_rights xalloc_rights xeql_rights xneq_rights xbuild_rights0 xload_vecs xindex_vecs xload_counter xstore_counter xalloc_counter xbuild_counter0 xeql_counter xbuild_counter3
attribute [local go_sem] rowAt_setRow rowAt_setCell load_vec_cut_later load_rights_later load_counter_later Later.cell Later.frozen build3_ints
attribute [local go_sem ↓] xload_field xstore_field xalloc_field xload_lock
attribute [local go_sem] load_field load_field_later store_field load_counter_cut load_lock_cut load_lock_later Fld.size Fld.get0 Fld.get1 Fld.get2 Fld.get586 Fld.getE0 Fld.getE1 Fld.getE2 Fld.getE586 Fld.cut_cnt Fld.cut_lock Fld.cut_all Fld.splice_all strT_size

def planA (k : Int) (n o : List UInt8) (a b : Int) : Value := .agg #[.int .i64 k, .string (strT n), .string (strT o), .int .i64 a, .int .i64 b]
def noneB (o : List UInt8) : Bool := decide (o = [])
def neB (o n : List UInt8) : Bool := !decide (o = n)
theorem strT_beq (a b : List UInt8) : ((strT a).toList == (strT b).toList) = decide (a = b) := by
  rw [strT_toList, strT_toList]
  by_cases h : a = b <;> simp [h]
theorem strT_beq0 (a : List UInt8) : ((strT a).toList == ByteArray.toList ⟨#[]⟩) = decide (a = []) := strT_beq a []
theorem strT_empty (o : List UInt8) : (strT o).toList.isEmpty = noneB o := by rw [strT_toList]; cases o <;> rfl
theorem r1_any (k : Int) (n o : List UInt8) (a b : Int) (w : World) : Calls Tryz.prog 83 #[planA k n o a b] w fun e w' => e = .returned (.bool (noneB o)) ∧ Below w.heap.size w w' := by
  unfold planA
  go_enter Tryz.func83, Tryz.ntmps83
  go_wp2_with fail
  go_ret
  exact ⟨by rw [← strT_empty]; rfl, below_allocS (Below.refl _ _) _⟩
theorem r1_at {k : Int} {n o : List UInt8} {a b : Int} {r : Bool} (e : noneB o = r) (w : World) : Calls Tryz.prog 83 #[planA k n o a b] w fun e w' => e = .returned (.bool r) ∧ Below w.heap.size w w' := by rw [← e]; exact r1_any k n o a b w
set_option maxHeartbeats 1000000 in
theorem r2_any (k : Int) (n o : List UInt8) (a b : Int) (ho : o.length ≤ 9223372036854775807) (w : World) : Calls Tryz.prog 84 #[planA k n o a b] w fun e w' => e = .returned (.bool (nameB o && neB o n)) ∧ Below w.heap.size w w' := by
  unfold planA
  cases eN : nameB o
  · go_enter Tryz.func84, Tryz.ntmps84
    go_wp2_with fail
    refine (name_at eN ho _).mono ?_
    rintro e w1 ⟨rfl, hb⟩
    have HB := Lib.hid (bthen (below_allocS (Below.refl _ _) _) hb)
    clear hb
    go_wp2_with fail
    go_ret
    exact ⟨rfl, HB.out⟩
  · go_enter Tryz.func84, Tryz.ntmps84
    go_wp2_with fail
    refine (name_at eN ho _).mono ?_
    rintro e w1 ⟨rfl, hb⟩
    have r1 : rowAt w1 w.heap.size = some (#[.int .i64 k, .string (strT n), .string (strT o), .int .i64 a, .int .i64 b], 25) := rowKeep hb (rowAt_alloc_at _ _ _ _ rfl)
    have c1 : w1.cell? ⟨w.heap.size, 1, none⟩ = some (.string (strT n)) := by rw [cell_of_rowAt r1]; rfl
    have c2 : w1.cell? ⟨w.heap.size, 2, none⟩ = some (.string (strT o)) := by rw [cell_of_rowAt r1]; rfl
    have HB := Lib.hid (bthen (below_allocS (Below.refl _ _) _) hb)
    clear hb
    go_wp2_with fail
    go_ret
    refine ⟨?_, HB.out⟩
    show Ending.returned (.bool (!((strT o).toList == (strT n).toList))) = _
    rw [strT_beq]
    rfl
theorem r2_at {k : Int} {n o : List UInt8} {a b : Int} {r : Bool} (e : (nameB o && neB o n) = r) (ho : o.length ≤ 9223372036854775807) (w : World) : Calls Tryz.prog 84 #[planA k n o a b] w fun e w' => e = .returned (.bool r) ∧ Below w.heap.size w w' := by rw [← e]; exact r2_any k n o a b ho w
def noneR : Array Value := #[.func (.func 83) #[] #[]]
def otherR : Array Value := #[.func (.func 84) #[] #[]]
set_option maxHeartbeats 2000000 in
theorem r3_any (k : Int) (n o : List UInt8) (u v : Int) (_ho : o.length ≤ 9223372036854775807) (p : Nat) (_hw : IntKind.i64.wrap (u + v) = u + v) (w : World) (hp : rowAt w p = some (noneR, 96)) : Calls Tryz.prog 85 #[planA k n o u v, .pointer (some ⟨p, 0, none⟩)] w fun e w' => e = .returned (.bool (noneB o && decide (0 ≤ u) && decide (0 ≤ v) && decide (0 < u + v))) ∧ Below w.heap.size w w' := by
  have ho := _ho
  have hw := _hw
  have hpl := rowAt_lt hp
  have hpn := Nat.ne_of_lt hpl
  have c0 : w.cell? ⟨p, 0, none⟩ = some (.func (.func 83) #[] #[]) := by rw [cell_of_rowAt hp]; rfl
  clear hp
  unfold planA
  obtain ⟨R, hR⟩ : ∃ R, (noneB o && decide (0 ≤ u) && decide (0 ≤ v) && decide (0 < u + v)) = R := ⟨_, rfl⟩
  obtain ⟨b0, e0⟩ : ∃ b, noneB o = b := ⟨_, rfl⟩
  obtain ⟨b1, e1⟩ : ∃ b, decide (0 ≤ u) = b := ⟨_, rfl⟩
  obtain ⟨b2, e2⟩ : ∃ b, decide (0 ≤ v) = b := ⟨_, rfl⟩
  obtain ⟨b3, e3⟩ : ∃ b, decide (0 < u + v) = b := ⟨_, rfl⟩
  have hM : R = (b0 && b1 && b2 && b3) := by rw [← hR, ← e0, ← e1, ← e2, ← e3]; skip
  rw [hR]
  clear hR
  cases b0
  · obtain rfl : R = false := by simpa using hM
    clear hM
    go_enter Tryz.func85, Tryz.ntmps85
    go_upto_region 1 with fail
    refine region_seq ?_
    repeat (go_big_quiet_step ((first | (go_at_call 83; exact quiet_call (by simp) (r1_at e0 _)))))
    refine wpQuiet_nil ?_
    intro w1 hb1
    have HB := Lib.hid (bthen (below_allocS (Below.refl _ _) _) hb1)
    clear hb1
    go_wp2
    go_ret
    exact ⟨by first | rfl | simp [*], HB.out⟩
  · cases b1
    · obtain rfl : R = false := by simpa using hM
      clear hM
      go_enter Tryz.func85, Tryz.ntmps85
      go_upto_region 1 with fail
      refine region_seq ?_
      repeat (go_big_quiet_step ((first | (go_at_call 83; exact quiet_call (by simp) (r1_at e0 _)))))
      refine wpQuiet_nil ?_
      intro w1 hb1
      have HB := Lib.hid (bthen (below_allocS (Below.refl _ _) _) hb1)
      clear hb1
      go_wp2
      go_ret
      exact ⟨by first | rfl | simp [*], HB.out⟩
    · cases b2
      · obtain rfl : R = false := by simpa using hM
        clear hM
        go_enter Tryz.func85, Tryz.ntmps85
        go_upto_region 1 with fail
        refine region_seq ?_
        repeat (go_big_quiet_step ((first | (go_at_call 83; exact quiet_call (by simp) (r1_at e0 _)))))
        refine wpQuiet_nil ?_
        intro w1 hb1
        have HB := Lib.hid (bthen (below_allocS (Below.refl _ _) _) hb1)
        clear hb1
        go_wp2
        go_ret
        exact ⟨by first | rfl | simp [*], HB.out⟩
      · obtain rfl : R = b3 := by simpa using hM
        clear hM
        go_enter Tryz.func85, Tryz.ntmps85
        go_upto_region 1 with fail
        refine region_seq ?_
        repeat (go_big_quiet_step ((first | (go_at_call 83; exact quiet_call (by simp) (r1_at e0 _)))))
        refine wpQuiet_nil ?_
        intro w1 hb1
        have HB := Lib.hid (bthen (below_allocS (Below.refl _ _) _) hb1)
        clear hb1
        go_wp2
        go_ret
        exact ⟨by first | rfl | simp [*], HB.out⟩
set_option maxHeartbeats 2000000 in
theorem r4_any (k : Int) (n o : List UInt8) (u v : Int) (_ho : o.length ≤ 9223372036854775807) (p : Nat) (_hw : IntKind.i64.wrap (u + v) = u + v) (w : World) (hp : rowAt w p = some (noneR, 96)) : Calls Tryz.prog 86 #[planA k n o u v, .pointer (some ⟨p, 0, none⟩)] w fun e w' => e = .returned (.bool (noneB o && (u == 0) && (v == 0))) ∧ Below w.heap.size w w' := by
  have ho := _ho
  have hw := _hw
  have hpl := rowAt_lt hp
  have hpn := Nat.ne_of_lt hpl
  have c0 : w.cell? ⟨p, 0, none⟩ = some (.func (.func 83) #[] #[]) := by rw [cell_of_rowAt hp]; rfl
  clear hp
  unfold planA
  obtain ⟨R, hR⟩ : ∃ R, (noneB o && (u == 0) && (v == 0)) = R := ⟨_, rfl⟩
  obtain ⟨b0, e0⟩ : ∃ b, noneB o = b := ⟨_, rfl⟩
  obtain ⟨b1, e1⟩ : ∃ b, (u == 0) = b := ⟨_, rfl⟩
  obtain ⟨b2, e2⟩ : ∃ b, (v == 0) = b := ⟨_, rfl⟩
  have hM : R = (b0 && b1 && b2) := by rw [← hR, ← e0, ← e1, ← e2]; skip
  rw [hR]
  clear hR
  cases b0
  · obtain rfl : R = false := by simpa using hM
    clear hM
    go_enter Tryz.func86, Tryz.ntmps86
    go_upto_region 1 with fail
    refine region_seq ?_
    repeat (go_big_quiet_step ((first | (go_at_call 83; exact quiet_call (by simp) (r1_at e0 _)))))
    refine wpQuiet_nil ?_
    intro w1 hb1
    have HB := Lib.hid (bthen (below_allocS (Below.refl _ _) _) hb1)
    clear hb1
    go_wp2
    go_ret
    exact ⟨by first | rfl | simp [*], HB.out⟩
  · cases b1
    · obtain rfl : R = false := by simpa using hM
      clear hM
      go_enter Tryz.func86, Tryz.ntmps86
      go_upto_region 1 with fail
      refine region_seq ?_
      repeat (go_big_quiet_step ((first | (go_at_call 83; exact quiet_call (by simp) (r1_at e0 _)))))
      refine wpQuiet_nil ?_
      intro w1 hb1
      have HB := Lib.hid (bthen (below_allocS (Below.refl _ _) _) hb1)
      clear hb1
      go_wp2
      go_ret
      exact ⟨by first | rfl | simp [*], HB.out⟩
    · obtain rfl : R = b2 := by simpa using hM
      clear hM
      go_enter Tryz.func86, Tryz.ntmps86
      go_upto_region 1 with fail
      refine region_seq ?_
      repeat (go_big_quiet_step ((first | (go_at_call 83; exact quiet_call (by simp) (r1_at e0 _)))))
      refine wpQuiet_nil ?_
      intro w1 hb1
      have HB := Lib.hid (bthen (below_allocS (Below.refl _ _) _) hb1)
      clear hb1
      go_wp2
      go_ret
      exact ⟨by first | rfl | simp [*], HB.out⟩
set_option maxHeartbeats 2000000 in
theorem r5_any (k : Int) (n o : List UInt8) (u v : Int) (_ho : o.length ≤ 9223372036854775807) (p : Nat) (_hw : IntKind.i64.wrap (u + v) = u + v) (w : World) (hp : rowAt w p = some (noneR, 96)) : Calls Tryz.prog 87 #[planA k n o u v, .pointer (some ⟨p, 0, none⟩)] w fun e w' => e = .returned (.bool (noneB o && decide (u ≤ v))) ∧ Below w.heap.size w w' := by
  have ho := _ho
  have hw := _hw
  have hpl := rowAt_lt hp
  have hpn := Nat.ne_of_lt hpl
  have c0 : w.cell? ⟨p, 0, none⟩ = some (.func (.func 83) #[] #[]) := by rw [cell_of_rowAt hp]; rfl
  clear hp
  unfold planA
  obtain ⟨R, hR⟩ : ∃ R, (noneB o && decide (u ≤ v)) = R := ⟨_, rfl⟩
  obtain ⟨b0, e0⟩ : ∃ b, noneB o = b := ⟨_, rfl⟩
  obtain ⟨b1, e1⟩ : ∃ b, decide (u ≤ v) = b := ⟨_, rfl⟩
  have hM : R = (b0 && b1) := by rw [← hR, ← e0, ← e1]; skip
  rw [hR]
  clear hR
  cases b0
  · obtain rfl : R = false := by simpa using hM
    clear hM
    go_enter Tryz.func87, Tryz.ntmps87
    go_upto_region 1 with fail
    refine region_seq ?_
    repeat (go_big_quiet_step ((first | (go_at_call 83; exact quiet_call (by simp) (r1_at e0 _)))))
    refine wpQuiet_nil ?_
    intro w1 hb1
    have HB := Lib.hid (bthen (below_allocS (Below.refl _ _) _) hb1)
    clear hb1
    go_wp2
    go_ret
    exact ⟨by first | rfl | simp [*], HB.out⟩
  · obtain rfl : R = b1 := by simpa using hM
    clear hM
    go_enter Tryz.func87, Tryz.ntmps87
    go_upto_region 1 with fail
    refine region_seq ?_
    repeat (go_big_quiet_step ((first | (go_at_call 83; exact quiet_call (by simp) (r1_at e0 _)))))
    refine wpQuiet_nil ?_
    intro w1 hb1
    have HB := Lib.hid (bthen (below_allocS (Below.refl _ _) _) hb1)
    clear hb1
    go_wp2
    go_ret
    exact ⟨by first | rfl | simp [*], HB.out⟩
set_option maxHeartbeats 2000000 in
theorem r6_any (k : Int) (n o : List UInt8) (u v : Int) (_ho : o.length ≤ 9223372036854775807) (p : Nat) (_hw : IntKind.i64.wrap (u + v) = u + v) (w : World) (hp : rowAt w p = some (otherR, 96)) : Calls Tryz.prog 88 #[planA k n o u v, .pointer (some ⟨p, 0, none⟩)] w fun e w' => e = .returned (.bool ((nameB o && neB o n) && decide (1 ≤ u) && (v == 0))) ∧ Below w.heap.size w w' := by
  have ho := _ho
  have hw := _hw
  have hpl := rowAt_lt hp
  have hpn := Nat.ne_of_lt hpl
  have c0 : w.cell? ⟨p, 0, none⟩ = some (.func (.func 84) #[] #[]) := by rw [cell_of_rowAt hp]; rfl
  clear hp
  unfold planA
  obtain ⟨R, hR⟩ : ∃ R, ((nameB o && neB o n) && decide (1 ≤ u) && (v == 0)) = R := ⟨_, rfl⟩
  obtain ⟨b0, e0⟩ : ∃ b, (nameB o && neB o n) = b := ⟨_, rfl⟩
  obtain ⟨b1, e1⟩ : ∃ b, decide (1 ≤ u) = b := ⟨_, rfl⟩
  obtain ⟨b2, e2⟩ : ∃ b, (v == 0) = b := ⟨_, rfl⟩
  have hM : R = (b0 && b1 && b2) := by rw [← hR, ← e0, ← e1, ← e2]; skip
  rw [hR]
  clear hR
  cases b0
  · obtain rfl : R = false := by simpa using hM
    clear hM
    go_enter Tryz.func88, Tryz.ntmps88
    go_upto_region 1 with fail
    refine region_seq ?_
    repeat (go_big_quiet_step ((first | (go_at_call 84; exact quiet_call (by simp) (r2_at e0 ho _)))))
    refine wpQuiet_nil ?_
    intro w1 hb1
    have HB := Lib.hid (bthen (below_allocS (Below.refl _ _) _) hb1)
    clear hb1
    go_wp2
    go_ret
    exact ⟨by first | rfl | simp [*], HB.out⟩
  · cases b1
    · obtain rfl : R = false := by simpa using hM
      clear hM
      go_enter Tryz.func88, Tryz.ntmps88
      go_upto_region 1 with fail
      refine region_seq ?_
      repeat (go_big_quiet_step ((first | (go_at_call 84; exact quiet_call (by simp) (r2_at e0 ho _)))))
      refine wpQuiet_nil ?_
      intro w1 hb1
      have HB := Lib.hid (bthen (below_allocS (Below.refl _ _) _) hb1)
      clear hb1
      go_wp2
      go_ret
      exact ⟨by first | rfl | simp [*], HB.out⟩
    · obtain rfl : R = b2 := by simpa using hM
      clear hM
      go_enter Tryz.func88, Tryz.ntmps88
      go_upto_region 1 with fail
      refine region_seq ?_
      repeat (go_big_quiet_step ((first | (go_at_call 84; exact quiet_call (by simp) (r2_at e0 ho _)))))
      refine wpQuiet_nil ?_
      intro w1 hb1
      have HB := Lib.hid (bthen (below_allocS (Below.refl _ _) _) hb1)
      clear hb1
      go_wp2
      go_ret
      exact ⟨by first | rfl | simp [*], HB.out⟩
set_option maxHeartbeats 2000000 in
theorem r7_any (k : Int) (n o : List UInt8) (u v : Int) (_ho : o.length ≤ 9223372036854775807) (p : Nat) (_hw : IntKind.i64.wrap (u + v) = u + v) (w : World) (hp : rowAt w p = some (otherR, 96)) : Calls Tryz.prog 89 #[planA k n o u v, .pointer (some ⟨p, 0, none⟩)] w fun e w' => e = .returned (.bool ((nameB o && neB o n) && (u == 0) && (v == 0))) ∧ Below w.heap.size w w' := by
  have ho := _ho
  have hw := _hw
  have hpl := rowAt_lt hp
  have hpn := Nat.ne_of_lt hpl
  have c0 : w.cell? ⟨p, 0, none⟩ = some (.func (.func 84) #[] #[]) := by rw [cell_of_rowAt hp]; rfl
  clear hp
  unfold planA
  obtain ⟨R, hR⟩ : ∃ R, ((nameB o && neB o n) && (u == 0) && (v == 0)) = R := ⟨_, rfl⟩
  obtain ⟨b0, e0⟩ : ∃ b, (nameB o && neB o n) = b := ⟨_, rfl⟩
  obtain ⟨b1, e1⟩ : ∃ b, (u == 0) = b := ⟨_, rfl⟩
  obtain ⟨b2, e2⟩ : ∃ b, (v == 0) = b := ⟨_, rfl⟩
  have hM : R = (b0 && b1 && b2) := by rw [← hR, ← e0, ← e1, ← e2]; skip
  rw [hR]
  clear hR
  cases b0
  · obtain rfl : R = false := by simpa using hM
    clear hM
    go_enter Tryz.func89, Tryz.ntmps89
    go_upto_region 1 with fail
    refine region_seq ?_
    repeat (go_big_quiet_step ((first | (go_at_call 84; exact quiet_call (by simp) (r2_at e0 ho _)))))
    refine wpQuiet_nil ?_
    intro w1 hb1
    have HB := Lib.hid (bthen (below_allocS (Below.refl _ _) _) hb1)
    clear hb1
    go_wp2
    go_ret
    exact ⟨by first | rfl | simp [*], HB.out⟩
  · cases b1
    · obtain rfl : R = false := by simpa using hM
      clear hM
      go_enter Tryz.func89, Tryz.ntmps89
      go_upto_region 1 with fail
      refine region_seq ?_
      repeat (go_big_quiet_step ((first | (go_at_call 84; exact quiet_call (by simp) (r2_at e0 ho _)))))
      refine wpQuiet_nil ?_
      intro w1 hb1
      have HB := Lib.hid (bthen (below_allocS (Below.refl _ _) _) hb1)
      clear hb1
      go_wp2
      go_ret
      exact ⟨by first | rfl | simp [*], HB.out⟩
    · obtain rfl : R = b2 := by simpa using hM
      clear hM
      go_enter Tryz.func89, Tryz.ntmps89
      go_upto_region 1 with fail
      refine region_seq ?_
      repeat (go_big_quiet_step ((first | (go_at_call 84; exact quiet_call (by simp) (r2_at e0 ho _)))))
      refine wpQuiet_nil ?_
      intro w1 hb1
      have HB := Lib.hid (bthen (below_allocS (Below.refl _ _) _) hb1)
      clear hb1
      go_wp2
      go_ret
      exact ⟨by first | rfl | simp [*], HB.out⟩
end Go.Proofs.YtinhaipnmmgplaaGreat
