/-
  Layer 15 (net): the walk of NetNobody.
-/
import Derived.Test.YtpjichkigccfnaaAwake15
import Derived.Test.YtpjichkigccfnaaFew14
import Derived.Test.YtpjichkigccfnaaSame14
namespace Go.Proofs.Ytpjichkigccfnaa
set_option maxRecDepth 20000
open Go.RowKit
set_option linter.unusedSimpArgs false
attribute [local go_sem] rowAt_setRow rowAt_setCell Later.cell Later.frozen
theorem pull_nil (k : Int) (w : World) : Calls Try.prog 54 #[.pointer none, .int .i64 k] w fun e w' => e = .returned (.tuple #[.slice none 0 0, .int .i64 1]) ∧ w = w' := by
  go_enter Try.func54, Try.ntmps54
  go_wp2_with fail
  go_ret2
  exact ⟨rfl, rfl⟩
theorem lose_nil (k : Int) (w : World) : Calls Try.prog 29 #[.pointer none, .int .i64 k] w fun e w' => e = .returned (.int .i64 1) ∧ Below w.heap.size w w' := by
  go_enter Try.func29, Try.ntmps29
  go_wp2_with fail
  refine (pull_nil k _).mono ?_
  rintro e _ ⟨rfl, rfl⟩
  go_wp2_with fail
  go_ret
  exact ⟨rfl, Below.refl _ _⟩
theorem twice_nil (k : Int) (w : World) : Calls Try.prog 30 #[.pointer none, .int .i64 k] w fun e w' => e = .returned (.int .i64 1) ∧ Below w.heap.size w w' := by
  go_enter Try.func30, Try.ntmps30
  go_wp2_with fail
  go_ret
  exact ⟨rfl, Below.refl _ _⟩
theorem len_nil (w : World) : Calls Try.prog 27 #[.pointer none] w fun e w' => e = .returned (.int .i64 0) ∧ Below w.heap.size w w' := by
  go_enter Try.func27, Try.ntmps27
  go_wp2_with fail
  go_ret
  exact ⟨rfl, Below.refl _ _⟩
theorem counts_nil (w : World) : Calls Try.prog 28 #[.pointer none] w fun e w' => e = .returned (.agg #[.int .i64 0, .int .i64 0, .int .i64 0, .int .i64 0]) ∧ Below w.heap.size w w' := by
  go_enter Try.func28, Try.ntmps28
  go_wp2_with fail
  exact ret_c rfl rfl rfl (load_cnt (rowAt_alloc_at _ _ _ _ rfl) rfl) ⟨rfl, below_allocS (Below.refl _ _) _⟩
theorem send_nil (m : Msg) (w : World) : Calls Try.prog 25 #[.pointer none, .agg m.cells] w fun e w' => e = .returned (.int .i64 1) ∧ Below w.heap.size w w' := by
  unfold Msg.cells
  go_enter Try.func25, Try.ntmps25
  go_wp2_with fail
  go_ret
  exact ⟨rfl, below_allocS (Below.refl _ _) _⟩
theorem take_nil (k : Int) (w : World) : Calls Try.prog 26 #[.pointer none, .int .i64 k] w fun e w' => e = .returned (.tuple #[.agg (msgC 0 0 0 0 0), .int .i64 1]) ∧ Below w.heap.size w w' := by
  go_enter Try.func26, Try.ntmps26
  go_wp2_with fail
  refine (pull_nil k _).mono ?_
  rintro e _ ⟨rfl, rfl⟩
  go_wp2_with fail
  exact ret_ct rfl rfl rfl rfl (load_msg_row (rowAt_alloc_at _ _ _ _ rfl) rfl) ⟨rfl, below_allocS (Below.refl _ _) _⟩
theorem few14_is {m : Msg} {w : World} {b : Bool} (h : MsgOk w m) (hb : few13B m.fn m.fl m.pn m.po = b) : Calls Try.prog 11 #[.agg m.cells] w fun e w' => e = .returned (.bool b) ∧ Below w.heap.size w w' := by rw [← hb]; exact few14_any m w h
set_option maxHeartbeats 1000000 in
theorem netNobody_walk (m : Msg) (k : Int) (_hk : -9223372036854775808 ≤ k ∧ k ≤ 9223372036854775807) (w : World) (h : MsgOk w m) :
    Calls Try.prog 9 #[.agg m.cells, .int .i64 k] w fun e w' => e = .returned (.bool true) ∧ Below w.heap.size w w' := by
  clear _hk
  obtain ⟨b, hb⟩ : ∃ b, few13B m.fn m.fl m.pn m.po = b := ⟨_, rfl⟩
  have HF := Lib.hid (few14_is (h.below ((Below.refl w.heap.size w).alloc (Nat.le_refl _) (.cells m.cells 26))) hb)
  have HS := Lib.hid (send_nil m)
  clear h hb
  unfold Msg.cells at *
  cases b
  · go_enter Try.func9, Try.ntmps9
    go_wp2_with fail
    refine HF.out.mono ?_
    rintro e w1 ⟨rfl, hb⟩
    have HB1 := Lib.hid (bthen (below_allocS (Below.refl _ _) _) hb)
    clear hb
    go_wp2_with fail
    refine (awake15 _).mono ?_
    rintro e w2 ⟨rfl, hb⟩
    have HB2 := Lib.hid (bthen HB1.out hb)
    clear hb
    go_wp2
    go_ret
    exact ⟨rfl, HB2.out⟩
  · go_enter Try.func9, Try.ntmps9
    go_wp2_with fail
    refine HF.out.mono ?_
    rintro e w1 ⟨rfl, hb⟩
    have r1 : rowAt w1 w.heap.size = some (m.cells, 26) := rowKeep hb (rowAt_alloc_at _ _ _ _ rfl)
    have HB1 := Lib.hid (bthen (below_allocS (Below.refl _ _) _) hb)
    clear hb HF
    go_wp2_with fail
    refine (take_nil k _).mono ?_
    rintro e w2 ⟨rfl, hb⟩
    have r2 := rowKeep hb r1
    have HB2 := Lib.hid (bthen HB1.out hb)
    clear hb r1
    have z0 : w2.cell? ⟨w.heap.size, 0, none⟩ = some (.int .i64 m.kind) := by rw [cell_of_rowAt r2]; rfl
    have z1 : w2.cell? ⟨w.heap.size, 1, none⟩ = some (.int .i64 m.frm) := by rw [cell_of_rowAt r2]; rfl
    have z2 : w2.cell? ⟨w.heap.size, 2, none⟩ = some (.int .i64 m.to) := by rw [cell_of_rowAt r2]; rfl
    have z3 : w2.cell? ⟨w.heap.size, 3, none⟩ = some (.int .i64 m.ver) := by rw [cell_of_rowAt r2]; rfl
    have z4 : w2.cell? ⟨w.heap.size, 4, none⟩ = some (.int .i64 m.num) := by rw [cell_of_rowAt r2]; rfl
    have z5 : w2.cell? ⟨w.heap.size, 5, none⟩ = some (.bool m.yes) := by rw [cell_of_rowAt r2]; rfl
    have z6 : w2.cell? ⟨w.heap.size, 6, none⟩ = some (.slice m.fA m.fn m.fc) := by rw [cell_of_rowAt r2]; rfl
    have z7 : w2.cell? ⟨w.heap.size, 7, none⟩ = some (.int .i64 m.pk) := by rw [cell_of_rowAt r2]; rfl
    have z8 : w2.cell? ⟨w.heap.size, 8, none⟩ = some (.string (strT m.pn)) := by rw [cell_of_rowAt r2]; rfl
    have z9 : w2.cell? ⟨w.heap.size, 9, none⟩ = some (.string (strT m.po)) := by rw [cell_of_rowAt r2]; rfl
    have z10 : w2.cell? ⟨w.heap.size, 10, none⟩ = some (.int .i64 m.pa) := by rw [cell_of_rowAt r2]; rfl
    have z11 : w2.cell? ⟨w.heap.size, 11, none⟩ = some (.int .i64 m.pb) := by rw [cell_of_rowAt r2]; rfl
    have n1 := rowAt_lt r2
    have n2 := Nat.ne_of_lt n1
    clear r2
    unfold msgC
    go_upto_region 5 with fail
    refine region_seq ?_
    repeat (go_big_quiet_step ((first | (go_at_call 27; exact quiet_call (by simp) (len_nil _)) | (go_at_call 28; exact quiet_call (by simp) (counts_nil _)) | (go_at_call 25; exact quiet_call (by simp) (HS.out _)) | (go_at_call 29; exact quiet_call (by simp) (lose_nil _ _)) | (go_at_call 30; exact quiet_call (by simp) (twice_nil _ _)) | (go_at_call 15; exact quiet_call (by simp) (same_small 0 0 0 0 0 _)) | (go_at_call 23; exact quiet_call (by simp) (awake15 _)))))
    refine wpQuiet_nil ?_
    intro w3 hb
    have HB3 := Lib.hid (bthen (below_allocS HB2.out _) hb)
    clear hb
    go_wp2
    go_ret
    exact ⟨rfl, HB3.out⟩
end Go.Proofs.Ytpjichkigccfnaa
