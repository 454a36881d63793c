/-
  Layer 15 (net): what is refused.
-/
import Derived.Test.YtlocoieknabiaaaZNetSent
namespace Go.Proofs.Ytlocoieknabiaaa
set_option maxRecDepth 20000
open Go.RowKit
set_option linter.unusedSimpArgs false
attribute [local go_sem] rowAt_setRow rowAt_setCell Later.cell Later.frozen
variable {X : Nat → Prop}
theorem send_no (m : Msg) {w : World} (g : Nat) (hr : rightM m = false) (hm : MsgOk w m) :
    Calls Try.prog 9 #[.pointer (some ⟨g, 0, none⟩), .agg m.cells] w fun e w' => e = .returned (.int .i64 1) ∧ Below w.heap.size w w' := by
  have HE := Lib.hid (mencode_no m (w.alloc (.cells m.cells 30)) hr (hm.below ((Below.refl _ _).alloc (Nat.le_refl _) _)))
  clear hm hr
  unfold Msg.cells at *
  go_enter Try.func9, Try.ntmps9
  go_wp2_with fail
  refine HE.out.mono ?_
  rintro e w1 ⟨rfl, hb⟩
  have HB1 : Hid (Below w.heap.size w w1) := Lib.hid (bthen (below_allocS (Below.refl _ _) _) hb)
  clear hb HE
  go_wp2_with fail
  go_ret
  exact ⟨rfl, HB1.out⟩
theorem send_m (m : Msg) {w : World} {g q : Nat} {room s c l d : Int} {ps : List (List UInt8)} (hr : rightM m = true) (hm : MsgOk w m)
    (h : NT X w g q room ps s c l d) (hroom : ¬ (ps.length : Int) = room) (hlen : ps.length ≤ 1000000) (hs : 0 ≤ s ∧ s ≤ 1000000) (hX : ∀ b, w.heap.size ≤ b → X b) :
    Calls Try.prog 9 #[.pointer (some ⟨g, 0, none⟩), .agg m.cells] w fun e w' => e = .returned (.int .i64 0) ∧ NT X w' g q room (ps ++ [msgW m]) (s + 1) c l d ∧ Two g q w w' :=
  send_ok m (msgW m) (fun w' hb => (mencode_ok m w' hr (hm.below hb)).mono fun _ _ ⟨A, c, h1, h2, h3, h4, _, h6⟩ => ⟨A, c, h1, h2, h3, h4, h6⟩) h hroom hlen hs hX
theorem pull_none {w : World} {g q : Nat} {k : Int} {room s c l d : Int} {ps : List (List UInt8)} (h : NT X w g q room ps s c l d) (hk : k < 0 ∨ (ps.length : Int) ≤ k) :
    Calls Try.prog 19 #[.pointer (some ⟨g, 0, none⟩), .int .i64 k] w fun e w' => e = .returned (.tuple #[.slice none 0 0, .int .i64 10]) ∧ w = w' := by
  obtain ⟨A, cap, V, h⟩ := h
  have k2 : w.cell? ⟨g, 2, none⟩ = some (.slice A ps.length cap) := by rw [cell_of_rowAt h.row]; rfl
  clear h
  by_cases h1 : k < 0
  · have g1 : decide (k < 0) = true := decide_eq_true h1
    go_enter Try.func19, Try.ntmps19
    go_wp2_with fail
    go_ret2
    exact ⟨rfl, rfl⟩
  · have g1 : decide (k < 0) = false := decide_eq_false h1
    have g2 : decide ((ps.length : Int) ≤ k) = true := decide_eq_true (by omega)
    go_enter Try.func19, Try.ntmps19
    go_wp2_with fail
    go_ret2
    exact ⟨rfl, rfl⟩
theorem lose_none {w : World} {g q : Nat} {k : Int} {room s c l d : Int} {ps : List (List UInt8)} (h : NT X w g q room ps s c l d) (hk : k < 0 ∨ (ps.length : Int) ≤ k) :
    Calls Try.prog 14 #[.pointer (some ⟨g, 0, none⟩), .int .i64 k] w fun e w' => e = .returned (.int .i64 10) ∧ Below w.heap.size w w' := by
  have H := Lib.hid h
  clear h
  go_enter Try.func14, Try.ntmps14
  go_wp2_with fail
  refine (pull_none H.out hk).mono ?_
  rintro e _ ⟨rfl, rfl⟩
  go_wp2_with fail
  go_ret
  exact ⟨rfl, Below.refl _ _⟩
theorem take_none {w : World} {g q : Nat} {k : Int} {room s c l d : Int} {ps : List (List UInt8)} (h : NT X w g q room ps s c l d) (hk : k < 0 ∨ (ps.length : Int) ≤ k) :
    Calls Try.prog 10 #[.pointer (some ⟨g, 0, none⟩), .int .i64 k] w fun e w' => e = .returned (.tuple #[.agg msg0.cells, .int .i64 10]) ∧ Below w.heap.size w w' := by
  have hg := h.cells.2.2.2.2.2.2.1
  have H := Lib.hid fun o => h.below ((Below.refl w.heap.size w).alloc (Nat.le_refl _) o)
  clear h
  unfold Msg.cells msg0 at *
  dsimp only at *
  go_enter Try.func10, Try.ntmps10
  go_wp2_with fail
  refine (pull_none (H.out _) hk).mono ?_
  rintro e _ ⟨rfl, rfl⟩
  clear H
  go_wp2_with fail
  refine ret_ct (u := .int .i64 10) (by rfl) (by with_unfolding_all rfl) (by with_unfolding_all rfl) (by rfl) (load_msg_row (by (try simp only [rowAt_drew, rowAt_drewN]); first | exact rowAt_alloc_at _ _ _ _ rfl | exact set12 (rowAt_alloc_at _ _ _ _ rfl)) rfl) ?_
  refine ⟨rfl, ?_⟩
  exact below_allocS (Below.refl _ _) _
theorem twice_none {w : World} {g q : Nat} {k : Int} {room s c l d : Int} {ps : List (List UInt8)} (h : NT X w g q room ps s c l d) (hk : k < 0 ∨ (ps.length : Int) ≤ k) :
    Calls Try.prog 15 #[.pointer (some ⟨g, 0, none⟩), .int .i64 k] w fun e w' => e = .returned (.int .i64 10) ∧ Below w.heap.size w w' := by
  obtain ⟨A, cap, V, h⟩ := h
  have k2 : w.cell? ⟨g, 2, none⟩ = some (.slice A ps.length cap) := by rw [cell_of_rowAt h.row]; rfl
  clear h
  by_cases h1 : k < 0
  · have g1 : decide (k < 0) = true := decide_eq_true h1
    go_enter Try.func15, Try.ntmps15
    go_wp2_with fail
    go_ret
    exact ⟨rfl, Below.refl _ _⟩
  · have g1 : decide (k < 0) = false := decide_eq_false h1
    have g2 : decide ((ps.length : Int) ≤ k) = true := decide_eq_true (by omega)
    go_enter Try.func15, Try.ntmps15
    go_wp2_with fail
    go_ret
    exact ⟨rfl, Below.refl _ _⟩
theorem twice_full {w : World} {g q : Nat} {k : Int} {room s c l d : Int} {ps : List (List UInt8)} (h : NT X w g q room ps s c l d) (h0 : 0 ≤ k) (h9 : k < (ps.length : Int)) (hroom : (ps.length : Int) = room) :
    Calls Try.prog 15 #[.pointer (some ⟨g, 0, none⟩), .int .i64 k] w fun e w' => e = .returned (.int .i64 7) ∧ Below w.heap.size w w' := by
  obtain ⟨A, cap, V, h⟩ := h
  have k1 : w.cell? ⟨g, 1, none⟩ = some (.int .i64 room) := by rw [cell_of_rowAt h.row]; rfl
  have k2 : w.cell? ⟨g, 2, none⟩ = some (.slice A ps.length cap) := by rw [cell_of_rowAt h.row]; rfl
  have hgl := rowAt_lt h.row
  clear h
  have g1 : decide (k < 0) = false := decide_eq_false (by omega)
  have g2 : decide ((ps.length : Int) ≤ k) = false := decide_eq_false (by omega)
  subst hroom
  go_enter Try.func15, Try.ntmps15
  go_upto_region 5 with fail
  refine region_quiet (by kernel_rfl) (by kernel_rfl) ?_
  repeat (go_big_quiet_step (fail))
  refine wpQuiet_nil ?_
  intro w2 hb
  have HB2 := Lib.hid hb
  clear hb k1 k2
  go_wp2_with fail
  go_ret
  exact ⟨rfl, HB2.out⟩
theorem send_full (m : Msg) {w : World} {g q : Nat} {room s c l d : Int} {ps : List (List UInt8)} (hr : rightM m = true) (hm : MsgOk w m) (h : NT X w g q room ps s c l d) (hroom : (ps.length : Int) = room) :
    Calls Try.prog 9 #[.pointer (some ⟨g, 0, none⟩), .agg m.cells] w fun e w' => e = .returned (.int .i64 7) ∧ Below w.heap.size w w' := by
  have HE := Lib.hid (mencode_ok m (w.alloc (.cells m.cells 30)) hr (hm.below ((Below.refl _ _).alloc (Nat.le_refl _) _)))
  have H := Lib.hid (h.below ((Below.refl w.heap.size w).alloc (Nat.le_refl _) (.cells m.cells 30)))
  clear h hm hr
  unfold Msg.cells at *
  go_enter Try.func9, Try.ntmps9
  go_wp2_with fail
  refine HE.out.mono ?_
  rintro e w1 ⟨A1, c1, rfl, -, -, -, -, hb⟩
  have H1 := Lib.hid (H.out.below hb)
  have HB1 : Hid (Below w.heap.size w w1) := Lib.hid (bthen (below_allocS (Below.refl _ _) _) hb)
  clear hb HE H
  obtain ⟨A, cap, V, hv⟩ := H1.out
  have k1 : w1.cell? ⟨g, 1, none⟩ = some (.int .i64 room) := by rw [cell_of_rowAt hv.row]; rfl
  have k2 : w1.cell? ⟨g, 2, none⟩ = some (.slice A ps.length cap) := by rw [cell_of_rowAt hv.row]; rfl
  have hgl := rowAt_lt hv.row
  clear hv H1
  subst hroom
  go_upto_region 6 with fail
  refine region_quiet (by kernel_rfl) (by kernel_rfl) ?_
  repeat (go_big_quiet_step (fail))
  refine wpQuiet_nil ?_
  intro w2 hb
  have HB2 := Lib.hid (bthen HB1.out hb)
  clear hb HB1 k1 k2
  go_wp2_with fail
  go_ret
  exact ⟨rfl, HB2.out⟩
theorem reM_back (m : Msg) (A : Option Addr) (c : Nat) (H : Nat → Option Addr × Nat) : reM (reM m A c H) m.fA m.fc (fun i => ((m.fl i).hA, (m.fl i).hc)) = m := rfl
/-- A message that was sent comes as it was. -/
theorem take_m (m : Msg) {w0 w : World} {g q k : Nat} {room s c l d : Int} {ps : List (List UInt8)} (h : NT X w g q room ps s c l d) (hk : k < ps.length) (hlen : ps.length ≤ 1000000) (hc : 0 ≤ c ∧ c ≤ 1000000)
    (hr : rightM m = true) (hm : MsgOk w0 m) (hp : ps.getD k [] = msgW m) (hX : ∀ b, w.heap.size ≤ b → X b) :
    Calls Try.prog 10 #[.pointer (some ⟨g, 0, none⟩), .int .i64 (k : Int)] w fun e w' => ∃ A' c' H, e = .returned (.tuple #[.agg (reM m A' c' H).cells, .int .i64 0]) ∧ MsgOk w' (reM m A' c' H) ∧ NT X w' g q room (without ps k) s (c + 1) l d ∧ Two g q w w' :=
  (take_re m h hk hlen hc hr hp hX).mono fun _ _ ⟨A', c', H, h1, h2, h3, h4⟩ => ⟨A', c', H, h1, reM_ok hm h2, h3, h4⟩
end Go.Proofs.Ytlocoieknabiaaa
