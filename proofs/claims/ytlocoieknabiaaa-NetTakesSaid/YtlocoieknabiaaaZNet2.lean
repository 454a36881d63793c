/-
  Layer 15 (net): New, Len, Counts, Send.
-/
import Derived.Test.YtlocoieknabiaaaZNet
namespace Go.Proofs.Ytlocoieknabiaaa
set_option maxRecDepth 20000
open Go.RowKit
set_option linter.unusedSimpArgs false
attribute [local go_sem] rowAt_setRow rowAt_setCell Later.cell Later.frozen
variable {X : Nat → Prop}
theorem netNew_ok (room : Int) (w : World) (h1 : 1 ≤ room) (h2 : room ≤ 256) : Calls Try.prog 7 #[.int .i64 room] w fun e w' => ∃ g q, e = .returned (.pointer (some ⟨g, 0, none⟩)) ∧ NT X w' g q room [] 0 0 0 0 ∧ w.heap.size ≤ q ∧ Below w.heap.size w w' := by
  have g1 : decide (room < 1) = false := decide_eq_false (by omega)
  have g2 : decide (256 < room) = false := decide_eq_false (by omega)
  go_enter Try.func7, Try.ntmps7
  go_wp2
  go_ret
  refine ⟨w.heap.size + 1, w.heap.size, rfl, ⟨none, 0, fun _ => (none, 0), ⟨?_, ?_, by omega, Nat.le_refl _, fun _ => rfl, by decide, fun x h => (by cases h), fun i hi => absurd hi (by simp), fun i hi => absurd hi (by simp), fun x h => (by cases h), fun i hi => absurd hi (by simp)⟩⟩, Nat.le_refl _, below_allocS (below_allocS (Below.refl _ _) _) _⟩
  · exact rowAt_alloc_at _ _ _ _ (by simp)
  · exact rowPast (rowAt_alloc_at _ _ _ _ rfl)
theorem len_any {w : World} {g q : Nat} {room s c l d : Int} {ps : List (List UInt8)} (h : NT X w g q room ps s c l d) : Calls Try.prog 12 #[.pointer (some ⟨g, 0, none⟩)] w fun e w' => e = .returned (.int .i64 (ps.length : Int)) ∧ w = w' := by
  obtain ⟨A, cap, V, h⟩ := h
  have c2 : w.cell? ⟨g, 2, none⟩ = some (.slice A ps.length cap) := by rw [cell_of_rowAt h.row]; rfl
  clear h
  go_enter Try.func12, Try.ntmps12
  go_wp2_with fail
  go_ret
  exact ⟨rfl, rfl⟩
theorem load_cnt {w : World} {g : Nat} {c : Array Value} {t : TypeId} (h : rowAt w g = some (c, t)) (hc : c.size = 4) : loadAgg Try.prog w 40 (.pointer (some ⟨g, 0, none⟩)) = .ok (.value (.agg c)) w := by
  rw [loadAgg_row (n := 4) Try.underlying40 rfl (by kernel_rfl) (by rw [h]; rfl) (by simp [rowCells, h, hc])]
  congr 3
  simp [rowCells, h, ← hc]
theorem bookCounts_any {w : World} {q : Nat} {s c l d : Int} (h : rowAt w q = some (#[.int .i64 s, .int .i64 c, .int .i64 l, .int .i64 d], 47)) : Calls Try.prog 22 #[.pointer (some ⟨q, 0, none⟩)] w fun e w' => e = .returned (.agg #[.int .i64 s, .int .i64 c, .int .i64 l, .int .i64 d]) ∧ Below w.heap.size w w' := by
  have k0 : w.cell? ⟨q, 0, none⟩ = some (.int .i64 s) := by rw [cell_of_rowAt h]; rfl
  have k1 : w.cell? ⟨q, 1, none⟩ = some (.int .i64 c) := by rw [cell_of_rowAt h]; rfl
  have k2 : w.cell? ⟨q, 2, none⟩ = some (.int .i64 l) := by rw [cell_of_rowAt h]; rfl
  have k3 : w.cell? ⟨q, 3, none⟩ = some (.int .i64 d) := by rw [cell_of_rowAt h]; rfl
  have hq := rowAt_lt h
  have hq2 := Nat.ne_of_lt hq
  clear h
  go_enter Try.func22, Try.ntmps22
  go_wp2_with fail
  exact ret_c rfl rfl rfl (load_cnt (rowAt_alloc_at _ _ _ _ rfl) rfl) ⟨rfl, below_allocS (Below.refl _ _) _⟩
theorem counts_any {w : World} {g q : Nat} {room s c l d : Int} {ps : List (List UInt8)} (h : NT X w g q room ps s c l d) : Calls Try.prog 13 #[.pointer (some ⟨g, 0, none⟩)] w fun e w' => e = .returned (.agg #[.int .i64 s, .int .i64 c, .int .i64 l, .int .i64 d]) ∧ Below w.heap.size w w' := by
  obtain ⟨A, cap, V, h⟩ := h
  have k0 : (w.alloc (.cells #[.int .i64 0, .int .i64 0, .int .i64 0, .int .i64 0] 40)).cell? ⟨g, 0, none⟩ = some (.pointer (some ⟨q, 0, none⟩)) := by rw [cell_of_rowAt (rowPast h.row)]; rfl
  have HB := Lib.hid h.book
  clear h
  go_enter Try.func13, Try.ntmps13
  go_wp2_with fail
  refine (bookCounts_any (rowPast HB.out)).mono ?_
  rintro e w1 ⟨rfl, hb⟩
  have r1 : rowAt w1 w.heap.size = some (#[.int .i64 0, .int .i64 0, .int .i64 0, .int .i64 0], 40) := rowKeep hb (rowAt_alloc_at _ _ _ _ rfl)
  have k1 : w1.cell? ⟨w.heap.size, 0, none⟩ = some (.int .i64 0) := by rw [cell_of_rowAt r1]; rfl
  have k2 : w1.cell? ⟨w.heap.size, 1, none⟩ = some (.int .i64 0) := by rw [cell_of_rowAt r1]; rfl
  have k3 : w1.cell? ⟨w.heap.size, 2, none⟩ = some (.int .i64 0) := by rw [cell_of_rowAt r1]; rfl
  have k4 : w1.cell? ⟨w.heap.size, 3, none⟩ = some (.int .i64 0) := by rw [cell_of_rowAt r1]; rfl
  have kf := frozen_of_rowAt r1
  have HB1 := Lib.hid (bthen (below_allocS (Below.refl _ _) _) hb)
  clear hb
  go_wp2_with fail
  have hfin : rowAt ((((w1.setCell ⟨w.heap.size, 0, none⟩ (.int .i64 s)).setCell ⟨w.heap.size, 1, none⟩ (.int .i64 c)).setCell ⟨w.heap.size, 2, none⟩ (.int .i64 l)).setCell ⟨w.heap.size, 3, none⟩ (.int .i64 d)) w.heap.size = some (#[.int .i64 s, .int .i64 c, .int .i64 l, .int .i64 d], 40) := by
    simp only [rowAt_setCell, if_true, r1, Option.map_some, List.setIfInBounds_toArray, List.set_cons_succ, List.set_cons_zero]
  refine ret_c rfl rfl rfl (load_cnt hfin rfl) ⟨rfl, ?_⟩
  iterate 4 refine below_setCell' ?_ (Nat.le_refl _)
  exact HB1.out
theorem send_ok (m : Msg) (b : List UInt8) {w : World} {g q : Nat} {room s c l d : Int} {ps : List (List UInt8)}
    (hE : ∀ w', Below w.heap.size w w' → Calls Try.prog 17 #[.agg m.cells] w' fun e w2 => ∃ A c, e = .returned (.tuple #[.slice A b.length c, .int .i64 0]) ∧ IsBy w2 A b ∧ (A = none → c = 0) ∧ (∀ x, A = some x → w'.heap.size ≤ x.block) ∧ Below w'.heap.size w' w2)
    (h : NT X w g q room ps s c l d) (hroom : ¬ (ps.length : Int) = room) (hlen : ps.length ≤ 1000000) (hs : 0 ≤ s ∧ s ≤ 1000000) (hX : ∀ b, w.heap.size ≤ b → X b) :
    Calls Try.prog 9 #[.pointer (some ⟨g, 0, none⟩), .agg m.cells] w fun e w' => e = .returned (.int .i64 0) ∧ NT X w' g q room (ps ++ [b]) (s + 1) c l d ∧ Two g q w w' := by
  have HE := Lib.hid (hE _ ((Below.refl w.heap.size w).alloc (Nat.le_refl _) (.cells m.cells 30)))
  have H := Lib.hid (h.below ((Below.refl w.heap.size w).alloc (Nat.le_refl _) (.cells m.cells 30)))
  have hg : g < w.heap.size := by obtain ⟨_, _, _, h⟩ := h; exact rowAt_lt h.row
  have hqg : q < g := by obtain ⟨_, _, _, h⟩ := h; exact h.lt
  have HX := Lib.hid hX
  clear hE h hX
  unfold Msg.cells at *
  go_enter Try.func9, Try.ntmps9
  go_wp2_with fail
  refine HE.out.mono ?_
  rintro e w1 ⟨A1, c1, rfl, hI, hN, hO, hb⟩
  have H1 := Lib.hid (H.out.below hb)
  have hg1 : g < w1.heap.size := by have := hb.size; simp at this; omega
  have HB1 : Hid (Below w.heap.size w w1) := Lib.hid (bthen (below_allocS (Below.refl _ _) _) hb)
  have HI := Lib.hid hI
  have HO : Hid (∀ x, A1 = some x → x.block ≠ g ∧ x.block ≠ q) := Lib.hid fun x hx => by have := hO x hx; simp at this; omega
  have HTX : Hid (∀ x, A1 = some x → b ≠ [] → X x.block) := Lib.hid fun x hx _ => HX.out _ (by have := hO x hx; simp at this; omega)
  clear hb hI hO HE H
  obtain ⟨A, cap, V, hv⟩ := H1.out
  have r1 := hv.row
  have k1 : w1.cell? ⟨g, 1, none⟩ = some (.int .i64 room) := by rw [cell_of_rowAt r1]; rfl
  have k2 : w1.cell? ⟨g, 2, none⟩ = some (.slice A ps.length cap) := by rw [cell_of_rowAt r1]; rfl
  clear hv
  go_upto_region 6 with fail
  refine region_quiet (by kernel_rfl) (by kernel_rfl) ?_
  repeat (go_big_quiet_step (fail))
  refine wpQuiet_nil ?_
  intro w2 hb
  have H2 := Lib.hid (H1.out.below hb)
  have HI2 := Lib.hid (HI.out.below hb)
  have HB2 := Lib.hid (bthen HB1.out hb)
  clear hb H1 HI HB1 r1 k1 k2
  go_wp2_with fail
  refine (push_any g q room s c l d ps _ H2.out A1 c1 b HI2.out hN HO.out hlen (fun b hb => HX.out b (Nat.le_trans HB2.out.size hb)) HTX.out).mono ?_
  rintro e w3 ⟨rfl, hn, ht⟩
  have HT : Hid (Two g q w w3) := Lib.hid ((Two.of_below HB2.out (by omega)).trans ht)
  have hn3 := hn
  obtain ⟨A3, cap3, V3, hv⟩ := hn3
  have k0 : w3.cell? ⟨g, 0, none⟩ = some (.pointer (some ⟨q, 0, none⟩)) := by rw [cell_of_rowAt hv.row]; rfl
  have kq : w3.cell? ⟨q, 0, none⟩ = some (.int .i64 s) := by rw [cell_of_rowAt hv.book]; rfl
  have kf := frozen_of_rowAt hv.book 0
  have hw : IntKind.i64.wrap (s + 1) = s + 1 := IntWalk.i64_in _ (by omega)
  have HV := Lib.hid hv
  clear ht hn hv H2 HI2 HB2 HO
  go_wp2_with fail
  go_ret
  have h1 : Two g q w3 (w3.setCell ⟨q, 0, none⟩ (.int .i64 (s + 1))) := Two.setQ _
  refine ⟨rfl, ⟨A3, cap3, V3, HV.out.keep h1 (by rw [rowAt_setCell, if_neg (by omega)]; exact HV.out.row) (by rw [rowAt_setCell, if_pos rfl, HV.out.book]; rfl)⟩, HT.out.trans h1⟩
end Go.Proofs.Ytlocoieknabiaaa
