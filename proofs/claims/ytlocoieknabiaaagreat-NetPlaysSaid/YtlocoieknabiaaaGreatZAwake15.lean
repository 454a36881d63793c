/-
  Layer 15 (net): awake.
-/
import Derived.Test.YtlocoieknabiaaaGreatZGR
namespace Go.Proofs.YtlocoieknabiaaaGreat
set_option maxRecDepth 20000
open Go.RowKit
set_option linter.unusedSimpArgs false
attribute [local go_sem] rowAt_setRow rowAt_setCell Later.cell Later.frozen
variable {X : Nat → Prop}
theorem wantM_cells : wantM.cells = msgC 5 0 1 3 0 := rfl
theorem encode_wantM (w : World) : Calls Tryz.prog 20 #[.agg wantM.cells] w fun e w2 => ∃ A c, e = .returned (.tuple #[.slice A wantB.length c, .int .i64 0]) ∧ IsBy w2 A wantB ∧ (A = none → c = 0) ∧ (∀ x, A = some x → w.heap.size ≤ x.block) ∧ Below w.heap.size w w2 := encode_want w
theorem decode_wantM (w : World) (A : Option Addr) (c : Nat) (hI : IsBy w A wantB) (hN : A = none → c = 0) : Calls Tryz.prog 23 #[.slice A wantB.length c] w fun e w2 => e = .returned (.tuple #[.agg wantM.cells, .int .i64 0]) ∧ Below w.heap.size w w2 := decode_want A c w hI hN
theorem without_one (b : List UInt8) : without [b] 0 = [] := rfl
theorem without_two (b : List UInt8) : without [b, b] 0 = [b] := rfl
theorem len_b {w : World} {g q : Nat} {room s c l d : Int} {ps : List (List UInt8)} (h : NT X w g q room ps s c l d) : Calls Tryz.prog 17 #[.pointer (some ⟨g, 0, none⟩)] w fun e w' => e = .returned (.int .i64 (ps.length : Int)) ∧ Below w.heap.size w w' :=
  (len_any h).mono fun _ _ ⟨h1, h2⟩ => ⟨h1, h2 ▸ Below.refl _ _⟩
set_option maxHeartbeats 1000000 in
theorem awake15 (w : World) : Calls Tryz.prog 6 #[] w fun e w' => e = .returned (.bool true) ∧ Below w.heap.size w w' := by
  have c1 := fun w => netNew_ok (X := fun _ => True) 2 w (by decide) (by decide)
  have c2 := fun (W : World) g q (H : NT (fun _ => True) W g q 2 [] 0 0 0 0) => send_ok wantM wantB (fun w' _ => encode_wantM w') H (by decide) (by decide) (by decide) (fun _ _ => trivial)
  have c3 := fun (W : World) g q (H : NT (fun _ => True) W g q 2 [wantB] 1 0 0 0) => twice_ok (k := 0) H (by decide) (by decide) (by decide) (by decide) (fun _ _ => trivial)
  have c4 := fun (W : World) g q (H : NT (fun _ => True) W g q 2 [wantB, wantB] 1 0 0 1) => lose_ok (k := 0) H (by decide) (by decide) (by decide) (fun _ _ => trivial)
  have c5 := fun (W : World) g q (H : NT (fun _ => True) W g q 2 [wantB] 1 0 1 1) => take_ok wantM (k := 0) H (by decide) (by decide) (by decide) (fun w' A ca h1 h2 => decode_wantM w' A ca h1 h2) (fun _ _ => trivial)
  have C1 := Lib.hid c1
  have C2 := Lib.hid c2
  have C3 := Lib.hid c3
  have C4 := Lib.hid c4
  have C5 := Lib.hid c5
  clear c1 c2 c3 c4 c5
  go_enter Tryz.func6, Tryz.ntmps6
  go_wp2_with fail
  refine (C1.out _).mono ?_
  rintro e w1 ⟨g, q, rfl, hn, hq, hb⟩
  have HB1 := Lib.hid hb
  have HN := Lib.hid hn
  clear hn hb
  go_wp2_with fail
  refine (C2.out _ g q HN.out).mono ?_
  rintro e w2 ⟨rfl, hn, ht⟩
  have HN2 : Hid (NT (fun _ => True) w2 g q 2 [wantB] 1 0 0 0) := Lib.hid hn
  have HB2 : Hid (Below w.heap.size w w2) := Lib.hid (HB1.out.trans (ht.2.1.mono hq))
  clear hn ht HN HB1
  go_wp2_with fail
  refine (C3.out _ g q HN2.out).mono ?_
  rintro e w3 ⟨rfl, hn, ht⟩
  have HN3 : Hid (NT (fun _ => True) w3 g q 2 [wantB, wantB] 1 0 0 1) := Lib.hid hn
  have HB3 : Hid (Below w.heap.size w w3) := Lib.hid (HB2.out.trans (ht.2.1.mono hq))
  clear hn ht HN2 HB2
  go_wp2_with fail
  refine (C4.out _ g q HN3.out).mono ?_
  rintro e w4 ⟨rfl, hn, ht⟩
  have HN4 : Hid (NT (fun _ => True) w4 g q 2 [wantB] 1 0 1 1) := Lib.hid hn
  have HB4 : Hid (Below w.heap.size w w4) := Lib.hid (HB3.out.trans (ht.2.1.mono hq))
  clear hn ht HN3 HB3
  go_wp2_with fail
  refine (C5.out _ g q HN4.out).mono ?_
  rintro e w5 ⟨rfl, hn, ht⟩
  have HN5 : Hid (NT (fun _ => True) w5 g q 2 [] 1 1 1 1) := Lib.hid hn
  have HB5 : Hid (Below w.heap.size w w5) := Lib.hid (HB4.out.trans (ht.2.1.mono hq))
  clear hn ht HN4 HB4 C1 C2 C3 C4 C5
  rw [wantM_cells]
  unfold msgC
  have HN6 : Hid (NT (fun _ => True) (w5.alloc (.cells (msgC 5 0 1 3 0) 34)) g q 2 [] 1 1 1 1) := Lib.hid (HN5.out.below ((Below.refl w5.heap.size w5).alloc (Nat.le_refl _) _))
  go_upto_region 4 with fail
  refine region_seq ?_
  repeat (go_big_quiet_step ((first | (go_at_call 17; exact quiet_call (by simp) (len_b (HN6.out.below (Later.below _)))) | (go_at_call 16; exact quiet_call (by simp) (counts_any (HN6.out.below (Later.below _)))))))
  refine wpQuiet_nil ?_
  intro w6 hb
  have HB6 := Lib.hid (bthen (below_allocS HB5.out _) hb)
  clear hb
  go_wp2
  go_ret
  exact ⟨rfl, HB6.out⟩
end Go.Proofs.YtlocoieknabiaaaGreat
