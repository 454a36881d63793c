/-
  Layer 15 (net): Take, Lose, Twice.
-/
import Derived.Test.YtlocoieknabiaaaZNet4
import Derived.Test.YtlocoieknabiaaaZMsgFacts
namespace Go.Proofs.Ytlocoieknabiaaa
set_option maxRecDepth 20000
open Go.RowKit
set_option linter.unusedSimpArgs false
attribute [local go_sem] rowAt_setRow rowAt_setCell Later.cell Later.frozen
variable {X : Nat → Prop}
set_option maxHeartbeats 4000000 in
theorem take_re (m : Msg) {w : World} {g q k : Nat} {room s c l d : Int} {ps : List (List UInt8)} (h : NT X w g q room ps s c l d) (hk : k < ps.length) (hlen : ps.length ≤ 1000000) (hc : 0 ≤ c ∧ c ≤ 1000000)
    (hr : rightM m = true) (hp : ps.getD k [] = msgW m) (hX : ∀ b, w.heap.size ≤ b → X b) :
    Calls Try.prog 10 #[.pointer (some ⟨g, 0, none⟩), .int .i64 (k : Int)] w fun e w' => ∃ A' c' H, e = .returned (.tuple #[.agg (reM m A' c' H).cells, .int .i64 0]) ∧ RF w' w.heap.size m.fl m.fn A' c' H ∧ NT X w' g q room (without ps k) s (c + 1) l d ∧ Two g q w w' := by
  have hgw := (h.cells).2.2.2.2.2.2
  obtain ⟨B, cap, V, h⟩ := h
  have HVB : Hid (∀ i, i < ps.length → ps.getD i [] ≠ [] → ∀ x, (V i).1 = some x → x.block < w.heap.size) := Lib.hid fun i hi h0 => isBy_lt (h.by_ i hi).1 h0
  have H := Lib.hid (fun o => h.below ((Below.refl w.heap.size w).alloc (Nat.le_refl _) o))
  have HD : Hid (∀ w' A ca, IsBy w' A (ps.getD k []) → (A = none → ca = 0) → Calls Try.prog 20 #[.slice A (ps.getD k []).length ca] w' (MDec w' false [] m)) := Lib.hid fun w' A ca h1 h2 =>
    mdecode_ok m A ca _ [] false w' hr h1 h2 (by rw [hp]; exact Nat.le_trans (msgW_len hr) (by decide)) (by show ps.getD k [] = msgW m ++ []; rw [hp, List.append_nil])
  clear h hp
  obtain ⟨pk, hpk⟩ : ∃ pk, ps.getD k [] = pk := ⟨_, rfl⟩
  rw [hpk] at HD
  have hw : IntKind.i64.wrap (c + 1) = c + 1 := IntWalk.i64_in _ (by omega)
  have HP := Lib.hid (fun W H (hw : w.heap.size ≤ W.heap.size) => (pull_okv (w := W) (X := X) (g := g) (q := q) (k := k) (room := room) (s := s) (c := c) (l := l) (d := d) (B := B) (cap := cap) (V := V) (ps := ps) H hk hlen (fun b hb => hX b (Nat.le_trans hw hb))))
  go_enter Try.func10, Try.ntmps10
  go_wp2_with fail
  refine (HP.out _ (H.out _) (by simp)).mono ?_
  rintro e w1 ⟨A, ca, rfl, hI, hN, hO, ⟨nb, C, hn, hnb⟩, ht⟩
  rw [hpk] at hI
  have hsz : w.heap.size < w1.heap.size := by have := ht.1; simp at this; omega
  have hnbw : w.heap.size < nb := by simp at hnb; omega
  have hnt : NT X w1 g q room (without ps k) s c l d := ⟨_, _, _, hn⟩
  obtain ⟨k0, _, k1, _, _, kf, hgl, hqg⟩ := hnt.cells
  clear hnt hnb
  have r0 : rowAt w1 w.heap.size = some (#[.int .i64 0, .int .i64 0, .int .i64 0, .int .i64 0, .int .i64 0, .bool false, .slice none 0 0, .int .i64 0, .string ByteArray.empty, .string ByteArray.empty, .int .i64 0, .int .i64 0], 30) := ht.row (by omega) (by omega) (rowAt_alloc_at _ _ _ _ rfl)
  have HT : Hid (Two g q w w1) := Lib.hid ((Two.of_below (below_allocS (Below.refl _ _) _) (by omega)).trans ht)
  have HN := Lib.hid hn
  have HI := Lib.hid hI
  have HR := Lib.hid r0
  rw [hpk]
  clear hn hI ht HP H r0 hpk
  obtain ⟨e1, e2⟩ := HN.out.bump (i := 1) (v := .int .i64 (c + 1)) rfl
  have HI2 := Lib.hid (e2.by_ HI.out hO)
  have HR2 : Hid (rowAt (w1.setCell ⟨q, 1, none⟩ (.int .i64 (c + 1))) w.heap.size = _) := Lib.hid (e2.row (by omega) (by omega) HR.out)
  have HN2 := Lib.hid e1
  have HT2 := Lib.hid (HT.out.trans e2)
  clear e1 e2 HI HR HN HT
  go_wp2_with fail
  refine (HD.out _ A ca HI2.out hN).mono ?_
  rintro e w2 ⟨hb, -, -, hx⟩
  obtain ⟨A', c', H', rfl, hrf⟩ := hx rfl rfl
  have HRF := Lib.hid hrf
  have u3 := rowKeep hb HR2.out
  have HN3 := Lib.hid (HN2.out.below hb)
  have HT3 : Hid (Two g q w w2) := Lib.hid (HT2.out.trans (Two.of_below hb (by have := (show NT X _ g q room (without ps k) s (c + 1) l d from ⟨_, _, _, HN2.out⟩).cells.2.2.2.2.2.2; omega)))
  clear hb HN2 HI2 HR2 HD k0 k1 kf
  clear hx hrf
  unfold reM Msg.cells
  dsimp only
  have z0 : w2.cell? ⟨w.heap.size, 0, none⟩ = some (.int .i64 0) := by rw [cell_of_rowAt u3]; rfl
  have z1 : w2.cell? ⟨w.heap.size, 1, none⟩ = some (.int .i64 0) := by rw [cell_of_rowAt u3]; rfl
  have z2 : w2.cell? ⟨w.heap.size, 2, none⟩ = some (.int .i64 0) := by rw [cell_of_rowAt u3]; rfl
  have z3 : w2.cell? ⟨w.heap.size, 3, none⟩ = some (.int .i64 0) := by rw [cell_of_rowAt u3]; rfl
  have z4 : w2.cell? ⟨w.heap.size, 4, none⟩ = some (.int .i64 0) := by rw [cell_of_rowAt u3]; rfl
  have z5 : w2.cell? ⟨w.heap.size, 5, none⟩ = some (.bool false) := by rw [cell_of_rowAt u3]; rfl
  have z6 : w2.cell? ⟨w.heap.size, 6, none⟩ = some (.slice none 0 0) := by rw [cell_of_rowAt u3]; rfl
  have z7 : w2.cell? ⟨w.heap.size, 7, none⟩ = some (.int .i64 0) := by rw [cell_of_rowAt u3]; rfl
  have z8 : w2.cell? ⟨w.heap.size, 8, none⟩ = some (.string ByteArray.empty) := by rw [cell_of_rowAt u3]; rfl
  have z9 : w2.cell? ⟨w.heap.size, 9, none⟩ = some (.string ByteArray.empty) := by rw [cell_of_rowAt u3]; rfl
  have z10 : w2.cell? ⟨w.heap.size, 10, none⟩ = some (.int .i64 0) := by rw [cell_of_rowAt u3]; rfl
  have z11 : w2.cell? ⟨w.heap.size, 11, none⟩ = some (.int .i64 0) := by rw [cell_of_rowAt u3]; rfl
  have zz := frozen_of_rowAt u3
  go_wp2_with fail
  have hfin := set12 (v0 := .int .i64 m.kind) (v1 := .int .i64 m.frm) (v2 := .int .i64 m.to) (v3 := .int .i64 m.ver) (v4 := .int .i64 m.num) (v5 := .bool m.yes) (v6 := .slice A' m.fn c') (v7 := .int .i64 m.pk) (v8 := .string (strT m.pn)) (v9 := .string (strT m.po)) (v10 := .int .i64 m.pa) (v11 := .int .i64 m.pb) u3
  have hl := load_msg_row hfin rfl
  refine ret_ct (u := .int .i64 0) (by rfl) (by with_unfolding_all rfl) (by with_unfolding_all rfl) (by rfl) hl ?_
  have hON : Only w.heap.size w2 ((((((((((((w2.setCell ⟨w.heap.size, 0, none⟩ (.int .i64 m.kind)).setCell ⟨w.heap.size, 1, none⟩ (.int .i64 m.frm)).setCell ⟨w.heap.size, 2, none⟩ (.int .i64 m.to)).setCell ⟨w.heap.size, 3, none⟩ (.int .i64 m.ver)).setCell ⟨w.heap.size, 4, none⟩ (.int .i64 m.num)).setCell ⟨w.heap.size, 5, none⟩ (.bool m.yes)).setCell ⟨w.heap.size, 6, none⟩ (.slice A' m.fn c')).setCell ⟨w.heap.size, 7, none⟩ (.int .i64 m.pk)).setCell ⟨w.heap.size, 8, none⟩ (.string (strT m.pn))).setCell ⟨w.heap.size, 9, none⟩ (.string (strT m.po))).setCell ⟨w.heap.size, 10, none⟩ (.int .i64 m.pa)).setCell ⟨w.heap.size, 11, none⟩ (.int .i64 m.pb)) := ((((((((((((Only.refl _ _).trans (Only.setCell _)).trans (Only.setCell _)).trans (Only.setCell _)).trans (Only.setCell _)).trans (Only.setCell _)).trans (Only.setCell _)).trans (Only.setCell _)).trans (Only.setCell _)).trans (Only.setCell _)).trans (Only.setCell _)).trans (Only.setCell _)).trans (Only.setCell _)
  have hrf : RF _ w.heap.size m.fl m.fn A' c' H' := (HRF.out.keep (KeepH.only hON u3 (by decide)) (own_keep HRF.out.own hON (by simpa using hsz))).mono (Nat.le_of_lt (by simpa using hsz))
  refine ⟨A', c', H', rfl, hrf, ⟨_, _, _, HN3.out.only hON (by omega) (by omega) (fun x hx => ?_) (fun i hi h0 => ?_)⟩, Nat.le_trans HT3.out.1 hON.1, HT3.out.2.1.trans (hON.2.1.mono (by omega)), fun i h1 h2 h3 => (hON.2.2 i (by omega) (by have := HT3.out.1; omega)).trans (HT3.out.2.2 i h1 h2 h3)⟩
  · injection hx with hx
    subst hx
    show nb ≠ w.heap.size
    omega
  · rw [without_len hk] at hi
    rw [without_get hk] at h0
    by_cases hl : i < k
    · simp only [if_pos hl] at h0 ⊢
      exact fun x hx => Nat.ne_of_lt (HVB.out i (by omega) h0 x hx)
    · simp only [if_neg hl] at h0 ⊢
      exact fun x hx => Nat.ne_of_lt (HVB.out (i + 1) (by omega) h0 x hx)
end Go.Proofs.Ytlocoieknabiaaa
