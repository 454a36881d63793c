/-
  Layer 15 (net): Take, Lose, Twice.
-/
import Derived.Test.YtlocoieknabiaaaZNet3
namespace Go.Proofs.Ytlocoieknabiaaa
set_option maxRecDepth 20000
open Go.RowKit
set_option linter.unusedSimpArgs false
attribute [local go_sem] rowAt_setRow rowAt_setCell Later.cell Later.frozen
theorem tdelete_n {nb n C i : Nat} {R : Array Value} {w : World} (hr : rowAt w nb = some (R, 52)) (hR : R.size = C) (hi : i < n) (hC : n ≤ C) (hone : ∀ j v, R[j]? = some v → j < n → v.oneCell' = true) :
    Calls Try.prog 29 #[.slice (some ⟨nb, 0, none⟩) n C, .int .i64 i, .int .i64 ((i : Int) + 1)] w fun e w' => e = .returned (.slice (some ⟨nb, 0, none⟩) (n - 1) C) ∧ (∀ j, j < n - 1 → w'.cell? ⟨nb, j, none⟩ = if j < i then R[j]? else R[j + 1]?) ∧ Only nb w w' := by
  obtain ⟨m, rfl⟩ : ∃ m, n = i + 1 + m := ⟨n - (i + 1), by omega⟩
  rw [show i + 1 + m - 1 = i + m by omega]
  exact tdelete_any nb m C i R w hr hR hC hone
/-- The row without one. -/
def without (ps : List (List UInt8)) (k : Nat) : List (List UInt8) := ps.take k ++ ps.drop (k + 1)
theorem without_len {ps : List (List UInt8)} {k : Nat} (hk : k < ps.length) : (without ps k).length = ps.length - 1 := by simp [without]; omega
theorem without_get {ps : List (List UInt8)} {k j : Nat} (hk : k < ps.length) : (without ps k).getD j [] = if j < k then ps.getD j [] else ps.getD (j + 1) [] := by
  unfold without
  by_cases h : j < k
  · rw [if_pos h]
    simp [List.getD, List.getElem?_append_left (show j < (ps.take k).length by simp; omega), h]
  · rw [if_neg h]
    have hl : (ps.take k).length = k := by simp; omega
    simp only [List.getD, List.getElem?_append_right (show (ps.take k).length ≤ j by omega), hl, List.getElem?_drop]
    rw [show k + 1 + (j - k) = j + 1 by omega]
variable {X : Nat → Prop}
theorem pull_end {w w1 : World} {g q nb C k : Nat} {room s c l d : Int} {B : Option Addr} {cap : Nat} {V : Nat → Option Addr × Nat} {ps : List (List UInt8)} (h : NTv X w1 g q room B cap V ps s c l d) (hb : Below w.heap.size w w1) (hg : g < w.heap.size) (hk : k < ps.length)
    (hC1 : ps.length ≤ C) (hC2 : C ≤ 9223372036854775807) (hD : w.heap.size ≤ nb) (hX : ∀ b, w.heap.size ≤ b → X b) (hc : ∀ j, j < ps.length - 1 → w1.cell? ⟨nb, j, none⟩ = if j < k then some (.slice (V j).1 (ps.getD j []).length (V j).2) else some (.slice (V (j + 1)).1 (ps.getD (j + 1) []).length (V (j + 1)).2)) :
    NTv X (w1.setCell ⟨g, 2, none⟩ (.slice (some ⟨nb, 0, none⟩) (ps.length - 1) C)) g q room (some ⟨nb, 0, none⟩) C (fun j => if j < k then V j else V (j + 1)) (without ps k) s c l d ∧ Two g q w (w1.setCell ⟨g, 2, none⟩ (.slice (some ⟨nb, 0, none⟩) (ps.length - 1) C)) := by
  have hlt := h.lt
  have hT : Two g q w1 (w1.setCell ⟨g, 2, none⟩ (.slice (some ⟨nb, 0, none⟩) (ps.length - 1) C)) := Two.setG (Nat.le_of_lt hlt) _
  refine ⟨⟨?_, ?_, hlt, by rw [without_len hk]; omega, fun h => (by cases h), hC2, fun x hx => ?_, fun i hi => ?_, fun i hi => ?_, fun x hx _ => ?_, fun i hi => ?_⟩, (Two.of_below hb (by omega)).trans hT⟩
  · rw [rowAt_setCell, if_pos rfl, h.row, without_len hk]; rfl
  · rw [rowAt_setCell, if_neg (by omega)]; exact h.book
  · injection hx with hx
    subst hx
    exact ⟨by show nb ≠ g; omega, by show nb ≠ q; omega⟩
  · refine ⟨nb, 0, rfl, ?_⟩
    rw [without_len hk] at hi
    rw [Nat.zero_add, without_get hk]
    have := hc i hi
    by_cases hl : i < k
    · simp only [if_pos hl] at this ⊢
      exact hT.cell (by omega) (by omega) this
    · simp only [if_neg hl] at this ⊢
      exact hT.cell (by omega) (by omega) this
  · rw [without_len hk] at hi
    rw [without_get hk]
    by_cases hl : i < k
    · simp only [if_pos hl]
      exact ⟨hT.by_ (h.by_ i (by omega)).1 (h.by_ i (by omega)).2.2, (h.by_ i (by omega)).2⟩
    · simp only [if_neg hl]
      exact ⟨hT.by_ (h.by_ (i + 1) (by omega)).1 (h.by_ (i + 1) (by omega)).2.2, (h.by_ (i + 1) (by omega)).2⟩
  · injection hx with hx
    subst hx
    exact hX _ hD
  · rw [without_len hk] at hi
    rw [without_get hk]
    by_cases hl : i < k
    · simp only [if_pos hl]
      exact h.sepV i (by omega)
    · simp only [if_neg hl]
      exact h.sepV (i + 1) (by omega)
set_option maxHeartbeats 1000000 in
theorem pull_okv {w : World} {g q k : Nat} {room s c l d : Int} {B : Option Addr} {cap : Nat} {V : Nat → Option Addr × Nat} {ps : List (List UInt8)} (h : NTv X w g q room B cap V ps s c l d) (hk : k < ps.length) (hlen : ps.length ≤ 1000000) (hX : ∀ b, w.heap.size ≤ b → X b) :
    Calls Try.prog 19 #[.pointer (some ⟨g, 0, none⟩), .int .i64 (k : Int)] w fun e w' => ∃ A ca, e = .returned (.tuple #[.slice A (ps.getD k []).length ca, .int .i64 0]) ∧ IsBy w' A (ps.getD k []) ∧ (A = none → ca = 0) ∧ (∀ x, A = some x → x.block ≠ g ∧ x.block ≠ q) ∧ (∃ nb C, NTv X w' g q room (some ⟨nb, 0, none⟩) C (fun j => if j < k then V j else V (j + 1)) (without ps k) s c l d ∧ w.heap.size ≤ nb) ∧ Two g q w w' := by
  have hgl := rowAt_lt h.row
  obtain ⟨b1, o1, rfl, hcell⟩ := h.cell k hk
  have g1 : decide ((k : Int) < 0) = false := decide_eq_false (by omega)
  have g2 : decide ((ps.length : Int) ≤ (k : Int)) = false := decide_eq_false (by omega)
  have hw : IntKind.i64.wrap ((k : Int) + 1) = (k : Int) + 1 := IntWalk.i64_in _ (by omega)
  have k2 : w.cell? ⟨g, 2, none⟩ = some (.slice (some ⟨b1, o1, none⟩) ps.length cap) := by rw [cell_of_rowAt h.row]; rfl
  have HV := Lib.hid h
  have HX := Lib.hid hX
  clear hX
  have hcs : ∀ i, i < ps.length → w.cell? ((⟨b1, o1, none⟩ : Addr).add i) = some (.slice (V i).1 (ps.getD i []).length (V i).2) := fun i hi => by
    obtain ⟨b2, o2, e2, h2⟩ := h.cell i hi
    injection e2 with e2
    injection e2 with e3 e4
    subst e3 e4
    rw [Addr.add_lit]
    exact h2
  have HCS := Lib.hid hcs
  clear h hcs
  go_enter Try.func19, Try.ntmps19
  go_wp2_with fail
  refine (tclone_any ⟨b1, o1, none⟩ cap V ps w HCS.out (by omega) hlen).mono ?_
  rintro e w1 ⟨nb, C, R, rfl, hr, hR, hC1, hC2, hRg, hnb, hb⟩
  have HR := Lib.hid hr
  have HRg := Lib.hid hRg
  have HB := Lib.hid hb
  clear hr hRg hb
  go_wp2_with fail
  refine (tdelete_n HR.out hR hk hC1 (fun j v hj hjn => by rw [HRg.out j hjn] at hj; injection hj with hj; subst hj; rfl)).mono ?_
  rintro e w2 ⟨rfl, hc2, ho⟩
  have HB2 : Hid (Below w.heap.size w w2) := Lib.hid (HB.out.trans (ho.2.1.mono hnb))
  have hv2 := HV.out.below HB2.out
  have f2 := frozen_of_rowAt hv2.row 2
  have k3 : w2.cell? ⟨g, 2, none⟩ = some (.slice (some ⟨b1, o1, none⟩) ps.length cap) := by rw [cell_of_rowAt hv2.row]; rfl
  have HV2 := Lib.hid hv2
  have HC2 : Hid (∀ j, j < ps.length - 1 → w2.cell? ⟨nb, j, none⟩ = if j < k then some (.slice (V j).1 (ps.getD j []).length (V j).2) else some (.slice (V (j + 1)).1 (ps.getD (j + 1) []).length (V (j + 1)).2)) := Lib.hid fun j hj => by
    rw [hc2 j hj]
    by_cases hjk : j < k
    · rw [if_pos hjk, if_pos hjk, HRg.out j (by omega)]
    · rw [if_neg hjk, if_neg hjk, HRg.out (j + 1) (by omega)]
  clear hv2 hc2 ho HRg HR HCS
  go_wp2_with fail
  go_ret2
  obtain ⟨e1, e2⟩ := pull_end HV2.out HB2.out hgl hk hC1 hC2 hnb HX.out HC2.out
  have hby := HV2.out.by_ k hk
  have hpk : ps.getD k [] = ps[k] := by simp [List.getD, hk]
  exact ⟨(V k).1, (V k).2, by rw [hpk]; rfl, (Two.setG (Nat.le_of_lt HV2.out.lt) _).by_ hby.1 hby.2.2, hby.2.1, hby.2.2, ⟨nb, C, e1, hnb⟩, e2⟩
theorem pull_ok {w : World} {g q k : Nat} {room s c l d : Int} {ps : List (List UInt8)} (h : NT X w g q room ps s c l d) (hk : k < ps.length) (hlen : ps.length ≤ 1000000) (hX : ∀ b, w.heap.size ≤ b → X b) :
    Calls Try.prog 19 #[.pointer (some ⟨g, 0, none⟩), .int .i64 (k : Int)] w fun e w' => ∃ A ca, e = .returned (.tuple #[.slice A (ps.getD k []).length ca, .int .i64 0]) ∧ IsBy w' A (ps.getD k []) ∧ (A = none → ca = 0) ∧ (∀ x, A = some x → x.block ≠ g ∧ x.block ≠ q) ∧ NT X w' g q room (without ps k) s c l d ∧ Two g q w w' := by
  obtain ⟨B, cap, V, h⟩ := h
  refine (pull_okv h hk hlen hX).mono ?_
  rintro e w' ⟨A, ca, h1, h2, h3, h4, ⟨nb, C, h5, _⟩, h6⟩
  exact ⟨A, ca, h1, h2, h3, h4, ⟨_, _, _, h5⟩, h6⟩
/-- Another block changes. -/
theorem NTv.only {w w' : World} {g q r : Nat} {room s c l d : Int} {A : Option Addr} {cap : Nat} {V : Nat → Option Addr × Nat} {ps : List (List UInt8)} (h : NTv X w g q room A cap V ps s c l d) (ho : Only r w w') (h1 : g ≠ r) (h2 : q ≠ r) (h3 : ∀ x, A = some x → x.block ≠ r)
    (h4 : ∀ i, i < ps.length → ps.getD i [] ≠ [] → ∀ x, (V i).1 = some x → x.block ≠ r) : NTv X w' g q room A cap V ps s c l d :=
  ⟨ho.row h1 h.row, ho.row h2 h.book, h.lt, h.le, h.nil, h.big, h.off, fun i hi => by
    obtain ⟨b, o, e1, e2⟩ := h.cell i hi
    exact ⟨b, o, e1, ho.cell (h3 _ e1) e2⟩, fun i hi => ⟨fun j hj => by
    obtain ⟨b, o, e1, e2⟩ := (h.by_ i hi).1 j hj
    exact ⟨b, o, e1, ho.cell (h4 i hi (by intro h0; rw [h0] at hj; simp at hj) _ e1) e2⟩, (h.by_ i hi).2⟩, h.sepA, h.sepV⟩
theorem isBy_lt {w : World} {A : Option Addr} {t : List UInt8} (h : IsBy w A t) (ht : t ≠ []) : ∀ x, A = some x → x.block < w.heap.size := fun x hx => by
  obtain ⟨b, o, e1, e2⟩ := h 0 (List.length_pos_iff.2 ht)
  rw [hx] at e1
  injection e1 with e1
  subst e1
  exact World.block_lt_of_cell? _ _ e2
theorem NTv.bump {w : World} {g q i : Nat} {room s c l d s' c' l' d' : Int} {A : Option Addr} {cap : Nat} {V : Nat → Option Addr × Nat} {ps : List (List UInt8)} {v : Value} (h : NTv X w g q room A cap V ps s c l d) (hv : (#[.int .i64 s, .int .i64 c, .int .i64 l, .int .i64 d] : Array Value).setIfInBounds i v = #[.int .i64 s', .int .i64 c', .int .i64 l', .int .i64 d']) :
    NTv X (w.setCell ⟨q, i, none⟩ v) g q room A cap V ps s' c' l' d' ∧ Two g q w (w.setCell ⟨q, i, none⟩ v) := by
  have h1 : Two g q w (w.setCell ⟨q, i, none⟩ v) := Two.setQ _
  have hlt := h.lt
  exact ⟨h.keep h1 (by rw [rowAt_setCell, if_neg (by omega)]; exact h.row) (by rw [rowAt_setCell, if_pos rfl, h.book]; exact congrArg (fun x => some (x, 47)) hv), h1⟩
/-- A number of the book goes up by one. -/
theorem NT.book {w : World} {g q i : Nat} {room s c l d s' c' l' d' : Int} {ps : List (List UInt8)} {v : Value} (h : NT X w g q room ps s c l d) (hv : (#[.int .i64 s, .int .i64 c, .int .i64 l, .int .i64 d] : Array Value).setIfInBounds i v = #[.int .i64 s', .int .i64 c', .int .i64 l', .int .i64 d']) :
    NT X (w.setCell ⟨q, i, none⟩ v) g q room ps s' c' l' d' ∧ Two g q w (w.setCell ⟨q, i, none⟩ v) := by
  obtain ⟨A, cap, V, h⟩ := h
  have h1 : Two g q w (w.setCell ⟨q, i, none⟩ v) := Two.setQ _
  have hlt := h.lt
  exact ⟨⟨A, cap, V, h.keep h1 (by rw [rowAt_setCell, if_neg (by omega)]; exact h.row) (by rw [rowAt_setCell, if_pos rfl, h.book]; exact congrArg (fun x => some (x, 47)) hv)⟩, h1⟩
theorem NT.cells {w : World} {g q : Nat} {room s c l d : Int} {ps : List (List UInt8)} (h : NT X w g q room ps s c l d) : w.cell? ⟨g, 0, none⟩ = some (.pointer (some ⟨q, 0, none⟩)) ∧ w.cell? ⟨q, 0, none⟩ = some (.int .i64 s) ∧ w.cell? ⟨q, 1, none⟩ = some (.int .i64 c) ∧ w.cell? ⟨q, 2, none⟩ = some (.int .i64 l) ∧ w.cell? ⟨q, 3, none⟩ = some (.int .i64 d) ∧ (∀ i, w.frozen? ⟨q, i, none⟩ = false) ∧ g < w.heap.size ∧ q < g := by
  obtain ⟨A, cap, V, h⟩ := h
  exact ⟨by rw [cell_of_rowAt h.row]; rfl, by rw [cell_of_rowAt h.book]; rfl, by rw [cell_of_rowAt h.book]; rfl, by rw [cell_of_rowAt h.book]; rfl, by rw [cell_of_rowAt h.book]; rfl, frozen_of_rowAt h.book, rowAt_lt h.row, h.lt⟩
theorem lose_ok {w : World} {g q k : Nat} {room s c l d : Int} {ps : List (List UInt8)} (h : NT X w g q room ps s c l d) (hk : k < ps.length) (hlen : ps.length ≤ 1000000) (hl : 0 ≤ l ∧ l ≤ 1000000) (hX : ∀ b, w.heap.size ≤ b → X b) :
    Calls Try.prog 14 #[.pointer (some ⟨g, 0, none⟩), .int .i64 (k : Int)] w fun e w' => e = .returned (.int .i64 0) ∧ NT X w' g q room (without ps k) s c (l + 1) d ∧ Two g q w w' := by
  have H := Lib.hid h
  have HX := Lib.hid hX
  clear h hX
  have hw : IntKind.i64.wrap (l + 1) = l + 1 := IntWalk.i64_in _ (by omega)
  go_enter Try.func14, Try.ntmps14
  go_wp2_with fail
  refine (pull_ok H.out hk hlen HX.out).mono ?_
  rintro e w1 ⟨A, ca, rfl, _, _, _, hn, ht⟩
  obtain ⟨k0, _, _, k2, _, kf, _, _⟩ := hn.cells
  have HN := Lib.hid hn
  have HT := Lib.hid ht
  clear hn ht
  go_wp2_with fail
  go_ret
  obtain ⟨e1, e2⟩ := HN.out.book (i := 2) (v := .int .i64 (l + 1)) rfl
  exact ⟨rfl, e1, HT.out.trans e2⟩
theorem take_ok (m : Msg) {w : World} {g q k : Nat} {room s c l d : Int} {ps : List (List UInt8)} (h : NT X w g q room ps s c l d) (hk : k < ps.length) (hlen : ps.length ≤ 1000000) (hc : 0 ≤ c ∧ c ≤ 1000000)
    (hD : ∀ w' A ca, IsBy w' A (ps.getD k []) → (A = none → ca = 0) → Calls Try.prog 20 #[.slice A (ps.getD k []).length ca] w' fun e w2 => e = .returned (.tuple #[.agg m.cells, .int .i64 0]) ∧ Below w'.heap.size w' w2) (hX : ∀ b, w.heap.size ≤ b → X b) :
    Calls Try.prog 10 #[.pointer (some ⟨g, 0, none⟩), .int .i64 (k : Int)] w fun e w' => e = .returned (.tuple #[.agg m.cells, .int .i64 0]) ∧ NT X w' g q room (without ps k) s (c + 1) l d ∧ Two g q w w' := by
  have hgw := (h.cells).2.2.2.2.2.2
  obtain ⟨B, cap, V, h⟩ := h
  have HVB : Hid (∀ i, i < ps.length → ps.getD i [] ≠ [] → ∀ x, (V i).1 = some x → x.block < w.heap.size) := Lib.hid fun i hi h0 => isBy_lt (h.by_ i hi).1 h0
  have H := Lib.hid (fun o => h.below ((Below.refl w.heap.size w).alloc (Nat.le_refl _) o))
  have HD := Lib.hid hD
  clear h hD
  obtain ⟨pk, hpk⟩ : ∃ pk, ps.getD k [] = pk := ⟨_, rfl⟩
  rw [hpk] at HD
  have hw : IntKind.i64.wrap (c + 1) = c + 1 := IntWalk.i64_in _ (by omega)
  have HP := Lib.hid (fun W H (hw : w.heap.size ≤ W.heap.size) => (pull_okv (w := W) (X := X) (g := g) (q := q) (k := k) (room := room) (s := s) (c := c) (l := l) (d := d) (B := B) (cap := cap) (V := V) (ps := ps) H hk hlen (fun b hb => hX b (Nat.le_trans hw hb))))
  go_enter Try.func10, Try.ntmps10
  go_wp2_with fail
  refine (HP.out _ (H.out _) (by simp)).mono ?_
  rintro e w1 ⟨A, ca, rfl, hI, hN, hO, ⟨nb, C, hn, hnb⟩, ht⟩
  rw [hpk] at hI
  have hnbw : w.heap.size < nb := by simp at hnb; omega
  have hnt : NT X w1 g q room (without ps k) s c l d := ⟨_, _, _, hn⟩
  obtain ⟨k0, _, k1, _, _, kf, hgl, hqg⟩ := hnt.cells
  clear hnt hnb
  have r0 : rowAt w1 w.heap.size = some (#[.int .i64 0, .int .i64 0, .int .i64 0, .int .i64 0, .int .i64 0, .bool false, .slice none 0 0, .int .i64 0, .string ByteArray.empty, .string ByteArray.empty, .int .i64 0, .int .i64 0], 30) := ht.row (by omega) (by omega) (rowAt_alloc_at _ _ _ _ rfl)
  have HT : Hid (Two g q w w1) := Lib.hid ((Two.of_below (below_allocS (Below.refl _ _) _) (by omega)).trans ht)
  have HN := Lib.hid hn
  have HI := Lib.hid hI
  have HR := Lib.hid r0
  rw [hpk]
  clear hn hI ht HP H r0 hpk
  obtain ⟨e1, e2⟩ := HN.out.bump (i := 1) (v := .int .i64 (c + 1)) rfl
  have HI2 := Lib.hid (e2.by_ HI.out hO)
  have HR2 : Hid (rowAt (w1.setCell ⟨q, 1, none⟩ (.int .i64 (c + 1))) w.heap.size = _) := Lib.hid (e2.row (by omega) (by omega) HR.out)
  have HN2 := Lib.hid e1
  have HT2 := Lib.hid (HT.out.trans e2)
  clear e1 e2 HI HR HN HT
  go_wp2_with fail
  refine (HD.out _ A ca HI2.out hN).mono ?_
  rintro e w2 ⟨rfl, hb⟩
  have u3 := rowKeep hb HR2.out
  have HN3 := Lib.hid (HN2.out.below hb)
  have HT3 : Hid (Two g q w w2) := Lib.hid (HT2.out.trans (Two.of_below hb (by have := (show NT X _ g q room (without ps k) s (c + 1) l d from ⟨_, _, _, HN2.out⟩).cells.2.2.2.2.2.2; omega)))
  clear hb HN2 HT2 HI2 HR2 HD k0 k1 kf
  unfold Msg.cells
  have z0 : w2.cell? ⟨w.heap.size, 0, none⟩ = some (.int .i64 0) := by rw [cell_of_rowAt u3]; rfl
  have z1 : w2.cell? ⟨w.heap.size, 1, none⟩ = some (.int .i64 0) := by rw [cell_of_rowAt u3]; rfl
  have z2 : w2.cell? ⟨w.heap.size, 2, none⟩ = some (.int .i64 0) := by rw [cell_of_rowAt u3]; rfl
  have z3 : w2.cell? ⟨w.heap.size, 3, none⟩ = some (.int .i64 0) := by rw [cell_of_rowAt u3]; rfl
  have z4 : w2.cell? ⟨w.heap.size, 4, none⟩ = some (.int .i64 0) := by rw [cell_of_rowAt u3]; rfl
  have z5 : w2.cell? ⟨w.heap.size, 5, none⟩ = some (.bool false) := by rw [cell_of_rowAt u3]; rfl
  have z6 : w2.cell? ⟨w.heap.size, 6, none⟩ = some (.slice none 0 0) := by rw [cell_of_rowAt u3]; rfl
  have z7 : w2.cell? ⟨w.heap.size, 7, none⟩ = some (.int .i64 0) := by rw [cell_of_rowAt u3]; rfl
  have z8 : w2.cell? ⟨w.heap.size, 8, none⟩ = some (.string ByteArray.empty) := by rw [cell_of_rowAt u3]; rfl
  have z9 : w2.cell? ⟨w.heap.size, 9, none⟩ = some (.string ByteArray.empty) := by rw [cell_of_rowAt u3]; rfl
  have z10 : w2.cell? ⟨w.heap.size, 10, none⟩ = some (.int .i64 0) := by rw [cell_of_rowAt u3]; rfl
  have z11 : w2.cell? ⟨w.heap.size, 11, none⟩ = some (.int .i64 0) := by rw [cell_of_rowAt u3]; rfl
  have zz := frozen_of_rowAt u3
  go_wp2_with fail
  have hfin := set12 (v0 := .int .i64 m.kind) (v1 := .int .i64 m.frm) (v2 := .int .i64 m.to) (v3 := .int .i64 m.ver) (v4 := .int .i64 m.num) (v5 := .bool m.yes) (v6 := .slice m.fA m.fn m.fc) (v7 := .int .i64 m.pk) (v8 := .string (strT m.pn)) (v9 := .string (strT m.po)) (v10 := .int .i64 m.pa) (v11 := .int .i64 m.pb) u3
  have hl := load_msg_row hfin rfl
  refine ret_ct (u := .int .i64 0) (by rfl) (by with_unfolding_all rfl) (by with_unfolding_all rfl) (by rfl) hl ?_
  have hON : Only w.heap.size w2 ((((((((((((w2.setCell ⟨w.heap.size, 0, none⟩ (.int .i64 m.kind)).setCell ⟨w.heap.size, 1, none⟩ (.int .i64 m.frm)).setCell ⟨w.heap.size, 2, none⟩ (.int .i64 m.to)).setCell ⟨w.heap.size, 3, none⟩ (.int .i64 m.ver)).setCell ⟨w.heap.size, 4, none⟩ (.int .i64 m.num)).setCell ⟨w.heap.size, 5, none⟩ (.bool m.yes)).setCell ⟨w.heap.size, 6, none⟩ (.slice m.fA m.fn m.fc)).setCell ⟨w.heap.size, 7, none⟩ (.int .i64 m.pk)).setCell ⟨w.heap.size, 8, none⟩ (.string (strT m.pn))).setCell ⟨w.heap.size, 9, none⟩ (.string (strT m.po))).setCell ⟨w.heap.size, 10, none⟩ (.int .i64 m.pa)).setCell ⟨w.heap.size, 11, none⟩ (.int .i64 m.pb)) := ((((((((((((Only.refl _ _).trans (Only.setCell _)).trans (Only.setCell _)).trans (Only.setCell _)).trans (Only.setCell _)).trans (Only.setCell _)).trans (Only.setCell _)).trans (Only.setCell _)).trans (Only.setCell _)).trans (Only.setCell _)).trans (Only.setCell _)).trans (Only.setCell _)).trans (Only.setCell _)
  refine ⟨rfl, ⟨_, _, _, HN3.out.only hON (by omega) (by omega) (fun x hx => ?_) (fun i hi h0 => ?_)⟩, Nat.le_trans HT3.out.1 hON.1, HT3.out.2.1.trans (hON.2.1.mono (by omega)), fun i h1 h2 h3 => (hON.2.2 i (by omega) (by have := HT3.out.1; omega)).trans (HT3.out.2.2 i h1 h2 h3)⟩
  · injection hx with hx
    subst hx
    show nb ≠ w.heap.size
    omega
  · rw [without_len hk] at hi
    rw [without_get hk] at h0
    by_cases hl : i < k
    · simp only [if_pos hl] at h0 ⊢
      exact fun x hx => Nat.ne_of_lt (HVB.out i (by omega) h0 x hx)
    · simp only [if_neg hl] at h0 ⊢
      exact fun x hx => Nat.ne_of_lt (HVB.out (i + 1) (by omega) h0 x hx)
theorem twice_ok {w : World} {g q k : Nat} {room s c l d : Int} {ps : List (List UInt8)} (h : NT X w g q room ps s c l d) (hk : k < ps.length) (hroom : ¬ (ps.length : Int) = room) (hlen : ps.length ≤ 1000000) (hd : 0 ≤ d ∧ d ≤ 1000000) (hX : ∀ b, w.heap.size ≤ b → X b) :
    Calls Try.prog 15 #[.pointer (some ⟨g, 0, none⟩), .int .i64 (k : Int)] w fun e w' => e = .returned (.int .i64 0) ∧ NT X w' g q room (ps ++ [ps.getD k []]) s c l (d + 1) ∧ Two g q w w' := by
  obtain ⟨_, _, _, _, _, _, hgl, hqg⟩ := h.cells
  obtain ⟨B, cap, V, hv⟩ := h
  obtain ⟨b1, o1, rfl, hcell⟩ := hv.cell k hk
  have hby := hv.by_ k hk
  have g1 : decide ((k : Int) < 0) = false := decide_eq_false (by omega)
  have g2 : decide ((ps.length : Int) ≤ (k : Int)) = false := decide_eq_false (by omega)
  have hw : IntKind.i64.wrap (d + 1) = d + 1 := IntWalk.i64_in _ (by omega)
  have k1 : w.cell? ⟨g, 1, none⟩ = some (.int .i64 room) := by rw [cell_of_rowAt hv.row]; rfl
  have k2 : w.cell? ⟨g, 2, none⟩ = some (.slice (some ⟨b1, o1, none⟩) ps.length cap) := by rw [cell_of_rowAt hv.row]; rfl
  obtain ⟨pk, hp⟩ : ∃ pk, ps.getD k [] = pk := ⟨_, rfl⟩
  rw [hp] at hby hcell ⊢
  have HV := Lib.hid hv
  have HY := Lib.hid hby
  have HC := Lib.hid hcell
  have hsv : ps.getD k [] ≠ [] → ∀ x, (V k).1 = some x → X x.block := hv.sepV k hk
  rw [hp] at hsv
  have HSV := Lib.hid hsv
  have HX := Lib.hid hX
  clear hv hby hcell hsv hX
  go_enter Try.func15, Try.ntmps15
  go_upto_region 5 with fail
  refine region_quiet (by kernel_rfl) (by kernel_rfl) ?_
  repeat (go_big_quiet_step (fail))
  refine wpQuiet_nil ?_
  intro w2 hb
  have HV2 := Lib.hid (HV.out.below hb)
  have HI2 := Lib.hid (HY.out.1.below hb)
  have HB2 := Lib.hid hb
  have c2 : w2.cell? ⟨b1, o1 + k, none⟩ = some (.slice (V k).1 pk.length (V k).2) := (hb.cell (World.block_lt_of_cell? _ _ HC.out)).trans HC.out
  have k3 : w2.cell? ⟨g, 2, none⟩ = some (.slice (some ⟨b1, o1, none⟩) ps.length cap) := by rw [cell_of_rowAt HV2.out.row]; rfl
  have HY2 := Lib.hid HY.out.2
  clear hb k1 k2 HV HY HC hp
  go_wp2_with fail
  refine (push_any g q room s c l d ps _ ⟨_, _, _, HV2.out⟩ (V k).1 (V k).2 pk HI2.out HY2.out.1 HY2.out.2 hlen (fun b hb => HX.out b (Nat.le_trans HB2.out.size hb)) (fun x hx hb => HSV.out hb x hx)).mono ?_
  rintro e w3 ⟨rfl, hn, ht⟩
  obtain ⟨k0, _, _, _, kd, kf, _, _⟩ := hn.cells
  have HN := Lib.hid hn
  have HT : Hid (Two g q w w3) := Lib.hid ((Two.of_below HB2.out (by omega)).trans ht)
  clear hn ht c2 k3 HV2 HI2 HY2 HB2
  go_wp2_with fail
  go_ret
  obtain ⟨e1, e2⟩ := HN.out.book (i := 3) (v := .int .i64 (d + 1)) rfl
  exact ⟨rfl, e1, HT.out.trans e2⟩
end Go.Proofs.Ytlocoieknabiaaa
