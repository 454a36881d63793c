/-
  Layer 12 (wlog): a log in memory, and what it tells.
-/
import Derived.Test.YtfnbcafilbafgaaDoorNoBy
import Derived.Test.YtfnbcafilbafgaaDoorDiskMore
import Derived.Test.YtfnbcafilbafgaaDoorFrameCat
namespace Go.Proofs.YtfnbcafilbafgaaDoor
open Go.RowKit
set_option linter.unusedSimpArgs false
set_option linter.unusedVariables false
attribute [local go_sem] Later.cell
/-- Where bytes lie apart from a slice of texts. -/
def ApartT (v : Value) (b : List UInt8) (A : Option Addr) : Prop := b ≠ [] → ∀ x, A = some x → v.ownBlock ≠ some x.block
theorem rowAt_ne {w : World} {p q : Nat} {a b : Array Value} {S T : TypeId} (h : rowAt w p = some (a, S)) (g : rowAt w q = some (b, T)) (hST : S ≠ T) : p ≠ q := by
  rintro rfl
  rw [h] at g
  injection g with g
  injection g with _ g
  exact hST g
theorem OwnTx.block {w : World} {base : Nat} {v : Value} {ps : List (List UInt8)} (h : OwnTx w base v ps) {g : Nat} (hg : v.ownBlock = some g) : ∃ cur, rowAt w g = some (cur, 24) := by
  obtain ⟨V, h1, _⟩ := h
  rcases h1.2 with ⟨hv, _⟩ | ⟨k, cap, cur, hv, _, hk, _⟩
  · rw [hv] at hg; cases hg
  · rw [hv] at hg
    injection hg with hg
    subst hg
    exact ⟨cur, rowAt_iff.2 hk⟩
/-- Texts of one's own when a block that is none of theirs is written. -/
theorem OwnTx.off {w w' : World} {base g : Nat} {v : Value} {ps : List (List UInt8)} {c : Array Value} {T : TypeId} (h : OwnTx w base v ps) (hr : rowAt w g = some (c, T)) (hT : T ≠ 24) (hn : NoBy w g) (hb : Bt g w w') : OwnTx w' base v ps := by
  have hv : ∀ k, v.ownBlock = some k → k ≠ g := fun k hk => by
    obtain ⟨cur, h2⟩ := h.block hk
    exact (rowAt_ne h2 hr (fun e => hT e.symm))
  obtain ⟨V, h1, h2⟩ := h
  refine ⟨V, ⟨h1.1, ?_⟩, fun i hi => ⟨isBy_off (h2 i hi).1 hn hb, (h2 i hi).2⟩⟩
  rcases h1.2 with hx | ⟨k, cap, cur, hx, hbk, hk, rest⟩
  · exact .inl hx
  · exact .inr ⟨k, cap, cur, hx, hbk, (hb.block k (Array.getElem?_eq_some_iff.1 hk).1 (hv k (by rw [hx]; rfl))).trans hk, rest⟩
theorem DK.noBy {w : World} {p : Nat} {s f : Int} {l : List UInt8} (h : DK w p s l f) : NoBy w p := by
  obtain ⟨A, c, h1, _⟩ := h
  intro j y
  rw [cell_of_rowAt h1]
  rcases j with _ | _ | _ | j <;> simp [bc]
theorem DK.row {w : World} {p : Nat} {s f : Int} {l : List UInt8} (h : DK w p s l f) : ∃ c, rowAt w p = some (c, 62) := by
  obtain ⟨A, c, h1, _⟩ := h
  exact ⟨_, h1⟩
/-- A log: its block, its disk's, its records. -/
def LG (base : Nat) (w : World) (q p : Nat) (s : Int) (b : List UInt8) (f : Int) (ps : List (List UInt8)) : Prop :=
  ∃ v, rowAt w q = some (#[.pointer (some ⟨p, 0, none⟩), v], 67) ∧ OwnTx w base v ps ∧ DKX (ApartT v b) w p s b f ∧ base ≤ q ∧ base ≤ p
theorem LG.dk {base : Nat} {w : World} {q p : Nat} {s f : Int} {b : List UInt8} {ps : List (List UInt8)} (h : LG base w q p s b f ps) : DK w p s b f := by
  obtain ⟨v, _, _, h, _⟩ := h
  exact h.dk
theorem LG.below {base : Nat} {w w' : World} {q p : Nat} {s f : Int} {b : List UInt8} {ps : List (List UInt8)} (h : LG base w q p s b f ps) (hb : Below w.heap.size w w') : LG base w' q p s b f ps := by
  obtain ⟨v, h1, h2, h3, h4⟩ := h
  exact ⟨v, rowKeep hb h1, h2.below hb, h3.below hb, h4⟩
theorem LG.noByQ {base : Nat} {w : World} {q p : Nat} {s f : Int} {b : List UInt8} {ps : List (List UInt8)} (h : LG base w q p s b f ps) : NoBy w q := by
  obtain ⟨v, h1, h2, _⟩ := h
  obtain ⟨A, c, V, rfl, _⟩ := h2.texts
  intro j y
  rw [cell_of_rowAt h1]
  rcases j with _ | _ | j <;> simp [bc]
theorem LG.ne {base : Nat} {w : World} {q p : Nat} {s f : Int} {b : List UInt8} {ps : List (List UInt8)} (h : LG base w q p s b f ps) : q ≠ p := by
  obtain ⟨v, h1, _, h3, _⟩ := h
  obtain ⟨c, h4⟩ := h3.dk.row
  exact rowAt_ne h1 h4 (by decide)
/-- The disk is written: the log stays. -/
theorem LG.disk {base : Nat} {w w' : World} {q p : Nat} {s f f' : Int} {b b' : List UInt8} {ps : List (List UInt8)} (h : LG base w q p s b f ps) (hb : Bt p w w') (hd : ∀ v, OwnTx w base v ps → DKX (ApartT v b) w p s b f → DKX (ApartT v b') w' p s b' f') : LG base w' q p s b' f' ps := by
  have hne := h.ne
  obtain ⟨v, h1, h2, h3, h4⟩ := h
  obtain ⟨c, h5⟩ := h3.dk.row
  exact ⟨v, (hb.row (rowAt_lt h1) hne).trans h1, h2.off h5 (by decide) h3.dk.noBy hb, hd v h2 h3, h4⟩
theorem DKX.off {X : Option Addr → Prop} {w w' : World} {p g : Nat} {s f : Int} {l : List UInt8} (h : DKX X w p s l f) (hg : NoBy w g) (hb : Bt g w w') (hp : p ≠ g) : DKX X w' p s l f := by
  obtain ⟨A, c, h1, h2, h3, h4, h5⟩ := h
  exact ⟨A, c, (hb.row (rowAt_lt h1) hp).trans h1, isBy_off h2 hg hb, h3, h4, h5⟩
theorem DKX.grownT {w w' : World} {p base : Nat} {l : List UInt8} {ps : List (List UInt8)} {s f : Int} {v v' : Value} (h : DKX (ApartT v l) w p s l f) (ho : OwnTx w base v ps) (hg : w.grownBy w' v.ownBlock) (hv : v'.ownBlock = v.ownBlock ∨ ∃ g, v'.ownBlock = some g ∧ w.heap.size ≤ g) : DKX (ApartT v' l) w' p s l f := by
  obtain ⟨A, c, h1, h2, h3, h4, h5⟩ := h
  have hne : v.ownBlock ≠ some p := fun e => by
    obtain ⟨cur, h6⟩ := ho.block e
    exact rowAt_ne h6 h1 (by decide) rfl
  have hrow : rowAt w' p = rowAt w p := rowAt_of_heap (hg.block p (rowAt_lt h1) (fun e => hne e.symm))
  refine ⟨A, c, hrow.trans h1, fun i hi => ?_, h3, h4, fun hl x hx => ?_⟩
  · obtain ⟨b, o, g1, g2⟩ := h2 i hi
    have hnb := h5 (by intro e; subst e; simp at hi) _ g1
    exact ⟨b, o, g1, (World.cell?_of_block (hg.block b (World.block_lt_of_cell? _ _ g2) (fun e => hnb e.symm))).trans g2⟩
  · obtain ⟨b, o, g1, g2⟩ := h2 0 (List.length_pos_iff.2 hl)
    have hlt : b < w.heap.size := World.block_lt_of_cell? _ _ g2
    rw [hx] at g1
    injection g1 with g1
    have hxb : x.block = b := by rw [g1]
    rcases hv with hv | ⟨g, hv, hge⟩
    · rw [hv]; exact h5 hl x hx
    · rw [hv]
      intro e
      injection e with e
      omega
theorem wlen_any {base : Nat} {w : World} {q p : Nat} {s f : Int} {b : List UInt8} {ps : List (List UInt8)} (h : LG base w q p s b f ps) :
    Calls Tryd.prog 21 #[.pointer (some ⟨q, 0, none⟩)] w fun e w' => e = .returned (.int .i64 (ps.length : Nat)) ∧ w = w' := by
  obtain ⟨v, h1, h2, _⟩ := h
  obtain ⟨A, c, V, rfl, _⟩ := h2.texts
  have d1 : w.cell? ⟨q, 1, none⟩ = some (.slice A ps.length c) := by rw [cell_of_rowAt h1]; rfl
  clear h1 h2
  go_enter Tryd.func21, Tryd.ntmps21
  go_wp2_with fail
  go_ret
  exact ⟨rfl, rfl⟩
theorem wlen_none (w : World) : Calls Tryd.prog 21 #[.pointer none] w fun e w' => e = .returned (.int .i64 0) ∧ w = w' := by
  go_enter Tryd.func21, Tryd.ntmps21
  go_wp2_with fail
  go_ret
  exact ⟨rfl, rfl⟩
theorem wlast_nil (w : World) : Calls Tryd.prog 22 #[.pointer none] w fun e w' => e = .returned (.tuple #[.slice none 0 0, .bool false]) ∧ w = w' := by
  go_enter Tryd.func22, Tryd.ntmps22
  go_wp2_with fail
  refine (wlen_none w).mono ?_
  rintro e _ ⟨rfl, rfl⟩
  go_wp2_with fail
  go_ret2
  exact ⟨rfl, rfl⟩
theorem wlast_none {base : Nat} {w : World} {q p : Nat} {s f : Int} {b : List UInt8} (h : LG base w q p s b f []) :
    Calls Tryd.prog 22 #[.pointer (some ⟨q, 0, none⟩)] w fun e w' => e = .returned (.tuple #[.slice none 0 0, .bool false]) ∧ w = w' := by
  have H := Lib.hid h
  clear h
  go_enter Tryd.func22, Tryd.ntmps22
  go_wp2_with fail
  refine (wlen_any H.out).mono ?_
  rintro e _ ⟨rfl, rfl⟩
  go_wp2_with fail
  go_ret2
  exact ⟨rfl, rfl⟩
set_option maxHeartbeats 1000000 in
theorem wlast_any {base : Nat} {w : World} {q p : Nat} {s f : Int} {b : List UInt8} {ps : List (List UInt8)} (h : LG base w q p s b f ps) (hn : ps ≠ []) (hlen : ps.length ≤ 1000000) (hl : ∀ t, t ∈ ps → t.length ≤ 1000000) :
    Calls Tryd.prog 22 #[.pointer (some ⟨q, 0, none⟩)] w fun e w' => ∃ v, e = .returned (.tuple #[v, .bool true]) ∧ OwnBy w' w.heap.size v (ps.getD (ps.length - 1) []) ∧ Below w.heap.size w w' := by
  have H := Lib.hid h
  have hpos := List.length_pos_iff.2 hn
  obtain ⟨v, h1, h2, _⟩ := h
  obtain ⟨A, c, V, rfl, t1, e1, k1, _⟩ := h2.texts
  have d1 : w.cell? ⟨q, 1, none⟩ = some (.slice A ps.length c) := by rw [cell_of_rowAt h1]; rfl
  obtain ⟨m, hm⟩ : ∃ m, ps.length = m + 1 := ⟨ps.length - 1, by omega⟩
  obtain ⟨b3, o3, rfl, d3⟩ := t1.cell m (by omega)
  have y3 := t1.by_ m (by omega)
  have n3 := t1.nil m (by omega)
  have q3 := e1 m
  have hmem : ps.getD m [] ∈ ps := by simp [List.getD, List.getElem?_eq_getElem (show m < ps.length by omega)]
  have hle := hl _ hmem
  have em : ps.length - 1 = m := by omega
  rw [em]
  generalize V m = z3 at *
  obtain ⟨B3, e3, t3⟩ := z3
  dsimp only at d3 y3 q3 n3
  subst q3
  generalize ps.getD m [] = y at *
  have HY := Lib.hid y3
  have N3 := Lib.hid n3
  have hL : Hid (Calls Tryd.prog 21 #[.pointer (some ⟨q, 0, none⟩)] w fun e w' => e = .returned (.int .i64 (m + 1 : Nat)) ∧ w = w') := Lib.hid (by rw [← hm]; exact wlen_any H.out)
  rw [hm] at d1
  have hm' : m ≤ 1000000 := by omega
  clear h1 h2 t1 e1 y3 n3 hmem hl em hm hpos hn
  go_enter Tryd.func22, Tryd.ntmps22
  go_wp2_with fail
  refine hL.out.mono ?_
  rintro e _ ⟨rfl, rfl⟩
  go_wp2_with fail
  refine (clone_bytes B3 y e3 w HY.out N3.out (by omega)).mono ?_
  rintro e w1 ⟨v, rfl, hown, hb⟩
  have HO := Lib.hid hown
  have HB := Lib.hid hb
  clear hown hb
  go_wp2_with fail
  go_ret2
  exact ⟨_, rfl, HO.out, HB.out⟩
theorem wall_none (w : World) : Calls Tryd.prog 17 #[.pointer none] w fun e w' => e = .returned (.slice none 0 0) ∧ w = w' := by
  go_enter Tryd.func17, Tryd.ntmps17
  go_wp2_with fail
  refine (wlen_none w).mono ?_
  rintro e _ ⟨rfl, rfl⟩
  go_wp2_with fail
  go_loopw [3, 7] (fun v i w' => v = .slice none 0 0 ∧ i = .int .i64 0 ∧ w = w') (fun _ i _ => 0)
  case atStart => exact ⟨rfl, rfl, rfl⟩
  case round =>
    obtain ⟨rfl, rfl, rfl⟩ := hrel
    go_wp2_with fail
    go_ret
    exact ⟨rfl, rfl⟩
set_option maxHeartbeats 2000000 in
theorem wall_any {base : Nat} {w : World} {q p : Nat} {s f : Int} {b : List UInt8} {ps : List (List UInt8)} (h : LG base w q p s b f ps) (hlen : ps.length ≤ 1000000) (hl : ∀ t, t ∈ ps → t.length ≤ 1000000) :
    Calls Tryd.prog 17 #[.pointer (some ⟨q, 0, none⟩)] w fun e w' => ∃ v, e = .returned v ∧ OwnTx w' w.heap.size v ps ∧ Below w.heap.size w w' := by
  have H := Lib.hid h
  obtain ⟨v, h1, h2, _⟩ := h
  obtain ⟨A, c, V, rfl, t1, e1, k1, _⟩ := h2.texts
  have d1 : w.cell? ⟨q, 1, none⟩ = some (.slice A ps.length c) := by rw [cell_of_rowAt h1]; rfl
  have HT := Lib.hid t1
  have HE := Lib.hid e1
  have HL := Lib.hid hl
  clear h1 h2 t1 e1 hl
  go_enter Tryd.func17, Tryd.ntmps17
  go_wp2_with fail
  refine (wlen_any H.out).mono ?_
  rintro e _ ⟨rfl, rfl⟩
  go_wp2_with fail
  go_loopw [3, 7] (fun v i w' => ∃ (k : Nat) (v' : Value), v' = v ∧ k ≤ ps.length ∧ i = .int .i64 k ∧ OwnTx w' w.heap.size v' (ps.take k) ∧ Below w.heap.size w w') (fun _ i _ => ps.length - (intOf i).toNat)
  case atStart => exact ⟨0, _, rfl, Nat.zero_le _, rfl, OwnTx.nil _ _, Below.refl _ _⟩
  case round =>
    rename World => wr
    obtain ⟨k, vv, rfl, hk, rfl, hown, hb⟩ := hrel
    have HO := Lib.hid hown
    have HB := Lib.hid hb
    by_cases hlt : k < ps.length
    · obtain ⟨b3, o3, rfl, d3⟩ := HT.out.cell k hlt
      have y3 := (HT.out.by_ k hlt).below hb
      have n3 := HT.out.nil k hlt
      have q3 := HE.out k
      have f1 := (hb.cell (World.block_lt_of_cell? _ _ d1)).trans d1
      have f3 := (hb.cell (World.block_lt_of_cell? _ _ d3)).trans d3
      have hle : (ps.getD k []).length ≤ 1000000 := HL.out _ (by simp [List.getD, List.getElem?_eq_getElem hlt])
      have htk : ps.take (k + 1) = ps.take k ++ [ps.getD k []] := by
        rw [List.take_add_one, List.getElem?_eq_getElem hlt]
        simp [List.getD, List.getElem?_eq_getElem hlt]
      have hltk : (ps.take k).length ≤ 1000000 := by rw [List.length_take]; omega
      generalize V k = z3 at *
      obtain ⟨B3, e3, t3⟩ := z3
      dsimp only at f3 y3 q3 n3
      subst q3
      generalize ps.getD k [] = y at *
      have HY := Lib.hid y3
      have N3 := Lib.hid n3
      have HTK := Lib.hid htk
      have HLT := Lib.hid hown.lt
      clear d1 d3 y3 n3 hb hown htk
      go_wp2_with fail
      refine (clone_bytes B3 y e3 wr HY.out N3.out (by omega)).mono ?_
      rintro e w4 ⟨v4, rfl, hown, hb⟩
      obtain ⟨A4, c4, rfl, i1, i2, i3, i4⟩ := hown.isBy
      have HO4 := Lib.hid (HO.out.below hb)
      have HB4 := Lib.hid (HB.out.trans (hb.mono HB.out.size))
      have HI4 := Lib.hid i1
      have I3 := Lib.hid i3
      have I2 := Lib.hid i2
      have hap : y ≠ [] → ∀ x, A4 = some x → vv.ownBlock ≠ some x.block := fun _ x hx e => by
        have h1 := HLT.out _ e
        have h2 := i4 x hx
        omega
      have HAP := Lib.hid hap
      clear hap hown hb i1 i2 i3 i4 HO HB HLT f1 f3
      go_wp2_with (at_builtin; refine wl_append_text rfl _ _ rfl w.heap.size _ _ y A4 y.length c4 HO4.out rfl rfl rfl HI4.out rfl I3.out I2.out HAP.out ?c1 HB4.out.size ?_)
      case c1 => omega
      intro v5 w5 hown hb
      rw [← HTK.out] at hown
      have HO5 := Lib.hid hown
      have HB5 := Lib.hid (HB4.out.trans hb)
      clear hown hb HO4 HB4 HI4 HAP
      go_wp2_with fail
      go_roundw
      case rel => exact ⟨k + 1, _, rfl, by omega, by go_num, HO5.out, HB5.out⟩
      case measure => simp [intOf]; omega
    · obtain rfl : k = ps.length := by omega
      rw [List.take_length] at hown
      have HO := Lib.hid hown
      clear hown hb
      go_wp2_with fail
      go_ret
      exact ⟨_, rfl, HO.out, HB.out⟩
/-! What is done to a log. -/
theorem wappend_nil (A : Option Addr) (n c : Nat) (w : World) : Calls Tryd.prog 19 #[.pointer none, .slice A n c] w fun e w' => e = .returned (.int .i64 1) ∧ w = w' := by
  go_enter Tryd.func19, Tryd.ntmps19
  go_wp2_with fail
  go_ret
  exact ⟨rfl, rfl⟩
theorem wcompact_nil (w : World) : Calls Tryd.prog 20 #[.pointer none] w fun e w' => e = .returned (.int .i64 1) ∧ w = w' := by
  go_enter Tryd.func20, Tryd.ntmps20
  go_wp2_with fail
  go_ret
  exact ⟨rfl, rfl⟩
theorem wopen_nil (w : World) : Calls Tryd.prog 14 #[.pointer none] w fun e w' => e = .returned (.tuple #[.pointer none, .int .i64 1]) ∧ w = w' := by
  go_enter Tryd.func14, Tryd.ntmps14
  go_wp2_with fail
  go_ret2
  exact ⟨rfl, rfl⟩
theorem wappend_big {q : Nat} (A : Option Addr) (t : List UInt8) (c : Nat) (w : World) (h : 32768 < t.length) : Calls Tryd.prog 19 #[.pointer (some ⟨q, 0, none⟩), .slice A t.length c] w fun e w' => e = .returned (.int .i64 2) ∧ w = w' := by
  go_enter Tryd.func19, Tryd.ntmps19
  go_wp2_with fail
  refine (fput_big A t c w h).mono ?_
  rintro e _ ⟨rfl, rfl⟩
  go_wp2_with fail
  go_ret
  exact ⟨rfl, rfl⟩
set_option maxHeartbeats 1000000 in
theorem wappend_full {base : Nat} {w : World} {q p : Nat} {s f : Int} {b t : List UInt8} {A : Option Addr} {c : Nat} {ps : List (List UInt8)} (h : LG base w q p s b f ps) (hN : Nib w) (ht : IsBy w A t) (htc : t.length ≤ c) (hA : A = none → c = 0) (hlen : t.length ≤ 32768) (h0 : 0 ≤ s) (h1 : s ≤ 1099511627776) (h2 : b.length ≤ 1099511627776) (hn : s < (b.length : Int) + t.length + 8) :
    Calls Tryd.prog 19 #[.pointer (some ⟨q, 0, none⟩), .slice A t.length c] w fun e w' => e = .returned (.int .i64 7) ∧ Below w.heap.size w w' := by
  have H := Lib.hid h
  have HT := Lib.hid ht
  have HN := Lib.hid hN
  have hA' := Lib.hid hA
  clear h ht hN hA
  go_enter Tryd.func19, Tryd.ntmps19
  go_wp2_with fail
  refine (fput_any A t c w HN.out HT.out htc hA'.out hlen).mono ?_
  rintro e w1 ⟨v, rfl, hown, hb⟩
  have hpl := putL_len t
  obtain ⟨Av, cv, rfl, i1, i2, i3, _⟩ := hown.isBy
  have HB1 := Lib.hid hb
  have H1 := Lib.hid (H.out.below hb)
  obtain ⟨v0, r1, _⟩ := H1.out
  have d0 : w1.cell? ⟨q, 0, none⟩ = some (.pointer (some ⟨p, 0, none⟩)) := by rw [cell_of_rowAt r1]; rfl
  have HF := Lib.hid (dappend_full (t := putL t) (B := Av) (c' := cv) H1.out.dk h0 h1 h2 (by rw [putL_len]; omega))
  obtain ⟨m, hm⟩ : ∃ m, (putL t).length = m := ⟨_, rfl⟩
  rw [hm] at HF
  rw [hm]
  clear hown hb i1 i2 i3 r1 hpl hm
  go_wp2_with fail
  refine HF.out.mono ?_
  rintro e w2 ⟨rfl, hb⟩
  have HB2 := Lib.hid (bthen HB1.out hb)
  clear hb
  go_wp2_with fail
  go_ret
  exact ⟨rfl, HB2.out⟩
set_option maxHeartbeats 2000000 in
theorem wappend_ok {base : Nat} {w : World} {q p : Nat} {s f : Int} {b t : List UInt8} {A : Option Addr} {c : Nat} {ps : List (List UInt8)} (h : LG base w q p s b f ps) (hN : Nib w) (ht : IsBy w A t) (htc : t.length ≤ c) (hA : A = none → c = 0) (hlen : t.length ≤ 32768) (h0 : 0 ≤ s) (h1 : s ≤ 1099511627776) (h2 : b.length ≤ 1099511627776) (hn : (b.length : Int) + t.length + 8 ≤ s) (hps : ps.length ≤ 1000000) (hbase : base ≤ w.heap.size) :
    Calls Tryd.prog 19 #[.pointer (some ⟨q, 0, none⟩), .slice A t.length c] w fun e w' => e = .returned (.int .i64 0) ∧ LG base w' q p s (b ++ putL t) ((b ++ putL t).length : Nat) (ps ++ [t]) ∧ Below base w w' := by
  have H := Lib.hid h
  have HT := Lib.hid ht
  have HN := Lib.hid hN
  have hA' := Lib.hid hA
  clear h ht hN hA
  go_enter Tryd.func19, Tryd.ntmps19
  go_wp2_with fail
  refine (fput_any A t c w HN.out HT.out htc hA'.out hlen).mono ?_
  rintro e w1 ⟨v, rfl, hown, hb⟩
  have hpl := putL_len t
  obtain ⟨Av, cv, rfl, i1, i2, i3, _⟩ := hown.isBy
  have HB1 := Lib.hid (hb.mono hbase)
  have H1 := Lib.hid (H.out.below hb)
  have HT1 := Lib.hid (HT.out.below hb)
  have hs1 := hb.size
  obtain ⟨v0, r1, r2, r3, r4, r5⟩ := H1.out
  have d0 : w1.cell? ⟨q, 0, none⟩ = some (.pointer (some ⟨p, 0, none⟩)) := by rw [cell_of_rowAt r1]; rfl
  have hv0 := r2.lt
  have HF := Lib.hid (dappend_okY (Y := ApartT v0 (b ++ putL t)) (t := putL t) (B := Av) (c' := cv) r3 (fun h => absurd h (by intro h; have := congrArg List.length h; rw [putL_len] at this; simp at this)) (fun _ x hx _ y hy e => by
    injection hy with hy
    subst hy
    have := hv0 _ e
    omega) h0 h1 h2 i1 i2 (by rw [putL_len]; omega))
  obtain ⟨m, hm⟩ : ∃ m, (putL t).length = m := ⟨_, rfl⟩
  rw [hm] at HF
  rw [hm]
  have R := Lib.hid (And.intro r1 (And.intro r2 (And.intro r3 (And.intro r4 r5))))
  have hq : q < w1.heap.size := rowAt_lt r1
  clear hown hb i1 i2 i3 r1 r2 r3 hv0 hpl hm
  go_wp2_with fail
  refine HF.out.mono ?_
  rintro e w2 ⟨rfl, hd2, hb2⟩
  have hne := H1.out.ne
  obtain ⟨r1, r2, r3, r4, r5⟩ := R.out
  have J0 := Lib.hid r2
  obtain ⟨cc, r6⟩ := r3.dk.row
  have k1 := (hb2.row (rowAt_lt r1) hne).trans r1
  have k2 := r2.off r6 (by decide) r3.dk.noBy hb2
  have HB2 := Lib.hid (HB1.out.trans (hb2.below r5 (Nat.le_trans hbase hs1)))
  have HT2 := Lib.hid (isBy_off HT1.out r3.dk.noBy hb2)
  have d0 : w2.cell? ⟨q, 0, none⟩ = some (.pointer (some ⟨p, 0, none⟩)) := by rw [cell_of_rowAt k1]; rfl
  have HD2 := Lib.hid hd2
  have hs2 := hb2.size
  have K := Lib.hid (And.intro k1 k2)
  clear hd2 hb2 k1 k2 r1 r2 r3 r6 R HF
  go_wp2_with fail
  refine (dsync_anyX HD2.out).mono ?_
  rintro e w3 ⟨rfl, hd3, hb3⟩
  obtain ⟨k1, k2⟩ := K.out
  obtain ⟨cc, r6⟩ := HD2.out.dk.row
  have j1 := (hb3.row (rowAt_lt k1) hne).trans k1
  have j2 := k2.off r6 (by decide) HD2.out.dk.noBy hb3
  have HB3 := Lib.hid (HB2.out.trans (hb3.below r5 (Nat.le_trans (Nat.le_trans hbase hs1) hs2)))
  have HT3 := Lib.hid (isBy_off HT2.out HD2.out.dk.noBy hb3)
  have HD3 := Lib.hid hd3
  have J := Lib.hid (And.intro j1 j2)
  clear hd3 hb3 k1 k2 r6 j1 j2 K
  have hq3 : q < w3.heap.size := rowAt_lt J.out.1
  have d1 : w3.cell? ⟨q, 1, none⟩ = some v0 := by rw [cell_of_rowAt J.out.1]; rfl
  go_upto_region 8 with fail
  refine wp_region_held_drew (S := fun _ : World => True) (by kernel_rfl) trivial (fun hS => ?_)
  have hdr : Below w3.heap.size w3 w3.drew := (Below.refl _ _).drew
  have HB := Lib.hid (HB3.out.trans (hdr.mono (Nat.le_trans hbase HB3.out.size)))
  have HT := Lib.hid (HT3.out.below hdr)
  have HD := Lib.hid (HD3.out.below hdr)
  have J := Lib.hid (And.intro (rowKeep hdr J.out.1) (J.out.2.below hdr))
  clear hdr HT3 HD3 HB3 d1 hq3
  generalize w3.drew = W1 at *
  refine held_take (i := 0) (by simp only [List.getElem?_toArray, List.getElem?_cons_succ, List.getElem?_cons_zero]; rfl) (by decide +kernel) (by decide +kernel) (by decide +kernel) (by exact fun _ _ _ _ h => h) hS (by rfl) ?_
  apply Exists.intro
  refine ⟨fun w' hSw => ?_, ?_⟩
  · go_simp
    with_reducible rfl
  (try simp only [act_put, act_put_none, List.set_cons_zero, List.set_cons_succ])
  refine held_take (i := 1) (by simp only [List.getElem?_toArray, List.getElem?_cons_succ, List.getElem?_cons_zero]; rfl) (by decide +kernel) (by decide +kernel) (by decide +kernel) (by exact fun _ _ _ _ h => h) hS (by rfl) ?_
  apply Exists.intro
  refine ⟨fun w' hSw => ?_, ?_⟩
  · go_simp
    with_reducible rfl
  (try simp only [act_put, act_put_none, List.set_cons_zero, List.set_cons_succ])
  refine held_take (i := 2) (by simp only [List.getElem?_toArray, List.getElem?_cons_succ, List.getElem?_cons_zero]; rfl) (by decide +kernel) (by decide +kernel) (by decide +kernel) (by exact fun _ _ _ _ h => h) hS (by rfl) ?_
  apply Exists.intro
  refine ⟨fun w' hSw => ?_, ?_⟩
  · go_simp
    with_reducible rfl
  (try simp only [act_put, act_put_none, List.set_cons_zero, List.set_cons_succ])
  refine held_take (i := 3) (by simp only [List.getElem?_toArray, List.getElem?_cons_succ, List.getElem?_cons_zero]; rfl) (by decide +kernel) (by decide +kernel) (by decide +kernel) (by exact fun _ _ _ _ h => h) hS (by rfl) ?_
  apply Exists.intro
  refine ⟨fun w' hSw => ?_, ?_⟩
  · go_simp
    with_reducible rfl
  (try simp only [act_put, act_put_none, List.set_cons_zero, List.set_cons_succ])
  refine held_take (i := 5) (by simp only [List.getElem?_toArray, List.getElem?_cons_succ, List.getElem?_cons_zero]; rfl) (by decide +kernel) (by decide +kernel) (by decide +kernel) (by exact fun _ _ _ _ h => h) hS (by rfl) ?_
  apply Exists.intro
  refine ⟨fun w' hSw => ?_, ?_⟩
  · go_simp
    with_reducible rfl
  (try simp only [act_put, act_put_none, List.set_cons_zero, List.set_cons_succ])
  refine wpAnyH_ready (rs := [4, 6]) (by decide +kernel) (by simp) ?_
  refine AllReadyH.cons (i := 4) (by simp only [List.getElem?_toArray, List.getElem?_cons_succ, List.getElem?_cons_zero]; rfl) (fun K hK => ?_) ?_
  · have d1 : W1.cell? ⟨q, 1, none⟩ = some v0 := by rw [cell_of_rowAt J.out.1]; rfl
    go_simp
    refine hK.out _ _ trivial (fun _ => ?_)
    clear hK K d1
    (try simp only [act_put, act_put_none, List.set_cons_zero, List.set_cons_succ])
    refine wpAnyH_ready (rs := [6]) (by decide +kernel) (by simp) ?_
    refine AllReadyH.cons (i := 6) (by simp only [List.getElem?_toArray, List.getElem?_cons_succ, List.getElem?_cons_zero]; rfl) (fun K hK => ?_) ?_
    · go_simp
      go_at_call 36
      refine (clone_bytes A t c _ HT.out hA'.out (by omega)).mono ?_
      rintro e w5 ⟨v5, rfl, hown, hb⟩
      obtain ⟨A5, c5, rfl, i1, i2, i3, i4⟩ := hown.isBy
      have HB5 := Lib.hid (HB.out.trans (hb.mono (Nat.le_trans hbase HB.out.size)))
      have HD5 := Lib.hid (HD.out.below hb)
      have J5 := Lib.hid (And.intro (rowKeep hb J.out.1) (J.out.2.below hb))
      have hlt4 := J.out.2.lt
      have hap : t ≠ [] → ∀ x, A5 = some x → v0.ownBlock ≠ some x.block := fun _ x hx e => by
        have h1 := hlt4 _ e
        have h2 := i4 x hx
        omega
      have HI := Lib.hid i1
      have I3 := Lib.hid i3
      have I2 := Lib.hid i2
      have HAP := Lib.hid hap
      clear hown hb i1 i2 i3 i4 hlt4 hap J HD HT HB
      clear W1
      have HB := HB5
      have HD := HD5
      have J := J5
      clear HB5 HD5 J5
      rename World => W1
      go_simp
      refine hK.out _ _ trivial (fun _ => ?_)
      clear hK K
      (try simp only [act_put, act_put_none, List.set_cons_zero, List.set_cons_succ])
      refine wpAnyH_ready (rs := [7]) (by decide +kernel) (by simp) ?_
      refine AllReadyH.cons (i := 7) (by simp only [List.getElem?_toArray, List.getElem?_cons_succ, List.getElem?_cons_zero]; rfl) (fun K hK => ?_) ?_
      · go_simp
        refine hK.out _ _ trivial (fun _ => ?_)
        clear hK K
        (try simp only [act_put, act_put_none, List.set_cons_zero, List.set_cons_succ])
        refine wpAnyH_ready (rs := [8]) (by decide +kernel) (by simp) ?_
        refine AllReadyH.cons (i := 8) (by simp only [List.getElem?_toArray, List.getElem?_cons_succ, List.getElem?_cons_zero]; rfl) (fun K hK => ?_) ?_
        · rw [if_pos (by rfl)]
          refine wp_append_text _ _ rfl base _ ps t A5 t.length c5 J.out.2 rfl rfl rfl HI.out rfl I3.out I2.out HAP.out (by omega) (Nat.le_trans hbase HB.out.size) ?_
          intro v6 w6 ho6 hg6 hv6
          obtain ⟨A6, c6, V6, hv6e, _⟩ := ho6.texts
          subst hv6e
          obtain ⟨j1, j2⟩ := J.out
          have hqv : v0.ownBlock ≠ some q := fun e => by
            obtain ⟨cur, h6⟩ := j2.block e
            exact rowAt_ne h6 j1 (by decide) rfl
          have r6 : rowAt w6 q = some (#[.pointer (some ⟨p, 0, none⟩), v0], 67) := (rowAt_of_heap (hg6.block q (rowAt_lt j1) (fun e => hqv e.symm))).trans j1
          have HD6 := Lib.hid (HD.out.grownT j2 hg6 hv6)
          have HB6 := Lib.hid (HB.out.trans (j2.grownB hg6 (Nat.le_trans hbase HB.out.size)))
          have d1 : w6.cell? ⟨q, 1, none⟩ = some v0 := by rw [cell_of_rowAt r6]; rfl
          have f1 : w6.frozen? ⟨q, 1, none⟩ = false := frozen_of_rowAt r6 1
          have HO6 := Lib.hid ho6
          have HR6 := Lib.hid r6
          have hs6 := HB6.out.size
          clear ho6 hg6 hv6 j1 j2 r6 J HD HB
          refine hK.out _ _ trivial (fun _ => ?_)
          clear hK K
          (try simp only [act_put, act_put_none, List.set_cons_zero, List.set_cons_succ])
          refine held_take (i := 9) (by simp only [List.getElem?_toArray, List.getElem?_cons_succ, List.getElem?_cons_zero]; rfl) (by decide +kernel) (by decide +kernel) (by decide +kernel) (by exact fun _ _ _ _ h => h) hS (by rfl) ?_
          apply Exists.intro
          refine ⟨fun w' hSw => ?_, ?_⟩
          · go_simp
            with_reducible rfl
          (try simp only [act_put, act_put_none, List.set_cons_zero, List.set_cons_succ])
          refine held_take (i := 10) (by simp only [List.getElem?_toArray, List.getElem?_cons_succ, List.getElem?_cons_zero]; rfl) (by decide +kernel) (by decide +kernel) (by decide +kernel) (by exact fun _ _ _ _ h => h) hS (by rfl) ?_
          apply Exists.intro
          refine ⟨fun w' hSw => ?_, ?_⟩
          · go_simp
            with_reducible rfl
          (try simp only [act_put, act_put_none, List.set_cons_zero, List.set_cons_succ])
          refine wpAnyH_ready (rs := [11]) (by decide +kernel) (by simp) ?_
          refine AllReadyH.cons (i := 11) (by simp only [List.getElem?_toArray, List.getElem?_cons_succ, List.getElem?_cons_zero]; rfl) (fun K hK => ?_) ?_
          · go_simp
            refine hK.out _ _ trivial (fun _ => ?_)
            clear hK K
            (try simp only [act_put, act_put_none, List.set_cons_zero, List.set_cons_succ])
            refine wpAnyH_done (by decide +kernel) ?_ _
            go_wp2_with fail
            go_ret
            have e6 : (ps ++ [t]).length = ps.length + 1 := by simp
            rw [e6] at HO6 HD6
            have hbt : Bt q w6 (w6.setCell ⟨q, 1, none⟩ (.slice A6 (ps.length + 1) c6)) := Bt.setCell _ _ _ _
            have hno : NoBy w6 q := by
              obtain ⟨A7, c7, V7, rfl, _⟩ := J0.out.texts
              intro j y
              rw [cell_of_rowAt HR6.out]
              rcases j with _ | _ | j <;> simp [bc]
            refine ⟨rfl, ⟨_, (rowAt_setCell_same 1 _ HR6.out), HO6.out.off HR6.out (by decide) hno hbt, HD6.out.off hno hbt hne.symm, r4, r5⟩, HB6.out.trans (hbt.below r4 (Nat.le_trans hbase hs6))⟩
          exact AllReadyH.nil
        exact AllReadyH.nil
      exact AllReadyH.nil
    exact AllReadyH.nil
  refine AllReadyH.cons (i := 6) (by simp only [List.getElem?_toArray, List.getElem?_cons_succ, List.getElem?_cons_zero]; rfl) (fun K hK => ?_) ?_
  · go_simp
    go_at_call 36
    refine (clone_bytes A t c _ HT.out hA'.out (by omega)).mono ?_
    rintro e w5 ⟨v5, rfl, hown, hb⟩
    obtain ⟨A5, c5, rfl, i1, i2, i3, i4⟩ := hown.isBy
    have HB5 := Lib.hid (HB.out.trans (hb.mono (Nat.le_trans hbase HB.out.size)))
    have HD5 := Lib.hid (HD.out.below hb)
    have J5 := Lib.hid (And.intro (rowKeep hb J.out.1) (J.out.2.below hb))
    have hlt4 := J.out.2.lt
    have hap : t ≠ [] → ∀ x, A5 = some x → v0.ownBlock ≠ some x.block := fun _ x hx e => by
      have h1 := hlt4 _ e
      have h2 := i4 x hx
      omega
    have HI := Lib.hid i1
    have I3 := Lib.hid i3
    have I2 := Lib.hid i2
    have HAP := Lib.hid hap
    clear hown hb i1 i2 i3 i4 hlt4 hap J HD HT HB
    clear W1
    have HB := HB5
    have HD := HD5
    have J := J5
    clear HB5 HD5 J5
    rename World => W1
    go_simp
    refine hK.out _ _ trivial (fun _ => ?_)
    clear hK K
    (try simp only [act_put, act_put_none, List.set_cons_zero, List.set_cons_succ])
    refine wpAnyH_ready (rs := [4, 7]) (by decide +kernel) (by simp) ?_
    refine AllReadyH.cons (i := 4) (by simp only [List.getElem?_toArray, List.getElem?_cons_succ, List.getElem?_cons_zero]; rfl) (fun K hK => ?_) ?_
    · have d1 : W1.cell? ⟨q, 1, none⟩ = some v0 := by rw [cell_of_rowAt J.out.1]; rfl
      go_simp
      refine hK.out _ _ trivial (fun _ => ?_)
      clear hK K d1
      (try simp only [act_put, act_put_none, List.set_cons_zero, List.set_cons_succ])
      refine wpAnyH_ready (rs := [7]) (by decide +kernel) (by simp) ?_
      refine AllReadyH.cons (i := 7) (by simp only [List.getElem?_toArray, List.getElem?_cons_succ, List.getElem?_cons_zero]; rfl) (fun K hK => ?_) ?_
      · go_simp
        refine hK.out _ _ trivial (fun _ => ?_)
        clear hK K
        (try simp only [act_put, act_put_none, List.set_cons_zero, List.set_cons_succ])
        refine wpAnyH_ready (rs := [8]) (by decide +kernel) (by simp) ?_
        refine AllReadyH.cons (i := 8) (by simp only [List.getElem?_toArray, List.getElem?_cons_succ, List.getElem?_cons_zero]; rfl) (fun K hK => ?_) ?_
        · rw [if_pos (by rfl)]
          refine wp_append_text _ _ rfl base _ ps t A5 t.length c5 J.out.2 rfl rfl rfl HI.out rfl I3.out I2.out HAP.out (by omega) (Nat.le_trans hbase HB.out.size) ?_
          intro v6 w6 ho6 hg6 hv6
          obtain ⟨A6, c6, V6, hv6e, _⟩ := ho6.texts
          subst hv6e
          obtain ⟨j1, j2⟩ := J.out
          have hqv : v0.ownBlock ≠ some q := fun e => by
            obtain ⟨cur, h6⟩ := j2.block e
            exact rowAt_ne h6 j1 (by decide) rfl
          have r6 : rowAt w6 q = some (#[.pointer (some ⟨p, 0, none⟩), v0], 67) := (rowAt_of_heap (hg6.block q (rowAt_lt j1) (fun e => hqv e.symm))).trans j1
          have HD6 := Lib.hid (HD.out.grownT j2 hg6 hv6)
          have HB6 := Lib.hid (HB.out.trans (j2.grownB hg6 (Nat.le_trans hbase HB.out.size)))
          have d1 : w6.cell? ⟨q, 1, none⟩ = some v0 := by rw [cell_of_rowAt r6]; rfl
          have f1 : w6.frozen? ⟨q, 1, none⟩ = false := frozen_of_rowAt r6 1
          have HO6 := Lib.hid ho6
          have HR6 := Lib.hid r6
          have hs6 := HB6.out.size
          clear ho6 hg6 hv6 j1 j2 r6 J HD HB
          refine hK.out _ _ trivial (fun _ => ?_)
          clear hK K
          (try simp only [act_put, act_put_none, List.set_cons_zero, List.set_cons_succ])
          refine held_take (i := 9) (by simp only [List.getElem?_toArray, List.getElem?_cons_succ, List.getElem?_cons_zero]; rfl) (by decide +kernel) (by decide +kernel) (by decide +kernel) (by exact fun _ _ _ _ h => h) hS (by rfl) ?_
          apply Exists.intro
          refine ⟨fun w' hSw => ?_, ?_⟩
          · go_simp
            with_reducible rfl
          (try simp only [act_put, act_put_none, List.set_cons_zero, List.set_cons_succ])
          refine held_take (i := 10) (by simp only [List.getElem?_toArray, List.getElem?_cons_succ, List.getElem?_cons_zero]; rfl) (by decide +kernel) (by decide +kernel) (by decide +kernel) (by exact fun _ _ _ _ h => h) hS (by rfl) ?_
          apply Exists.intro
          refine ⟨fun w' hSw => ?_, ?_⟩
          · go_simp
            with_reducible rfl
          (try simp only [act_put, act_put_none, List.set_cons_zero, List.set_cons_succ])
          refine wpAnyH_ready (rs := [11]) (by decide +kernel) (by simp) ?_
          refine AllReadyH.cons (i := 11) (by simp only [List.getElem?_toArray, List.getElem?_cons_succ, List.getElem?_cons_zero]; rfl) (fun K hK => ?_) ?_
          · go_simp
            refine hK.out _ _ trivial (fun _ => ?_)
            clear hK K
            (try simp only [act_put, act_put_none, List.set_cons_zero, List.set_cons_succ])
            refine wpAnyH_done (by decide +kernel) ?_ _
            go_wp2_with fail
            go_ret
            have e6 : (ps ++ [t]).length = ps.length + 1 := by simp
            rw [e6] at HO6 HD6
            have hbt : Bt q w6 (w6.setCell ⟨q, 1, none⟩ (.slice A6 (ps.length + 1) c6)) := Bt.setCell _ _ _ _
            have hno : NoBy w6 q := by
              obtain ⟨A7, c7, V7, rfl, _⟩ := J0.out.texts
              intro j y
              rw [cell_of_rowAt HR6.out]
              rcases j with _ | _ | j <;> simp [bc]
            refine ⟨rfl, ⟨_, (rowAt_setCell_same 1 _ HR6.out), HO6.out.off HR6.out (by decide) hno hbt, HD6.out.off hno hbt hne.symm, r4, r5⟩, HB6.out.trans (hbt.below r4 (Nat.le_trans hbase hs6))⟩
          exact AllReadyH.nil
        exact AllReadyH.nil
      exact AllReadyH.nil
    refine AllReadyH.cons (i := 7) (by simp only [List.getElem?_toArray, List.getElem?_cons_succ, List.getElem?_cons_zero]; rfl) (fun K hK => ?_) ?_
    · go_simp
      refine hK.out _ _ trivial (fun _ => ?_)
      clear hK K
      (try simp only [act_put, act_put_none, List.set_cons_zero, List.set_cons_succ])
      refine wpAnyH_ready (rs := [4]) (by decide +kernel) (by simp) ?_
      refine AllReadyH.cons (i := 4) (by simp only [List.getElem?_toArray, List.getElem?_cons_succ, List.getElem?_cons_zero]; rfl) (fun K hK => ?_) ?_
      · have d1 : (W1.alloc (.cells #[.slice A5 t.length c5] 24)).cell? ⟨q, 1, none⟩ = some v0 := by rw [cell_of_rowAt (rowPast J.out.1)]; rfl
        go_simp
        refine hK.out _ _ trivial (fun _ => ?_)
        clear hK K d1
        (try simp only [act_put, act_put_none, List.set_cons_zero, List.set_cons_succ])
        refine wpAnyH_ready (rs := [8]) (by decide +kernel) (by simp) ?_
        refine AllReadyH.cons (i := 8) (by simp only [List.getElem?_toArray, List.getElem?_cons_succ, List.getElem?_cons_zero]; rfl) (fun K hK => ?_) ?_
        · rw [if_pos (by rfl)]
          refine wp_append_text _ _ rfl base _ ps t A5 t.length c5 J.out.2 rfl rfl rfl HI.out rfl I3.out I2.out HAP.out (by omega) (Nat.le_trans hbase HB.out.size) ?_
          intro v6 w6 ho6 hg6 hv6
          obtain ⟨A6, c6, V6, hv6e, _⟩ := ho6.texts
          subst hv6e
          obtain ⟨j1, j2⟩ := J.out
          have hqv : v0.ownBlock ≠ some q := fun e => by
            obtain ⟨cur, h6⟩ := j2.block e
            exact rowAt_ne h6 j1 (by decide) rfl
          have r6 : rowAt w6 q = some (#[.pointer (some ⟨p, 0, none⟩), v0], 67) := (rowAt_of_heap (hg6.block q (rowAt_lt j1) (fun e => hqv e.symm))).trans j1
          have HD6 := Lib.hid (HD.out.grownT j2 hg6 hv6)
          have HB6 := Lib.hid (HB.out.trans (j2.grownB hg6 (Nat.le_trans hbase HB.out.size)))
          have d1 : w6.cell? ⟨q, 1, none⟩ = some v0 := by rw [cell_of_rowAt r6]; rfl
          have f1 : w6.frozen? ⟨q, 1, none⟩ = false := frozen_of_rowAt r6 1
          have HO6 := Lib.hid ho6
          have HR6 := Lib.hid r6
          have hs6 := HB6.out.size
          clear ho6 hg6 hv6 j1 j2 r6 J HD HB
          refine hK.out _ _ trivial (fun _ => ?_)
          clear hK K
          (try simp only [act_put, act_put_none, List.set_cons_zero, List.set_cons_succ])
          refine held_take (i := 9) (by simp only [List.getElem?_toArray, List.getElem?_cons_succ, List.getElem?_cons_zero]; rfl) (by decide +kernel) (by decide +kernel) (by decide +kernel) (by exact fun _ _ _ _ h => h) hS (by rfl) ?_
          apply Exists.intro
          refine ⟨fun w' hSw => ?_, ?_⟩
          · go_simp
            with_reducible rfl
          (try simp only [act_put, act_put_none, List.set_cons_zero, List.set_cons_succ])
          refine held_take (i := 10) (by simp only [List.getElem?_toArray, List.getElem?_cons_succ, List.getElem?_cons_zero]; rfl) (by decide +kernel) (by decide +kernel) (by decide +kernel) (by exact fun _ _ _ _ h => h) hS (by rfl) ?_
          apply Exists.intro
          refine ⟨fun w' hSw => ?_, ?_⟩
          · go_simp
            with_reducible rfl
          (try simp only [act_put, act_put_none, List.set_cons_zero, List.set_cons_succ])
          refine wpAnyH_ready (rs := [11]) (by decide +kernel) (by simp) ?_
          refine AllReadyH.cons (i := 11) (by simp only [List.getElem?_toArray, List.getElem?_cons_succ, List.getElem?_cons_zero]; rfl) (fun K hK => ?_) ?_
          · go_simp
            refine hK.out _ _ trivial (fun _ => ?_)
            clear hK K
            (try simp only [act_put, act_put_none, List.set_cons_zero, List.set_cons_succ])
            refine wpAnyH_done (by decide +kernel) ?_ _
            go_wp2_with fail
            go_ret
            have e6 : (ps ++ [t]).length = ps.length + 1 := by simp
            rw [e6] at HO6 HD6
            have hbt : Bt q w6 (w6.setCell ⟨q, 1, none⟩ (.slice A6 (ps.length + 1) c6)) := Bt.setCell _ _ _ _
            have hno : NoBy w6 q := by
              obtain ⟨A7, c7, V7, rfl, _⟩ := J0.out.texts
              intro j y
              rw [cell_of_rowAt HR6.out]
              rcases j with _ | _ | j <;> simp [bc]
            refine ⟨rfl, ⟨_, (rowAt_setCell_same 1 _ HR6.out), HO6.out.off HR6.out (by decide) hno hbt, HD6.out.off hno hbt hne.symm, r4, r5⟩, HB6.out.trans (hbt.below r4 (Nat.le_trans hbase hs6))⟩
          exact AllReadyH.nil
        exact AllReadyH.nil
      exact AllReadyH.nil
    exact AllReadyH.nil
  exact AllReadyH.nil
end Go.Proofs.YtfnbcafilbafgaaDoor
