/-
  Layer 14 (message): the bytes of a message are read: whole, with more behind, or cut off.
-/
import Derived.Test.YtlocoieknabiaaaGreatZMFld
namespace Go.Proofs.YtlocoieknabiaaaGreat
set_option maxRecDepth 20000
open Go.RowKit
set_option linter.unusedSimpArgs false
set_option linter.unusedVariables false
attribute [local go_sem] rowCells rowAt_drewN get_ints getE_ints set_ints size_ints rowAt_alloc rowAt_drew setRow_alloc setRow_drewN setRow_drew setCell_alloc setCell_drewN splice_upd splice_put splice_all load_vec_cut load_vecs_cut load_rights_cut load_counter store_vec store_rights store_counter eql_vec neq_vec index_vec eql_rights neq_rights eql_counter index_vecs cut_ints sub_zero
attribute [local go_sem ↓] xload_vec xstore_vec xalloc_vec xeql_vec xneq_vec xindex_vec xbuild_vec0 xload_rights xstore_rights xalloc_rights xeql_rights xneq_rights xbuild_rights0 xload_vecs xindex_vecs xload_counter xstore_counter xalloc_counter xbuild_counter0 xeql_counter xbuild_counter3
attribute [local go_sem] rowAt_setRow rowAt_setCell load_vec_cut_later load_rights_later load_counter_later Later.cell Later.frozen build3_ints
attribute [local go_sem ↓] xload_field xstore_field xalloc_field xload_lock
attribute [local go_sem] load_field load_field_later store_field load_counter_cut load_lock_cut load_lock_later Fld.size Fld.get0 Fld.get1 Fld.get2 Fld.get586 Fld.getE0 Fld.getE1 Fld.getE2 Fld.getE586 Fld.cut_cnt Fld.cut_lock Fld.cut_all Fld.splice_all strT_size


/-- The cells of a message that is being read. -/
def MC (V : Nat → Int) (y : Bool) (s : Value) (a b : List UInt8) (k u v : Int) : Array Value := #[.int .i64 (V 0), .int .i64 (V 1), .int .i64 (V 2), .int .i64 (V 3), .int .i64 (V 4), .bool y, s, .int .i64 k, .string (strT a), .string (strT b), .int .i64 u, .int .i64 v]
theorem MC_set {V : Nat → Int} {y : Bool} {s : Value} {a b : List UInt8} {k u v : Int} {i : Nat} (hi : i < 5) (x : Int) : (MC V y s a b k u v).setIfInBounds i (.int .i64 x) = MC (fun j => if j = i then x else V j) y s a b k u v := by
  rcases lt_five hi with rfl | rfl | rfl | rfl | rfl <;> rfl
theorem MC_get {V : Nat → Int} {y : Bool} {s : Value} {a b : List UInt8} {k u v : Int} {i : Nat} (hi : i < 5) : (MC V y s a b k u v)[i]? = some (.int .i64 (V i)) := by
  rcases lt_five hi with rfl | rfl | rfl | rfl | rfl <;> rfl
theorem ptrs_get (q : Nat) {i : Nat} (hi : i < 5) : (ptrsC q)[i]? = some (.pointer (some ⟨q, i, none⟩)) := by
  rcases lt_five hi with rfl | rfl | rfl | rfl | rfl <;> rfl
structure DM (w wx : World) (p mb : Nat) (C : Array Value) : Prop where
  row : rowAt wx mb = some (C, 34)
  res : rowAt wx w.heap.size = some (msgC 0 0 0 0 0, 34)
  bel : Below w.heap.size w wx
  lo : w.heap.size < p
  hi : p < mb
section
variable {w wx wy : World} {p mb : Nat} {C D : Array Value}
theorem DM.only (h : DM w wx p mb C) (ho : Only p wx wy) : DM w wy p mb C :=
  ⟨ho.row (by have := h.hi; omega) h.row, ho.row (by have := h.lo; omega) h.res, h.bel.trans (ho.2.1.mono (Nat.le_of_lt h.lo)), h.lo, h.hi⟩
theorem DM.below (h : DM w wx p mb C) (hb : Below wx.heap.size wx wy) : DM w wy p mb C := ⟨rowKeep hb h.row, rowKeep hb h.res, bthen h.bel hb, h.lo, h.hi⟩
theorem DM.set (h : DM w wx p mb C) {i : Nat} {v : Value} (hD : C.setIfInBounds i v = D) : DM w (wx.setCell ⟨mb, i, none⟩ v) p mb D :=
  ⟨by rw [rowAt_setCell, if_pos rfl, h.row, ← hD]; rfl, by rw [rowAt_setCell, if_neg (by have := h.lo; have := h.hi; omega)]; exact h.res, below_setCell' h.bel (by have := h.lo; have := h.hi; omega), h.lo, h.hi⟩
theorem DM.rd {l : List UInt8} {e : Int} (h : DM w wx p mb C) (hr : Rd wx p l e) (i : Nat) (v : Value) : Rd (wx.setCell ⟨mb, i, none⟩ v) p l e := hr.below (B := mb) (below_setCell' (Below.refl _ _) (Nat.le_refl _)) h.hi
end
theorem KeepH.setCell {w : World} {p i : Nat} {v : Value} {c : Array Value} {t : TypeId} (hp : rowAt w p = some (c, t)) (ht : t ≠ 102) : KeepH w (w.setCell ⟨p, i, none⟩ v) := fun g cs' hr => heap_setCell_other w ⟨p, i, none⟩ g v (fun e => by
  have e : g = p := e
  subst e
  rw [hp] at hr
  injection hr with hr
  injection hr with _ hr
  exact ht hr)
theorem RF.setCell {w : World} {B : Nat} {L : Nat → Fld} {n : Nat} {A : Option Addr} {c : Nat} {H : Nat → Option Addr × Nat} {p i : Nat} {v : Value} {cs : Array Value} (h : RF w B L n A c H) (hp : rowAt w p = some (cs, 34)) : RF (w.setCell ⟨p, i, none⟩ v) B L n A c H :=
  h.keep (KeepH.setCell hp (by decide)) (by
    refine ⟨h.own.1, h.own.2.imp id ?_⟩
    rintro ⟨b, cap, cur, h1, h2, h3, h4⟩
    refine ⟨b, cap, cur, h1, h2, (heap_setCell_other w ⟨p, i, none⟩ b v (fun e => ?_)).trans h3, h4⟩
    have e : b = p := e
    subst e
    rw [rowAt_iff] at hp
    rw [hp] at h3
    injection h3 with h3
    injection h3 with _ h3
    exact absurd h3 (by decide))
theorem RF.only {w w' : World} {B : Nat} {L : Nat → Fld} {n : Nat} {A : Option Addr} {c : Nat} {H : Nat → Option Addr × Nat} {p : Nat} {cs : Array Value} (h : RF w B L n A c H) {t : TypeId} (ho : Only p w w') (hp : rowAt w p = some (cs, t)) (t1 : t ≠ 102) (t2 : t ≠ 79) : RF w' B L n A c H :=
  h.keep (KeepH.only ho hp t1) (by
    refine ⟨h.own.1, h.own.2.imp id ?_⟩
    rintro ⟨b, cap, cur, h1, h2, h3, h4⟩
    refine ⟨b, cap, cur, h1, h2, (ho.2.2 b (fun e => ?_) (Array.getElem?_eq_some_iff.1 h3).1).trans h3, h4⟩
    subst e
    rw [rowAt_iff] at hp
    rw [hp] at h3
    injection h3 with h3
    injection h3 with _ h3
    exact t2 h3)
theorem RF.mono {w : World} {B B' : Nat} {L : Nat → Fld} {n : Nat} {A : Option Addr} {c : Nat} {H : Nat → Option Addr × Nat} (h : RF w B L n A c H) (hb : B' ≤ B) : RF w B' L n A c H := ⟨own_mono h.own hb, h.ok⟩
def hdV (m : Msg) : Nat → Int := fun i => [m.kind, m.frm, m.to, m.ver, m.num].getD i 0
theorem msgW_split (m : Msg) : msgW m = catN 5 (hdV m) ++ (numB (yn m.yes) ++ (numB m.fn ++ (fldsF m.ver m.fl 0 m.fn ++ tlW m))) := by
  unfold msgW hdL
  rw [fldsW_F, show catN 5 (hdV m) = catB [m.kind, m.frm, m.to, m.ver, m.num] from rfl]
  simp only [catB, List.append_nil, List.append_assoc]
/-- A message, its fields elsewhere. -/
def reM (m : Msg) (A : Option Addr) (c : Nat) (H : Nat → Option Addr × Nat) : Msg := { m with fA := A, fc := c, fl := reF m.fl H }
theorem reM_right {m : Msg} (h : rightM m = true) (A : Option Addr) (c : Nat) (H : Nat → Option Addr × Nat) : rightM (reM m A c H) = true := by
  have e1 : ∀ F G : Fld, (F.name = G.name ∧ F.kind = G.kind ∧ F.epoch = G.epoch ∧ F.cnt = G.cnt ∧ F.lock = G.lock ∧ F.hn = G.hn ∧ F.hs = G.hs) → rightF F = rightF G ∧ ∀ v, sayB v F = sayB v G := by
    rintro ⟨_, _, _, _, _, _, _, _, _⟩ ⟨_, _, _, _, _, _, _, _, _⟩ ⟨h1, h2, h3, h4, h5, h6, h7⟩
    dsimp only at *
    subst h1 h2 h3 h4 h5 h6 h7
    exact ⟨rfl, fun _ => rfl⟩
  have e2 : fldsB m.fn (reF m.fl H) = fldsB m.fn m.fl := by
    have : fldAt (reF m.fl H) = fldAt m.fl := by funext i; cases i <;> rfl
    unfold fldsB
    rw [this]
  have e3 : sayAllB m.ver m.fn (reF m.fl H) = sayAllB m.ver m.fn m.fl := rfl
  rw [← h]
  unfold rightM hd2B
  show (hd1B m && (decide (0 ≤ m.num) && isB m.num && fldsB m.fn (reF m.fl H) && tweenB m.ver 1 3) && sayAllB m.ver m.fn (reF m.fl H) && tlB m) = _
  rw [e2, e3]
theorem right_head {m : Msg} (h : rightM m = true) : ∀ i, i < 5 → isB (hdV m i) = true := by
  simp only [rightM, hd1B, hd2B, tweenB, Bool.and_eq_true, decide_eq_true_eq] at h
  intro i hi
  rcases lt_five hi with rfl | rfl | rfl | rfl | rfl
  · exact isB_small (by have := h.1.1.1.1.1.1.1; show 0 ≤ m.kind; omega) (by have := h.1.1.1.1.1.1.2; show m.kind ≤ _; omega)
  · exact isB_small h.1.1.1.1.1.2.1 (by have := h.1.1.1.1.1.2.2; show m.frm ≤ _; omega)
  · exact isB_small h.1.1.1.1.2.1 (by have := h.1.1.1.1.2.2; show m.to ≤ _; omega)
  · exact isB_small (by have := h.1.1.2.2.1; show 0 ≤ m.ver; omega) (by have := h.1.1.2.2.2; show m.ver ≤ _; omega)
  · exact h.1.1.2.1.1.2
theorem zeroP_of {m : Msg} (h : zeroP m = true) : m.pk = 0 ∧ m.pn = [] ∧ m.po = [] ∧ m.pa = 0 ∧ m.pb = 0 := by
  simp only [zeroP, Bool.and_eq_true, decide_eq_true_eq, List.isEmpty_iff] at h
  exact ⟨h.1.1.1.1, h.1.1.1.2, h.1.1.2, h.1.2, h.2⟩
theorem right_zeroP {m : Msg} (h : rightM m = true) (hk : m.kind ≠ 2) : zeroP m = true := by
  simp only [rightM, Bool.and_eq_true] at h
  have := h.2
  unfold tlB at this
  split at this
  · cases this
  · split at this
    · cases this
    · exact this
theorem fed_of {α : Type} {c : Bool} {l Y r : List UInt8} {e e' : Int} {v n : α} (h : (e' = 0 ∧ e = 0 ∧ v = n ∧ Feed c l Y r) ∨ (c = true ∧ e' = 3)) : FedE c l Y r e' ∧ (e' = 0 → e = 0 ∧ v = n) := by
  rcases h with ⟨h1, h2, h3, h4⟩ | ⟨h1, h2⟩
  · exact ⟨.inl ⟨h1, h4⟩, fun _ => ⟨h2, h3⟩⟩
  · exact ⟨.inr ⟨h1, h2⟩, fun h => by omega⟩
theorem feed_end {c : Bool} {l r : List UInt8} {e : Int} (h : FedE c l [] r e) : (c = true ∧ e = 3 ∧ rdEnd l e = 3) ∨ (c = false ∧ e = 0 ∧ r ≠ [] ∧ rdEnd l e = 5) ∨ (c = false ∧ e = 0 ∧ r = [] ∧ rdEnd l e = 0) := by
  rcases h with ⟨rfl, h⟩ | ⟨rfl, rfl⟩
  · cases c with
    | true => obtain ⟨M, h1, _⟩ := h; simp at h1
    | false =>
      have h : l = [] ++ r := h
      rw [List.nil_append] at h
      subst h
      cases l with
      | nil => exact .inr (.inr ⟨rfl, rfl, rfl, rfl⟩)
      | cons x t => exact .inr (.inl ⟨rfl, rfl, by simp, by simp [rdEnd]⟩)
  · exact .inl ⟨rfl, rfl, by simp [rdEnd]⟩
theorem yn_one (b : Bool) : (yn b == 1) = b := by cases b <;> rfl
/-- What a reading of a message tells. -/
def MDec (w : World) (c : Bool) (r : List UInt8) (m : Msg) (x : Ending) (w' : World) : Prop :=
  Below w.heap.size w w' ∧ (c = true → x = .returned (.tuple #[.agg (msgC 0 0 0 0 0), .int .i64 3])) ∧ (c = false → r ≠ [] → x = .returned (.tuple #[.agg (msgC 0 0 0 0 0), .int .i64 5])) ∧
    (c = false → r = [] → ∃ A c' H, x = .returned (.tuple #[.agg (reM m A c' H).cells, .int .i64 0]) ∧ RF w' w.heap.size m.fl m.fn A c' H)
set_option maxHeartbeats 4000000 in
theorem mdecode_ok (m : Msg) (A : Option Addr) (ca : Nat) (l0 r : List UInt8) (c : Bool) (w : World) (hr : rightM m = true) (hI : IsBy w A l0) (hN : A = none → ca = 0) (hlen : l0.length ≤ 70368744170000) (hf : Feed c l0 (msgW m) r) :
    Calls Tryz.prog 23 #[.slice A l0.length ca] w (MDec w c r m) := by
  have HRM := Lib.hid hr
  have HI := Lib.hid (fun o => hI.alloc o)
  have HF := Lib.hid hf
  clear hI hr hf
  go_enter Tryz.func23, Tryz.ntmps23
  go_wp2_with fail
  refine (new_len (HI.out _) hN (Nat.le_trans hlen (by decide)) rfl).mono ?_
  rintro e w1 ⟨p, rfl, hr, hp, hb⟩
  have hp0 : w.heap.size < p := by have := hp; simp at this; omega
  have hp1 := hr.lt
  have HS0 : Hid (∀ W : World, W = (w1.alloc (.cells (msgC 0 0 0 0 0) 34)).alloc (.cells (ptrsC w1.heap.size) 94) → DM w W p w1.heap.size (MC (fun _ => 0) false (.slice none 0 0) [] [] 0 0 0) ∧ Rd W p l0 0 ∧ rowAt W (w1.heap.size + 1) = some (ptrsC w1.heap.size, 94)) := Lib.hid (by
    rintro W rfl
    exact ⟨⟨rowPast (rowAt_alloc_at _ _ _ _ rfl), rowPast (rowPast (rowKeep hb (rowAt_alloc_at _ _ _ _ rfl))), below_allocS (below_allocS (bthen (below_allocS (Below.refl _ _) _) hb) _) _, hp0, hp1⟩,
      hr.below (B := w1.heap.size) (((Below.refl _ _).alloc (Nat.le_refl _) _).alloc (by simp) _) hp1, rowAt_alloc_at _ _ _ _ (by simp)⟩)
  have hfd := HF.out
  rw [msgW_split] at hfd
  have HF := Lib.hid hfd
  have HH := Lib.hid (right_head HRM.out)
  clear hr hp hb hfd
  go_wp2_with fail
  go_loopw [20] (fun i w' => ∃ (k : Nat) (l : List UInt8) (e : Int) (V : Nat → Int), k ≤ 5 ∧ i = .int .i64 k ∧ Rd w' p l e ∧ FedE c l (catN (5 - k) (fun j => hdV m (k + j)) ++ (numB (yn m.yes) ++ (numB m.fn ++ (fldsF m.ver m.fl 0 m.fn ++ tlW m)))) r e ∧ l.length ≤ l0.length ∧ (e = 0 → ∀ j, j < k → V j = hdV m j) ∧ DM w w' p w1.heap.size (MC V false (.slice none 0 0) [] [] 0 0 0) ∧ rowAt w' (w1.heap.size + 1) = some (ptrsC w1.heap.size, 94)) (fun i _ => 5 - (intOf i).toNat)
  case atStart =>
    obtain ⟨q1, q2, q3⟩ := HS0.out _ rfl
    exact ⟨0, l0, 0, fun _ => 0, Nat.zero_le _, rfl, q2, .inl ⟨rfl, by simpa using HF.out⟩, Nat.le_refl _, fun _ j hj => by omega, q1, q3⟩
  case round =>
    rename World => wr
    obtain ⟨k, l, e, V, hk, rfl, hr, hf, hl, hv, hd, hpt⟩ := hrel
    clear HS0 HF
    have HR := Lib.hid hr
    have HV := Lib.hid hv
    have HD := Lib.hid hd
    by_cases hlt : k < 5
    · have hc : wr.cell? ⟨w1.heap.size + 1, k, none⟩ = some (.pointer (some ⟨w1.heap.size, k, none⟩)) := by rw [cell_of_rowAt hpt]; exact ptrs_get _ hlt
      rw [catN_left (hdV m) hlt, List.append_assoc] at hf
      have HFE := Lib.hid hf
      have HPT := Lib.hid hpt
      clear hr hf hv hd hpt
      go_wp2_with fail
      refine (rnum_feed HR.out (Nat.le_trans hl (Nat.le_trans hlen (by decide))) (HH.out k hlt) HFE.out).mono ?_
      rintro x w2 ⟨a, l2, e2, rfl, hr, hcase, hl2, ho⟩
      have hd := HD.out.only ho
      have hz := frozen_of_rowAt hd.row k
      have hcc : w2.cell? ⟨w1.heap.size, k, none⟩ = some (.int .i64 (V k)) := by rw [cell_of_rowAt hd.row]; exact MC_get hlt
      have hpt := ho.row (by have := hd.hi; omega) HPT.out
      have HW : Hid (Rd (w2.setCell ⟨w1.heap.size, k, none⟩ (.int .i64 a)) p l2 e2 ∧ FedE c l2 (catN (5 - (k + 1)) (fun j => hdV m (k + 1 + j)) ++ (numB (yn m.yes) ++ (numB m.fn ++ (fldsF m.ver m.fl 0 m.fn ++ tlW m)))) r e2 ∧ l2.length ≤ l0.length ∧ (e2 = 0 → ∀ j, j < k + 1 → (fun j => if j = k then a else V j) j = hdV m j) ∧ DM w (w2.setCell ⟨w1.heap.size, k, none⟩ (.int .i64 a)) p w1.heap.size (MC (fun j => if j = k then a else V j) false (.slice none 0 0) [] [] 0 0 0) ∧ rowAt (w2.setCell ⟨w1.heap.size, k, none⟩ (.int .i64 a)) (w1.heap.size + 1) = some (ptrsC w1.heap.size, 94)) := Lib.hid (by
        refine ⟨hd.rd hr _ _, ?_, Nat.le_trans hl2 hl, ?_, hd.set (MC_set hlt a), by rw [rowAt_setCell, if_neg (by omega)]; exact hpt⟩
        · rcases hcase with ⟨h1, _, _, h4⟩ | ⟨h1, h2⟩
          · exact .inl ⟨h1, h4⟩
          · exact .inr ⟨h1, h2⟩
        · rcases hcase with ⟨h1, h2, h3, _⟩ | ⟨h1, h2⟩
          · intro _ j hj
            by_cases hjk : j = k
            · simp only [hjk, if_true]; exact h3
            · simp only [hjk, if_false]; exact HV.out h2 j (by omega)
          · intro h0; omega)
      clear hr hcase ho hd hpt HR HV HD HFE HPT hc
      go_wp2_with fail
      go_roundw
      case rel => exact ⟨k + 1, l2, e2, _, by omega, by go_num, HW.out⟩
      case measure => simp [intOf]; omega
    · obtain rfl : k = 5 := by omega
      rw [Nat.sub_self, catN_zero, List.nil_append] at hf
      have HFE := Lib.hid hf
      have HYB : Hid (isB (yn m.yes) = true ∧ 0 ≤ yn m.yes ∧ yn m.yes ≤ 1) := Lib.hid (by unfold yn; split <;> exact ⟨by decide, by decide, by decide⟩)
      clear hr hf hv hd hpt
      go_wp2_with fail
      refine (count_feed HR.out (Nat.le_trans hl (Nat.le_trans hlen (by decide))) HYB.out.1 HYB.out.2.1 HYB.out.2.2 HFE.out).mono ?_
      rintro x w2 ⟨a, l2, e2, rfl, hr, hcase, hl2, ho⟩
      have hfo := fed_of (c := c) (l := l2) (Y := numB m.fn ++ (fldsF m.ver m.fl 0 m.fn ++ tlW m)) (r := r) (hcase.imp id fun h => ⟨h.1, h.2.1⟩)
      have HF2 := Lib.hid hfo.1
      have HV2 : Hid (e2 = 0 → a = yn m.yes ∧ ∀ j, j < 5 → V j = hdV m j) := Lib.hid (fun h => ⟨(hfo.2 h).2, HV.out (hfo.2 h).1⟩)
      obtain ⟨y, hy⟩ : ∃ y, (a == 1) = y := ⟨_, rfl⟩
      have hd := HD.out.only ho
      obtain ⟨W3, hW3⟩ : ∃ W3, w2.setCell ⟨w1.heap.size, 5, none⟩ (.bool y) = W3 := ⟨_, rfl⟩
      have z5 : w2.cell? ⟨w1.heap.size, 5, none⟩ = some (.bool false) := by rw [cell_of_rowAt hd.row]; rfl
      have f5 := frozen_of_rowAt hd.row 5
      have hd3 : DM w W3 p w1.heap.size (MC V y (.slice none 0 0) [] [] 0 0 0) := by rw [← hW3]; exact hd.set rfl
      have HR3 : Hid (Rd W3 p l2 e2) := Lib.hid (by rw [← hW3]; exact hd.rd hr _ _)
      have g3 : W3.cell? ⟨w1.heap.size, 3, none⟩ = some (.int .i64 (V 3)) := by rw [cell_of_rowAt hd3.row]; rfl
      have HB3S := Lib.hid hd3.bel.size
      have HD3 := Lib.hid hd3
      have HY := Lib.hid hy
      have hfn := right_fn HRM.out
      clear hr hcase ho hfo hd hd3 HR HV HD HFE HYB
      go_wp2_with fail
      refine (mfields_ok p c l2 (tlW m) r e2 m.ver (V 3) m.fl m.fn W3 HR3.out (Nat.le_trans hl2 (Nat.le_trans hl hlen)) hfn (fun i hi => right_say HRM.out hi) HF2.out (fun h => (HV2.out h).2 3 (by decide))).mono ?_
      rintro x w4 ⟨ho, hcase⟩
      have hd4 := HD3.out.only ho
      have HD4 := Lib.hid hd4
      clear g3 hW3 z5 f5 hd4 HD3 HR3 HF2
      rcases hcase with ⟨he2, A', c', l4, H, rfl, hr4, hfd, hl4, hrf⟩ | ⟨hc, l4, rfl, hr4, hl4⟩
      rotate_left
      · have HC := Lib.hid hc
        clear hr4 hl4 ho hc
        have hres := HD4.out.res
        have y0 : w4.cell? ⟨w.heap.size, 0, none⟩ = some (.int .i64 0) := by rw [cell_of_rowAt hres]; rfl
        have y1 : w4.cell? ⟨w.heap.size, 1, none⟩ = some (.int .i64 0) := by rw [cell_of_rowAt hres]; rfl
        have y2 : w4.cell? ⟨w.heap.size, 2, none⟩ = some (.int .i64 0) := by rw [cell_of_rowAt hres]; rfl
        have y3 : w4.cell? ⟨w.heap.size, 3, none⟩ = some (.int .i64 0) := by rw [cell_of_rowAt hres]; rfl
        have y4 : w4.cell? ⟨w.heap.size, 4, none⟩ = some (.int .i64 0) := by rw [cell_of_rowAt hres]; rfl
        have y5 : w4.cell? ⟨w.heap.size, 5, none⟩ = some (.bool false) := by rw [cell_of_rowAt hres]; rfl
        have y6 : w4.cell? ⟨w.heap.size, 6, none⟩ = some (.slice none 0 0) := by rw [cell_of_rowAt hres]; rfl
        have y7 : w4.cell? ⟨w.heap.size, 7, none⟩ = some (.int .i64 0) := by rw [cell_of_rowAt hres]; rfl
        have y8 : w4.cell? ⟨w.heap.size, 8, none⟩ = some (.string ByteArray.empty) := by rw [cell_of_rowAt hres]; rfl
        have y9 : w4.cell? ⟨w.heap.size, 9, none⟩ = some (.string ByteArray.empty) := by rw [cell_of_rowAt hres]; rfl
        have y10 : w4.cell? ⟨w.heap.size, 10, none⟩ = some (.int .i64 0) := by rw [cell_of_rowAt hres]; rfl
        have y11 : w4.cell? ⟨w.heap.size, 11, none⟩ = some (.int .i64 0) := by rw [cell_of_rowAt hres]; rfl
        have yz := frozen_of_rowAt hres
        have HBE := Lib.hid HD4.out.bel
        go_wp2_with fail
        have hfin := set12 (v0 := .int .i64 0) (v1 := .int .i64 0) (v2 := .int .i64 0) (v3 := .int .i64 0) (v4 := .int .i64 0) (v5 := .bool false) (v6 := .slice none 0 0) (v7 := .int .i64 0) (v8 := .string ByteArray.empty) (v9 := .string ByteArray.empty) (v10 := .int .i64 0) (v11 := .int .i64 0) hres
        have hl := load_msg_row hfin rfl
        refine ret_ct (v := .agg (msgC 0 0 0 0 0)) (u := .int .i64 3) (by rfl) (by with_unfolding_all rfl) (by with_unfolding_all rfl) (by rfl) hl ?_
        refine ⟨?_, fun _ => rfl, fun h => (by rw [HC.out] at h; cases h), fun h => (by rw [HC.out] at h; cases h)⟩
        iterate 12 refine below_setCell' ?_ (Nat.le_refl _)
        exact HBE.out
      · have hvv := HV2.out he2
        have HVV := Lib.hid hvv.2
        have HYY : Hid (y = m.yes) := Lib.hid (by rw [← HY.out, hvv.1, yn_one])
        obtain ⟨W5, hW5⟩ : ∃ W5, w4.setCell ⟨w1.heap.size, 6, none⟩ (.slice A' m.fn c') = W5 := ⟨_, rfl⟩
        have z6 : w4.cell? ⟨w1.heap.size, 6, none⟩ = some (.slice none 0 0) := by rw [cell_of_rowAt HD4.out.row]; rfl
        have f6 := frozen_of_rowAt HD4.out.row 6
        have hd5 : DM w W5 p w1.heap.size (MC V y (.slice A' m.fn c') [] [] 0 0 0) := by rw [← hW5]; exact HD4.out.set rfl
        have HR5 : Hid (Rd W5 p l4 0) := Lib.hid (by rw [← hW5]; exact HD4.out.rd hr4 _ _)
        have HRF5 : Hid (RF W5 w.heap.size m.fl m.fn A' c' H) := Lib.hid (by
          rw [← hW5]
          exact (hrf.setCell (i := 6) (v := .slice A' m.fn c') HD4.out.row).mono HB3S.out)
        have HD5 := Lib.hid hd5
        have HFD := Lib.hid hfd
        have g0 : W5.cell? ⟨w1.heap.size, 0, none⟩ = some (.int .i64 m.kind) := by rw [cell_of_rowAt hd5.row, ← show hdV m 0 = m.kind from rfl, ← HVV.out 0 (by decide)]; rfl
        clear hvv hr4 hfd hrf ho hd5 HD4 HV2 HY he2
        by_cases hk2 : m.kind = 2
        · have hpl := right_plan HRM.out hk2
          have hpn := plan_names hpl
          have hkb : (m.kind == 2) = true := by simp [hk2]
          have HPI : Hid (isB m.pk = true ∧ isB m.pa = true ∧ isB m.pb = true) := Lib.hid (by
            simp only [planB, Bool.and_eq_true, decide_eq_true_eq] at hpl
            exact ⟨isB_small (by omega) (by omega), hpl.1.1.2, hpl.1.2⟩)
          have hfd := HFD.out
          rw [show tlW m = numB m.pk ++ (numB m.pa ++ (numB m.pb ++ (numB m.pn.length ++ (m.pn ++ (numB m.po.length ++ (m.po ++ [])))))) by unfold tlW; rw [if_pos hk2]; simp only [catB, txtW, List.append_nil, List.append_assoc]] at hfd
          have HPB : Hid (m.pn.length ≤ 9223372036854775807 ∧ m.po.length ≤ 9223372036854775807) := Lib.hid ⟨Nat.le_trans hpn.1 (by decide), Nat.le_trans hpn.2 (by decide)⟩
          have HPN := Lib.hid hpn
          have HF5 : Hid (FedE c l4 (numB m.pk ++ (numB m.pa ++ (numB m.pb ++ (numB m.pn.length ++ (m.pn ++ (numB m.po.length ++ (m.po ++ []))))))) r 0) := Lib.hid (.inl ⟨rfl, hfd⟩)
          have hl5' : l4.length ≤ 70368744170000 := Nat.le_trans hl4 (Nat.le_trans hl2 (Nat.le_trans hl hlen))
          clear hk2 hpl hpn hfd HFD
          go_wp2_with fail
          clear hW5 z6 f6 g0
          refine (rnum_feed HR5.out (Nat.le_trans hl5' (by decide)) HPI.out.1 HF5.out).mono ?_
          rintro x w6 ⟨a6, l6, e6, rfl, hr6, hcase, hl6, ho⟩
          have hfo := fed_of hcase
          have HF6 := Lib.hid hfo.1
          have HV6 := Lib.hid hfo.2
          have HD6 := Lib.hid (HD5.out.only ho)
          have HR6 := Lib.hid hr6
          have HRF6 := Lib.hid (HRF5.out.only ho (rd_row HR5.out).choose_spec (by decide) (by decide))
          have hl6' := Nat.le_trans hl6 hl5'
          clear hcase hfo hr6 ho HR5 HD5 HRF5 HF5
          go_wp2_with fail
          refine (rnum_feed HR6.out (Nat.le_trans hl6' (by decide)) HPI.out.2.1 HF6.out).mono ?_
          rintro x w7 ⟨a7, l7, e7, rfl, hr7, hcase, hl7, ho⟩
          have hfo := fed_of hcase
          have HF7 := Lib.hid hfo.1
          have HV7 := Lib.hid hfo.2
          have HD7 := Lib.hid (HD6.out.only ho)
          have HR7 := Lib.hid hr7
          have HRF7 := Lib.hid (HRF6.out.only ho (rd_row HR6.out).choose_spec (by decide) (by decide))
          have hl7' := Nat.le_trans hl7 hl6'
          clear hcase hfo hr7 ho HR6 HD6 HRF6 HF6
          go_wp2_with fail
          refine (rnum_feed HR7.out (Nat.le_trans hl7' (by decide)) HPI.out.2.2 HF7.out).mono ?_
          rintro x w8 ⟨a8, l8, e8, rfl, hr8, hcase, hl8, ho⟩
          have hfo := fed_of hcase
          have HF8 := Lib.hid hfo.1
          have HV8 := Lib.hid hfo.2
          have HD8 := Lib.hid (HD7.out.only ho)
          have HR8 := Lib.hid hr8
          have HRF8 := Lib.hid (HRF7.out.only ho (rd_row HR7.out).choose_spec (by decide) (by decide))
          have hl8' := Nat.le_trans hl8 hl7'
          clear hcase hfo hr8 ho HR7 HD7 HRF7 HF7
          have hr8 := HD8.out.row
          have z7 : w8.cell? ⟨w1.heap.size, 7, none⟩ = some (.int .i64 0) := by rw [cell_of_rowAt hr8]; rfl
          have z10 : w8.cell? ⟨w1.heap.size, 10, none⟩ = some (.int .i64 0) := by rw [cell_of_rowAt hr8]; rfl
          have z11 : w8.cell? ⟨w1.heap.size, 11, none⟩ = some (.int .i64 0) := by rw [cell_of_rowAt hr8]; rfl
          have zf := frozen_of_rowAt hr8
          obtain ⟨W9, hW9⟩ : ∃ W9, ((w8.setCell ⟨w1.heap.size, 7, none⟩ (.int .i64 a6)).setCell ⟨w1.heap.size, 10, none⟩ (.int .i64 a7)).setCell ⟨w1.heap.size, 11, none⟩ (.int .i64 a8) = W9 := ⟨_, rfl⟩
          have q1 := HD8.out.set (i := 7) (v := .int .i64 a6) (D := MC V y (.slice A' m.fn c') [] [] a6 0 0) rfl
          have q2 := q1.set (i := 10) (v := .int .i64 a7) (D := MC V y (.slice A' m.fn c') [] [] a6 a7 0) rfl
          have q3 := q2.set (i := 11) (v := .int .i64 a8) (D := MC V y (.slice A' m.fn c') [] [] a6 a7 a8) rfl
          have HR9 : Hid (Rd W9 p l8 e8) := Lib.hid (by rw [← hW9]; exact q2.rd (q1.rd (HD8.out.rd HR8.out _ _) _ _) _ _)
          have HRF9 : Hid (RF W9 w.heap.size m.fl m.fn A' c' H) := Lib.hid (by rw [← hW9]; exact ((HRF8.out.setCell HD8.out.row).setCell q1.row).setCell q2.row)
          have HD9 : Hid (DM w W9 p w1.heap.size (MC V y (.slice A' m.fn c') [] [] a6 a7 a8)) := Lib.hid (by rw [← hW9]; exact q3)
          clear q1 q2 q3 hr8 HD8 HR8 HRF8
          go_wp2_with fail
          clear z7 z10 z11 zf hW9
          refine (rtext_feed HR9.out (Nat.le_trans hl8' (by decide)) (isB_small (by omega) (by have := HPN.out.1; omega)) (by have := HPN.out.1; omega) HF8.out).mono ?_
          rintro x w10 ⟨s10, l10, e10, rfl, hr10, hcase, hl10, ho⟩
          have hfo := fed_of hcase
          have HF10 := Lib.hid hfo.1
          have HV10 := Lib.hid hfo.2
          have HD10 := Lib.hid (HD9.out.only ho)
          have HR10 := Lib.hid hr10
          have HRF10 := Lib.hid (HRF9.out.only ho (rd_row HR9.out).choose_spec (by decide) (by decide))
          have hl10' := Nat.le_trans hl10 hl8'
          clear hcase hfo hr10 ho HR9 HD9 HRF9 HF8
          go_wp2_with fail
          refine (rtext_feed HR10.out (Nat.le_trans hl10' (by decide)) (isB_small (by omega) (by have := HPN.out.2; omega)) (by have := HPN.out.2; omega) HF10.out).mono ?_
          rintro x w11 ⟨s11, l11, e11, rfl, hr11, hcase, hl11, ho⟩
          have hfo := fed_of hcase
          have HF11 := Lib.hid hfo.1
          have HV11 := Lib.hid hfo.2
          have HD11 := Lib.hid (HD10.out.only ho)
          have HR11 := Lib.hid hr11
          have HRF11 := Lib.hid (HRF10.out.only ho (rd_row HR10.out).choose_spec (by decide) (by decide))
          have hl11' := Nat.le_trans hl11 hl10'
          clear hcase hfo hr11 ho HR10 HD10 HRF10 HF10
          have hr8 := HD11.out.row
          have z8 : w11.cell? ⟨w1.heap.size, 8, none⟩ = some (.string (strT [])) := by rw [cell_of_rowAt hr8]; rfl
          have z9 : w11.cell? ⟨w1.heap.size, 9, none⟩ = some (.string (strT [])) := by rw [cell_of_rowAt hr8]; rfl
          have zf := frozen_of_rowAt hr8
          obtain ⟨W12, hW12⟩ : ∃ W12, (w11.setCell ⟨w1.heap.size, 8, none⟩ (.string (strB s10))).setCell ⟨w1.heap.size, 9, none⟩ (.string (strB s11)) = W12 := ⟨_, rfl⟩
          have q1 := HD11.out.set (i := 8) (v := .string (strB s10)) (D := MC V y (.slice A' m.fn c') s10 [] a6 a7 a8) rfl
          have q2 := q1.set (i := 9) (v := .string (strB s11)) (D := MC V y (.slice A' m.fn c') s10 s11 a6 a7 a8) rfl
          have HRX : Hid (Rd W12 p l11 e11) := Lib.hid (by rw [← hW12]; exact q1.rd (HD11.out.rd HR11.out _ _) _ _)
          have HRF12 : Hid (RF W12 w.heap.size m.fl m.fn A' c' H) := Lib.hid (by rw [← hW12]; exact (HRF11.out.setCell HD11.out.row).setCell q1.row)
          have HDX : Hid (DM w W12 p w1.heap.size (MC V y (.slice A' m.fn c') s10 s11 a6 a7 a8)) := Lib.hid (by rw [← hW12]; exact q2)
          have HFX := HF11
          have HVX : Hid (e11 = 0 → MC V y (.slice A' m.fn c') s10 s11 a6 a7 a8 = (reM m A' c' H).cells ∧ RF W12 w.heap.size m.fl m.fn A' c' H) := Lib.hid (fun h11 => by
            obtain ⟨h10, i11⟩ := HV11.out h11
            obtain ⟨h8, i10⟩ := HV10.out h10
            obtain ⟨h7, i8⟩ := HV8.out h8
            obtain ⟨h6, i7⟩ := HV7.out h7
            obtain ⟨_, i6⟩ := HV6.out h6
            refine ⟨?_, HRF12.out⟩
            unfold MC Msg.cells reM
            rw [HVV.out 0 (by decide), HVV.out 1 (by decide), HVV.out 2 (by decide), HVV.out 3 (by decide), HVV.out 4 (by decide), HYY.out, i11, i10, i8, i7, i6]
            rfl)
          clear q1 q2 hr8 HD11 HR11 HRF11 HRF12 HF11 HVV HYY HV11 HV10 HV8 HV7 HV6
          go_upto_region 17 with fail
          clear z8 z9 zf hW12
          rcases feed_end HFX.out with ⟨hc, he, hE⟩ | ⟨hc, he, hne, hE⟩ | ⟨hc, he, hnil, hE⟩
          · have HC := Lib.hid hc
            have HE := Lib.hid hE
            clear hc he hE
            have hres := HDX.out.res
            have y0 : W12.cell? ⟨w.heap.size, 0, none⟩ = some (.int .i64 0) := by rw [cell_of_rowAt hres]; rfl
            have y1 : W12.cell? ⟨w.heap.size, 1, none⟩ = some (.int .i64 0) := by rw [cell_of_rowAt hres]; rfl
            have y2 : W12.cell? ⟨w.heap.size, 2, none⟩ = some (.int .i64 0) := by rw [cell_of_rowAt hres]; rfl
            have y3 : W12.cell? ⟨w.heap.size, 3, none⟩ = some (.int .i64 0) := by rw [cell_of_rowAt hres]; rfl
            have y4 : W12.cell? ⟨w.heap.size, 4, none⟩ = some (.int .i64 0) := by rw [cell_of_rowAt hres]; rfl
            have y5 : W12.cell? ⟨w.heap.size, 5, none⟩ = some (.bool false) := by rw [cell_of_rowAt hres]; rfl
            have y6 : W12.cell? ⟨w.heap.size, 6, none⟩ = some (.slice none 0 0) := by rw [cell_of_rowAt hres]; rfl
            have y7 : W12.cell? ⟨w.heap.size, 7, none⟩ = some (.int .i64 0) := by rw [cell_of_rowAt hres]; rfl
            have y8 : W12.cell? ⟨w.heap.size, 8, none⟩ = some (.string ByteArray.empty) := by rw [cell_of_rowAt hres]; rfl
            have y9 : W12.cell? ⟨w.heap.size, 9, none⟩ = some (.string ByteArray.empty) := by rw [cell_of_rowAt hres]; rfl
            have y10 : W12.cell? ⟨w.heap.size, 10, none⟩ = some (.int .i64 0) := by rw [cell_of_rowAt hres]; rfl
            have y11 : W12.cell? ⟨w.heap.size, 11, none⟩ = some (.int .i64 0) := by rw [cell_of_rowAt hres]; rfl
            have yz := frozen_of_rowAt hres
            have HBE := Lib.hid HDX.out.bel
            go_wp2_with (go_at_call 44; refine (end_is (n := 3) HRX.out HE.out).mono ?_; rintro e w' ⟨rfl, rfl⟩)
            have hfin := set12 (v0 := .int .i64 0) (v1 := .int .i64 0) (v2 := .int .i64 0) (v3 := .int .i64 0) (v4 := .int .i64 0) (v5 := .bool false) (v6 := .slice none 0 0) (v7 := .int .i64 0) (v8 := .string ByteArray.empty) (v9 := .string ByteArray.empty) (v10 := .int .i64 0) (v11 := .int .i64 0) hres
            have hl := load_msg_row hfin rfl
            refine ret_ct (v := .agg (msgC 0 0 0 0 0)) (u := .int .i64 3) (by rfl) (by with_unfolding_all rfl) (by with_unfolding_all rfl) (by rfl) hl ?_
            refine ⟨?_, fun _ => rfl, fun h => (by rw [HC.out] at h; cases h), fun h => (by rw [HC.out] at h; cases h)⟩
            iterate 12 refine below_setCell' ?_ (Nat.le_refl _)
            exact HBE.out
          · have HC := Lib.hid hc
            have HNE := Lib.hid hne
            have HE := Lib.hid hE
            clear hc he hE hne
            have hres := HDX.out.res
            have y0 : W12.cell? ⟨w.heap.size, 0, none⟩ = some (.int .i64 0) := by rw [cell_of_rowAt hres]; rfl
            have y1 : W12.cell? ⟨w.heap.size, 1, none⟩ = some (.int .i64 0) := by rw [cell_of_rowAt hres]; rfl
            have y2 : W12.cell? ⟨w.heap.size, 2, none⟩ = some (.int .i64 0) := by rw [cell_of_rowAt hres]; rfl
            have y3 : W12.cell? ⟨w.heap.size, 3, none⟩ = some (.int .i64 0) := by rw [cell_of_rowAt hres]; rfl
            have y4 : W12.cell? ⟨w.heap.size, 4, none⟩ = some (.int .i64 0) := by rw [cell_of_rowAt hres]; rfl
            have y5 : W12.cell? ⟨w.heap.size, 5, none⟩ = some (.bool false) := by rw [cell_of_rowAt hres]; rfl
            have y6 : W12.cell? ⟨w.heap.size, 6, none⟩ = some (.slice none 0 0) := by rw [cell_of_rowAt hres]; rfl
            have y7 : W12.cell? ⟨w.heap.size, 7, none⟩ = some (.int .i64 0) := by rw [cell_of_rowAt hres]; rfl
            have y8 : W12.cell? ⟨w.heap.size, 8, none⟩ = some (.string ByteArray.empty) := by rw [cell_of_rowAt hres]; rfl
            have y9 : W12.cell? ⟨w.heap.size, 9, none⟩ = some (.string ByteArray.empty) := by rw [cell_of_rowAt hres]; rfl
            have y10 : W12.cell? ⟨w.heap.size, 10, none⟩ = some (.int .i64 0) := by rw [cell_of_rowAt hres]; rfl
            have y11 : W12.cell? ⟨w.heap.size, 11, none⟩ = some (.int .i64 0) := by rw [cell_of_rowAt hres]; rfl
            have yz := frozen_of_rowAt hres
            have HBE := Lib.hid HDX.out.bel
            go_wp2_with (go_at_call 44; refine (end_is (n := 5) HRX.out HE.out).mono ?_; rintro e w' ⟨rfl, rfl⟩)
            have hfin := set12 (v0 := .int .i64 0) (v1 := .int .i64 0) (v2 := .int .i64 0) (v3 := .int .i64 0) (v4 := .int .i64 0) (v5 := .bool false) (v6 := .slice none 0 0) (v7 := .int .i64 0) (v8 := .string ByteArray.empty) (v9 := .string ByteArray.empty) (v10 := .int .i64 0) (v11 := .int .i64 0) hres
            have hl := load_msg_row hfin rfl
            refine ret_ct (v := .agg (msgC 0 0 0 0 0)) (u := .int .i64 5) (by rfl) (by with_unfolding_all rfl) (by with_unfolding_all rfl) (by rfl) hl ?_
            refine ⟨?_, fun h => (by rw [HC.out] at h; cases h), fun _ _ => rfl, fun _ h => absurd h HNE.out⟩
            iterate 12 refine below_setCell' ?_ (Nat.le_refl _)
            exact HBE.out
          · have HC := Lib.hid hc
            have HNL := Lib.hid hnil
            have HE := Lib.hid hE
            obtain ⟨hce, hrf⟩ := HVX.out (by first | exact he | trivial)
            have hir := hrf.is
            have hri := mright_is (m := reM m A' c' H) (reM_right HRM.out A' c' H) (w := W12) ⟨hir.1, hir.2.1, hir.2.2.1, ⟨HPB.out.1, HPB.out.2, hir.2.2.2.1⟩⟩
            rw [← hce] at hri
            unfold MC at hri
            have HRI := Lib.hid hri
            have HCE := Lib.hid hce
            have HRF := Lib.hid hrf
            clear hc he hE hnil hce hrf hir hri HVX
            have hrow := HDX.out.row
            have k0 : W12.cell? ⟨w1.heap.size, 0, none⟩ = some (.int .i64 (V 0)) := by rw [cell_of_rowAt hrow]; rfl
            have k1 : W12.cell? ⟨w1.heap.size, 1, none⟩ = some (.int .i64 (V 1)) := by rw [cell_of_rowAt hrow]; rfl
            have k2 : W12.cell? ⟨w1.heap.size, 2, none⟩ = some (.int .i64 (V 2)) := by rw [cell_of_rowAt hrow]; rfl
            have k3 : W12.cell? ⟨w1.heap.size, 3, none⟩ = some (.int .i64 (V 3)) := by rw [cell_of_rowAt hrow]; rfl
            have k4 : W12.cell? ⟨w1.heap.size, 4, none⟩ = some (.int .i64 (V 4)) := by rw [cell_of_rowAt hrow]; rfl
            have k5 : W12.cell? ⟨w1.heap.size, 5, none⟩ = some (.bool y) := by rw [cell_of_rowAt hrow]; rfl
            have k6 : W12.cell? ⟨w1.heap.size, 6, none⟩ = some (.slice A' m.fn c') := by rw [cell_of_rowAt hrow]; rfl
            have k7 : W12.cell? ⟨w1.heap.size, 7, none⟩ = some (.int .i64 a6) := by rw [cell_of_rowAt hrow]; rfl
            have k8 : W12.cell? ⟨w1.heap.size, 8, none⟩ = some (.string (strT s10)) := by rw [cell_of_rowAt hrow]; rfl
            have k9 : W12.cell? ⟨w1.heap.size, 9, none⟩ = some (.string (strT s11)) := by rw [cell_of_rowAt hrow]; rfl
            have k10 : W12.cell? ⟨w1.heap.size, 10, none⟩ = some (.int .i64 a7) := by rw [cell_of_rowAt hrow]; rfl
            have k11 : W12.cell? ⟨w1.heap.size, 11, none⟩ = some (.int .i64 a8) := by rw [cell_of_rowAt hrow]; rfl
            clear hrow
            go_wp2_with (go_at_call 44; refine (end_is (n := 0) HRX.out HE.out).mono ?_; rintro e w' ⟨rfl, rfl⟩)
            refine HRI.out.mono ?_
            rintro e w9 ⟨rfl, hb⟩
            have hd9 := HDX.out.below hb
            have HRF9 := Lib.hid (HRF.out.below hb)
            clear hb HRF HRI k0 k1 k2 k3 k4 k5 k6 k7 k8 k9 k10 k11
            have hrow := hd9.row
            have hres := hd9.res
            have HBE := Lib.hid hd9.bel
            have n1 : w.heap.size ≠ w1.heap.size := by have := hd9.lo; have := hd9.hi; omega
            have k0 : w9.cell? ⟨w1.heap.size, 0, none⟩ = some (.int .i64 (V 0)) := by rw [cell_of_rowAt hrow]; rfl
            have k1 : w9.cell? ⟨w1.heap.size, 1, none⟩ = some (.int .i64 (V 1)) := by rw [cell_of_rowAt hrow]; rfl
            have k2 : w9.cell? ⟨w1.heap.size, 2, none⟩ = some (.int .i64 (V 2)) := by rw [cell_of_rowAt hrow]; rfl
            have k3 : w9.cell? ⟨w1.heap.size, 3, none⟩ = some (.int .i64 (V 3)) := by rw [cell_of_rowAt hrow]; rfl
            have k4 : w9.cell? ⟨w1.heap.size, 4, none⟩ = some (.int .i64 (V 4)) := by rw [cell_of_rowAt hrow]; rfl
            have k5 : w9.cell? ⟨w1.heap.size, 5, none⟩ = some (.bool y) := by rw [cell_of_rowAt hrow]; rfl
            have k6 : w9.cell? ⟨w1.heap.size, 6, none⟩ = some (.slice A' m.fn c') := by rw [cell_of_rowAt hrow]; rfl
            have k7 : w9.cell? ⟨w1.heap.size, 7, none⟩ = some (.int .i64 a6) := by rw [cell_of_rowAt hrow]; rfl
            have k8 : w9.cell? ⟨w1.heap.size, 8, none⟩ = some (.string (strT s10)) := by rw [cell_of_rowAt hrow]; rfl
            have k9 : w9.cell? ⟨w1.heap.size, 9, none⟩ = some (.string (strT s11)) := by rw [cell_of_rowAt hrow]; rfl
            have k10 : w9.cell? ⟨w1.heap.size, 10, none⟩ = some (.int .i64 a7) := by rw [cell_of_rowAt hrow]; rfl
            have k11 : w9.cell? ⟨w1.heap.size, 11, none⟩ = some (.int .i64 a8) := by rw [cell_of_rowAt hrow]; rfl
            have y0 : w9.cell? ⟨w.heap.size, 0, none⟩ = some (.int .i64 0) := by rw [cell_of_rowAt hres]; rfl
            have y1 : w9.cell? ⟨w.heap.size, 1, none⟩ = some (.int .i64 0) := by rw [cell_of_rowAt hres]; rfl
            have y2 : w9.cell? ⟨w.heap.size, 2, none⟩ = some (.int .i64 0) := by rw [cell_of_rowAt hres]; rfl
            have y3 : w9.cell? ⟨w.heap.size, 3, none⟩ = some (.int .i64 0) := by rw [cell_of_rowAt hres]; rfl
            have y4 : w9.cell? ⟨w.heap.size, 4, none⟩ = some (.int .i64 0) := by rw [cell_of_rowAt hres]; rfl
            have y5 : w9.cell? ⟨w.heap.size, 5, none⟩ = some (.bool false) := by rw [cell_of_rowAt hres]; rfl
            have y6 : w9.cell? ⟨w.heap.size, 6, none⟩ = some (.slice none 0 0) := by rw [cell_of_rowAt hres]; rfl
            have y7 : w9.cell? ⟨w.heap.size, 7, none⟩ = some (.int .i64 0) := by rw [cell_of_rowAt hres]; rfl
            have y8 : w9.cell? ⟨w.heap.size, 8, none⟩ = some (.string ByteArray.empty) := by rw [cell_of_rowAt hres]; rfl
            have y9 : w9.cell? ⟨w.heap.size, 9, none⟩ = some (.string ByteArray.empty) := by rw [cell_of_rowAt hres]; rfl
            have y10 : w9.cell? ⟨w.heap.size, 10, none⟩ = some (.int .i64 0) := by rw [cell_of_rowAt hres]; rfl
            have y11 : w9.cell? ⟨w.heap.size, 11, none⟩ = some (.int .i64 0) := by rw [cell_of_rowAt hres]; rfl
            have yz := frozen_of_rowAt hres
            clear hrow hd9
            go_wp2_with fail
            have hfin := set12 (v0 := .int .i64 (V 0)) (v1 := .int .i64 (V 1)) (v2 := .int .i64 (V 2)) (v3 := .int .i64 (V 3)) (v4 := .int .i64 (V 4)) (v5 := .bool y) (v6 := .slice A' m.fn c') (v7 := .int .i64 a6) (v8 := .string (strT s10)) (v9 := .string (strT s11)) (v10 := .int .i64 a7) (v11 := .int .i64 a8) hres
            have hl := load_msg_row hfin rfl
            refine ret_ct (v := .agg (MC V y (.slice A' m.fn c') s10 s11 a6 a7 a8)) (u := .int .i64 0) (by rfl) (by with_unfolding_all rfl) (by with_unfolding_all rfl) (by rfl) hl ?_
            refine ⟨?_, fun h => (by rw [HC.out] at h; cases h), fun _ h => absurd HNL.out h, fun _ _ => ⟨A', c', H, by rw [HCE.out], HRF9.out.only ?_ hres (by decide) (by decide)⟩⟩
            · iterate 12 refine below_setCell' ?_ (Nat.le_refl _)
              exact HBE.out
            · iterate 11 refine Only.trans ?_ (Only.setCell _)
              exact Only.setCell _
        · have hz := right_zeroP HRM.out hk2
          have hkb : (m.kind == 2) = false := by simp [hk2]
          have hq := zeroP_of hz
          have hfd := HFD.out
          rw [show tlW m = [] by unfold tlW; rw [if_neg hk2]] at hfd
          have HPB : Hid (m.pn.length ≤ 9223372036854775807 ∧ m.po.length ≤ 9223372036854775807) := Lib.hid (by rw [hq.2.1, hq.2.2.1]; exact ⟨by decide, by decide⟩)
          have HFX : Hid (FedE c l4 [] r 0) := Lib.hid (.inl ⟨rfl, hfd⟩)
          have HVX : Hid ((0 : Int) = 0 → MC V y (.slice A' m.fn c') [] [] 0 0 0 = (reM m A' c' H).cells ∧ RF W5 w.heap.size m.fl m.fn A' c' H) := Lib.hid (fun _ => ⟨by
            unfold MC Msg.cells reM
            rw [HVV.out 0 (by decide), HVV.out 1 (by decide), HVV.out 2 (by decide), HVV.out 3 (by decide), HVV.out 4 (by decide), HYY.out]
            dsimp only
            rw [hq.1, hq.2.1, hq.2.2.1, hq.2.2.2.1, hq.2.2.2.2]
            rfl, HRF5.out⟩)
          have HDX := HD5
          have HRX := HR5
          clear hk2 hz hq hfd HVV HYY HRF5 HD5 HR5 HFD
          go_upto_region 17 with fail
          clear hW5 z6 f6 g0
          rcases feed_end HFX.out with ⟨hc, he, hE⟩ | ⟨hc, he, hne, hE⟩ | ⟨hc, he, hnil, hE⟩
          · have HC := Lib.hid hc
            have HE := Lib.hid hE
            clear hc he hE
            have hres := HDX.out.res
            have y0 : W5.cell? ⟨w.heap.size, 0, none⟩ = some (.int .i64 0) := by rw [cell_of_rowAt hres]; rfl
            have y1 : W5.cell? ⟨w.heap.size, 1, none⟩ = some (.int .i64 0) := by rw [cell_of_rowAt hres]; rfl
            have y2 : W5.cell? ⟨w.heap.size, 2, none⟩ = some (.int .i64 0) := by rw [cell_of_rowAt hres]; rfl
            have y3 : W5.cell? ⟨w.heap.size, 3, none⟩ = some (.int .i64 0) := by rw [cell_of_rowAt hres]; rfl
            have y4 : W5.cell? ⟨w.heap.size, 4, none⟩ = some (.int .i64 0) := by rw [cell_of_rowAt hres]; rfl
            have y5 : W5.cell? ⟨w.heap.size, 5, none⟩ = some (.bool false) := by rw [cell_of_rowAt hres]; rfl
            have y6 : W5.cell? ⟨w.heap.size, 6, none⟩ = some (.slice none 0 0) := by rw [cell_of_rowAt hres]; rfl
            have y7 : W5.cell? ⟨w.heap.size, 7, none⟩ = some (.int .i64 0) := by rw [cell_of_rowAt hres]; rfl
            have y8 : W5.cell? ⟨w.heap.size, 8, none⟩ = some (.string ByteArray.empty) := by rw [cell_of_rowAt hres]; rfl
            have y9 : W5.cell? ⟨w.heap.size, 9, none⟩ = some (.string ByteArray.empty) := by rw [cell_of_rowAt hres]; rfl
            have y10 : W5.cell? ⟨w.heap.size, 10, none⟩ = some (.int .i64 0) := by rw [cell_of_rowAt hres]; rfl
            have y11 : W5.cell? ⟨w.heap.size, 11, none⟩ = some (.int .i64 0) := by rw [cell_of_rowAt hres]; rfl
            have yz := frozen_of_rowAt hres
            have HBE := Lib.hid HDX.out.bel
            go_wp2_with (go_at_call 44; refine (end_is (n := 3) HRX.out HE.out).mono ?_; rintro e w' ⟨rfl, rfl⟩)
            have hfin := set12 (v0 := .int .i64 0) (v1 := .int .i64 0) (v2 := .int .i64 0) (v3 := .int .i64 0) (v4 := .int .i64 0) (v5 := .bool false) (v6 := .slice none 0 0) (v7 := .int .i64 0) (v8 := .string ByteArray.empty) (v9 := .string ByteArray.empty) (v10 := .int .i64 0) (v11 := .int .i64 0) hres
            have hl := load_msg_row hfin rfl
            refine ret_ct (v := .agg (msgC 0 0 0 0 0)) (u := .int .i64 3) (by rfl) (by with_unfolding_all rfl) (by with_unfolding_all rfl) (by rfl) hl ?_
            refine ⟨?_, fun _ => rfl, fun h => (by rw [HC.out] at h; cases h), fun h => (by rw [HC.out] at h; cases h)⟩
            iterate 12 refine below_setCell' ?_ (Nat.le_refl _)
            exact HBE.out
          · have HC := Lib.hid hc
            have HNE := Lib.hid hne
            have HE := Lib.hid hE
            clear hc he hE hne
            have hres := HDX.out.res
            have y0 : W5.cell? ⟨w.heap.size, 0, none⟩ = some (.int .i64 0) := by rw [cell_of_rowAt hres]; rfl
            have y1 : W5.cell? ⟨w.heap.size, 1, none⟩ = some (.int .i64 0) := by rw [cell_of_rowAt hres]; rfl
            have y2 : W5.cell? ⟨w.heap.size, 2, none⟩ = some (.int .i64 0) := by rw [cell_of_rowAt hres]; rfl
            have y3 : W5.cell? ⟨w.heap.size, 3, none⟩ = some (.int .i64 0) := by rw [cell_of_rowAt hres]; rfl
            have y4 : W5.cell? ⟨w.heap.size, 4, none⟩ = some (.int .i64 0) := by rw [cell_of_rowAt hres]; rfl
            have y5 : W5.cell? ⟨w.heap.size, 5, none⟩ = some (.bool false) := by rw [cell_of_rowAt hres]; rfl
            have y6 : W5.cell? ⟨w.heap.size, 6, none⟩ = some (.slice none 0 0) := by rw [cell_of_rowAt hres]; rfl
            have y7 : W5.cell? ⟨w.heap.size, 7, none⟩ = some (.int .i64 0) := by rw [cell_of_rowAt hres]; rfl
            have y8 : W5.cell? ⟨w.heap.size, 8, none⟩ = some (.string ByteArray.empty) := by rw [cell_of_rowAt hres]; rfl
            have y9 : W5.cell? ⟨w.heap.size, 9, none⟩ = some (.string ByteArray.empty) := by rw [cell_of_rowAt hres]; rfl
            have y10 : W5.cell? ⟨w.heap.size, 10, none⟩ = some (.int .i64 0) := by rw [cell_of_rowAt hres]; rfl
            have y11 : W5.cell? ⟨w.heap.size, 11, none⟩ = some (.int .i64 0) := by rw [cell_of_rowAt hres]; rfl
            have yz := frozen_of_rowAt hres
            have HBE := Lib.hid HDX.out.bel
            go_wp2_with (go_at_call 44; refine (end_is (n := 5) HRX.out HE.out).mono ?_; rintro e w' ⟨rfl, rfl⟩)
            have hfin := set12 (v0 := .int .i64 0) (v1 := .int .i64 0) (v2 := .int .i64 0) (v3 := .int .i64 0) (v4 := .int .i64 0) (v5 := .bool false) (v6 := .slice none 0 0) (v7 := .int .i64 0) (v8 := .string ByteArray.empty) (v9 := .string ByteArray.empty) (v10 := .int .i64 0) (v11 := .int .i64 0) hres
            have hl := load_msg_row hfin rfl
            refine ret_ct (v := .agg (msgC 0 0 0 0 0)) (u := .int .i64 5) (by rfl) (by with_unfolding_all rfl) (by with_unfolding_all rfl) (by rfl) hl ?_
            refine ⟨?_, fun h => (by rw [HC.out] at h; cases h), fun _ _ => rfl, fun _ h => absurd h HNE.out⟩
            iterate 12 refine below_setCell' ?_ (Nat.le_refl _)
            exact HBE.out
          · have HC := Lib.hid hc
            have HNL := Lib.hid hnil
            have HE := Lib.hid hE
            obtain ⟨hce, hrf⟩ := HVX.out (by first | exact he | trivial)
            have hir := hrf.is
            have hri := mright_is (m := reM m A' c' H) (reM_right HRM.out A' c' H) (w := W5) ⟨hir.1, hir.2.1, hir.2.2.1, ⟨HPB.out.1, HPB.out.2, hir.2.2.2.1⟩⟩
            rw [← hce] at hri
            unfold MC at hri
            have HRI := Lib.hid hri
            have HCE := Lib.hid hce
            have HRF := Lib.hid hrf
            clear hc he hE hnil hce hrf hir hri HVX
            have hrow := HDX.out.row
            have k0 : W5.cell? ⟨w1.heap.size, 0, none⟩ = some (.int .i64 (V 0)) := by rw [cell_of_rowAt hrow]; rfl
            have k1 : W5.cell? ⟨w1.heap.size, 1, none⟩ = some (.int .i64 (V 1)) := by rw [cell_of_rowAt hrow]; rfl
            have k2 : W5.cell? ⟨w1.heap.size, 2, none⟩ = some (.int .i64 (V 2)) := by rw [cell_of_rowAt hrow]; rfl
            have k3 : W5.cell? ⟨w1.heap.size, 3, none⟩ = some (.int .i64 (V 3)) := by rw [cell_of_rowAt hrow]; rfl
            have k4 : W5.cell? ⟨w1.heap.size, 4, none⟩ = some (.int .i64 (V 4)) := by rw [cell_of_rowAt hrow]; rfl
            have k5 : W5.cell? ⟨w1.heap.size, 5, none⟩ = some (.bool y) := by rw [cell_of_rowAt hrow]; rfl
            have k6 : W5.cell? ⟨w1.heap.size, 6, none⟩ = some (.slice A' m.fn c') := by rw [cell_of_rowAt hrow]; rfl
            have k7 : W5.cell? ⟨w1.heap.size, 7, none⟩ = some (.int .i64 0) := by rw [cell_of_rowAt hrow]; rfl
            have k8 : W5.cell? ⟨w1.heap.size, 8, none⟩ = some (.string (strT [])) := by rw [cell_of_rowAt hrow]; rfl
            have k9 : W5.cell? ⟨w1.heap.size, 9, none⟩ = some (.string (strT [])) := by rw [cell_of_rowAt hrow]; rfl
            have k10 : W5.cell? ⟨w1.heap.size, 10, none⟩ = some (.int .i64 0) := by rw [cell_of_rowAt hrow]; rfl
            have k11 : W5.cell? ⟨w1.heap.size, 11, none⟩ = some (.int .i64 0) := by rw [cell_of_rowAt hrow]; rfl
            clear hrow
            go_wp2_with (go_at_call 44; refine (end_is (n := 0) HRX.out HE.out).mono ?_; rintro e w' ⟨rfl, rfl⟩)
            refine HRI.out.mono ?_
            rintro e w9 ⟨rfl, hb⟩
            have hd9 := HDX.out.below hb
            have HRF9 := Lib.hid (HRF.out.below hb)
            clear hb HRF HRI k0 k1 k2 k3 k4 k5 k6 k7 k8 k9 k10 k11
            have hrow := hd9.row
            have hres := hd9.res
            have HBE := Lib.hid hd9.bel
            have n1 : w.heap.size ≠ w1.heap.size := by have := hd9.lo; have := hd9.hi; omega
            have k0 : w9.cell? ⟨w1.heap.size, 0, none⟩ = some (.int .i64 (V 0)) := by rw [cell_of_rowAt hrow]; rfl
            have k1 : w9.cell? ⟨w1.heap.size, 1, none⟩ = some (.int .i64 (V 1)) := by rw [cell_of_rowAt hrow]; rfl
            have k2 : w9.cell? ⟨w1.heap.size, 2, none⟩ = some (.int .i64 (V 2)) := by rw [cell_of_rowAt hrow]; rfl
            have k3 : w9.cell? ⟨w1.heap.size, 3, none⟩ = some (.int .i64 (V 3)) := by rw [cell_of_rowAt hrow]; rfl
            have k4 : w9.cell? ⟨w1.heap.size, 4, none⟩ = some (.int .i64 (V 4)) := by rw [cell_of_rowAt hrow]; rfl
            have k5 : w9.cell? ⟨w1.heap.size, 5, none⟩ = some (.bool y) := by rw [cell_of_rowAt hrow]; rfl
            have k6 : w9.cell? ⟨w1.heap.size, 6, none⟩ = some (.slice A' m.fn c') := by rw [cell_of_rowAt hrow]; rfl
            have k7 : w9.cell? ⟨w1.heap.size, 7, none⟩ = some (.int .i64 0) := by rw [cell_of_rowAt hrow]; rfl
            have k8 : w9.cell? ⟨w1.heap.size, 8, none⟩ = some (.string (strT [])) := by rw [cell_of_rowAt hrow]; rfl
            have k9 : w9.cell? ⟨w1.heap.size, 9, none⟩ = some (.string (strT [])) := by rw [cell_of_rowAt hrow]; rfl
            have k10 : w9.cell? ⟨w1.heap.size, 10, none⟩ = some (.int .i64 0) := by rw [cell_of_rowAt hrow]; rfl
            have k11 : w9.cell? ⟨w1.heap.size, 11, none⟩ = some (.int .i64 0) := by rw [cell_of_rowAt hrow]; rfl
            have y0 : w9.cell? ⟨w.heap.size, 0, none⟩ = some (.int .i64 0) := by rw [cell_of_rowAt hres]; rfl
            have y1 : w9.cell? ⟨w.heap.size, 1, none⟩ = some (.int .i64 0) := by rw [cell_of_rowAt hres]; rfl
            have y2 : w9.cell? ⟨w.heap.size, 2, none⟩ = some (.int .i64 0) := by rw [cell_of_rowAt hres]; rfl
            have y3 : w9.cell? ⟨w.heap.size, 3, none⟩ = some (.int .i64 0) := by rw [cell_of_rowAt hres]; rfl
            have y4 : w9.cell? ⟨w.heap.size, 4, none⟩ = some (.int .i64 0) := by rw [cell_of_rowAt hres]; rfl
            have y5 : w9.cell? ⟨w.heap.size, 5, none⟩ = some (.bool false) := by rw [cell_of_rowAt hres]; rfl
            have y6 : w9.cell? ⟨w.heap.size, 6, none⟩ = some (.slice none 0 0) := by rw [cell_of_rowAt hres]; rfl
            have y7 : w9.cell? ⟨w.heap.size, 7, none⟩ = some (.int .i64 0) := by rw [cell_of_rowAt hres]; rfl
            have y8 : w9.cell? ⟨w.heap.size, 8, none⟩ = some (.string ByteArray.empty) := by rw [cell_of_rowAt hres]; rfl
            have y9 : w9.cell? ⟨w.heap.size, 9, none⟩ = some (.string ByteArray.empty) := by rw [cell_of_rowAt hres]; rfl
            have y10 : w9.cell? ⟨w.heap.size, 10, none⟩ = some (.int .i64 0) := by rw [cell_of_rowAt hres]; rfl
            have y11 : w9.cell? ⟨w.heap.size, 11, none⟩ = some (.int .i64 0) := by rw [cell_of_rowAt hres]; rfl
            have yz := frozen_of_rowAt hres
            clear hrow hd9
            go_wp2_with fail
            have hfin := set12 (v0 := .int .i64 (V 0)) (v1 := .int .i64 (V 1)) (v2 := .int .i64 (V 2)) (v3 := .int .i64 (V 3)) (v4 := .int .i64 (V 4)) (v5 := .bool y) (v6 := .slice A' m.fn c') (v7 := .int .i64 0) (v8 := .string (strT [])) (v9 := .string (strT [])) (v10 := .int .i64 0) (v11 := .int .i64 0) hres
            have hl := load_msg_row hfin rfl
            refine ret_ct (v := .agg (MC V y (.slice A' m.fn c') [] [] 0 0 0)) (u := .int .i64 0) (by rfl) (by with_unfolding_all rfl) (by with_unfolding_all rfl) (by rfl) hl ?_
            refine ⟨?_, fun h => (by rw [HC.out] at h; cases h), fun _ h => absurd HNL.out h, fun _ _ => ⟨A', c', H, by rw [HCE.out], HRF9.out.only ?_ hres (by decide) (by decide)⟩⟩
            · iterate 12 refine below_setCell' ?_ (Nat.le_refl _)
              exact HBE.out
            · iterate 11 refine Only.trans ?_ (Only.setCell _)
              exact Only.setCell _
end Go.Proofs.YtlocoieknabiaaaGreat
