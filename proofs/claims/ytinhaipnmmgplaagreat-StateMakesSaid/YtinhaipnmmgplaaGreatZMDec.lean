/-
  Layer 14 (message): the bytes of a message are read: whole, with more behind, or cut off.
-/
import Derived.Test.YtinhaipnmmgplaaGreatZMFld
namespace Go.Proofs.YtinhaipnmmgplaaGreat
set_option maxRecDepth 20000
open Go.RowKit
set_option linter.unusedSimpArgs false
set_option linter.unusedVariables false
attribute [local go_sem] rowCells rowAt_drewN get_ints getE_ints set_ints size_ints rowAt_alloc rowAt_drew setRow_alloc setRow_drewN setRow_drew setCell_alloc setCell_drewN splice_upd splice_put splice_all load_vec_cut load_vecs_cut load_rights_cut load_counter store_vec store_rights store_counter eql_vec neq_vec index_vec eql_rights neq_rights eql_counter index_vecs cut_ints sub_zero
attribute [local go_sem ↓] xload_vec xstore_vec xalloc_vec xeql_vec xneq_vec xindex_vec xbuild_vec0 xload_rights xstore_rights xalloc_rights xeql_rights xneq_rights xbuild_rights0 xload_vecs xindex_vecs xload_counter xstore_counter xalloc_counter xbuild_counter0 xeql_counter xbuild_counter3
attribute [local go_sem] rowAt_setRow rowAt_setCell load_vec_cut_later load_rights_later load_counter_later Later.cell Later.frozen build3_ints
attribute [local go_sem ↓] xload_field xstore_field xalloc_field xload_lock
attribute [local go_sem] load_field load_field_later store_field load_counter_cut load_lock_cut load_lock_later Fld.size Fld.get0 Fld.get1 Fld.get2 Fld.get586 Fld.getE0 Fld.getE1 Fld.getE2 Fld.getE586 Fld.cut_cnt Fld.cut_lock Fld.cut_all Fld.splice_all strT_size


/-- The cells of a message that is being read. -/
def MC (V : Nat → Int) (y : Bool) (s : Value) (a b : List UInt8) (k u v : Int) : Array Value := #[.int .i64 (V 0), .int .i64 (V 1), .int .i64 (V 2), .int .i64 (V 3), .int .i64 (V 4), .bool y, s, .int .i64 k, .string (strT a), .string (strT b), .int .i64 u, .int .i64 v]
theorem MC_set {V : Nat → Int} {y : Bool} {s : Value} {a b : List UInt8} {k u v : Int} {i : Nat} (hi : i < 5) (x : Int) : (MC V y s a b k u v).setIfInBounds i (.int .i64 x) = MC (fun j => if j = i then x else V j) y s a b k u v := by
  rcases lt_five hi with rfl | rfl | rfl | rfl | rfl <;> rfl
theorem MC_get {V : Nat → Int} {y : Bool} {s : Value} {a b : List UInt8} {k u v : Int} {i : Nat} (hi : i < 5) : (MC V y s a b k u v)[i]? = some (.int .i64 (V i)) := by
  rcases lt_five hi with rfl | rfl | rfl | rfl | rfl <;> rfl
theorem ptrs_get (q : Nat) {i : Nat} (hi : i < 5) : (ptrsC q)[i]? = some (.pointer (some ⟨q, i, none⟩)) := by
  rcases lt_five hi with rfl | rfl | rfl | rfl | rfl <;> rfl
section
variable {w wx wy : World} {p mb : Nat} {C D : Array Value}
end
theorem KeepH.setCell {w : World} {p i : Nat} {v : Value} {c : Array Value} {t : TypeId} (hp : rowAt w p = some (c, t)) (ht : t ≠ 87) : KeepH w (w.setCell ⟨p, i, none⟩ v) := fun g cs' hr => heap_setCell_other w ⟨p, i, none⟩ g v (fun e => by
  have e : g = p := e
  subst e
  rw [hp] at hr
  injection hr with hr
  injection hr with _ hr
  exact ht hr)
theorem RF.only {w w' : World} {B : Nat} {L : Nat → Fld} {n : Nat} {A : Option Addr} {c : Nat} {H : Nat → Option Addr × Nat} {p : Nat} {cs : Array Value} (h : RF w B L n A c H) {t : TypeId} (ho : Only p w w') (hp : rowAt w p = some (cs, t)) (t1 : t ≠ 87) (t2 : t ≠ 58) : RF w' B L n A c H :=
  h.keep (KeepH.only ho hp t1) (by
    refine ⟨h.own.1, h.own.2.imp id ?_⟩
    rintro ⟨b, cap, cur, h1, h2, h3, h4⟩
    refine ⟨b, cap, cur, h1, h2, (ho.2.2 b (fun e => ?_) (Array.getElem?_eq_some_iff.1 h3).1).trans h3, h4⟩
    subst e
    rw [rowAt_iff] at hp
    rw [hp] at h3
    injection h3 with h3
    injection h3 with _ h3
    exact t2 h3)
theorem RF.mono {w : World} {B B' : Nat} {L : Nat → Fld} {n : Nat} {A : Option Addr} {c : Nat} {H : Nat → Option Addr × Nat} (h : RF w B L n A c H) (hb : B' ≤ B) : RF w B' L n A c H := ⟨own_mono h.own hb, h.ok⟩
def hdV (m : Msg) : Nat → Int := fun i => [m.kind, m.frm, m.to, m.ver, m.num].getD i 0
theorem msgW_split (m : Msg) : msgW m = catN 5 (hdV m) ++ (numB (yn m.yes) ++ (numB m.fn ++ (fldsF m.ver m.fl 0 m.fn ++ tlW m))) := by
  unfold msgW hdL
  rw [fldsW_F, show catN 5 (hdV m) = catB [m.kind, m.frm, m.to, m.ver, m.num] from rfl]
  simp only [catB, List.append_nil, List.append_assoc]
/-- A message, its fields elsewhere. -/
def reM (m : Msg) (A : Option Addr) (c : Nat) (H : Nat → Option Addr × Nat) : Msg := { m with fA := A, fc := c, fl := reF m.fl H }
theorem reM_right {m : Msg} (h : rightM m = true) (A : Option Addr) (c : Nat) (H : Nat → Option Addr × Nat) : rightM (reM m A c H) = true := by
  have e1 : ∀ F G : Fld, (F.name = G.name ∧ F.kind = G.kind ∧ F.epoch = G.epoch ∧ F.cnt = G.cnt ∧ F.lock = G.lock ∧ F.hn = G.hn ∧ F.hs = G.hs) → rightF F = rightF G ∧ ∀ v, sayB v F = sayB v G := by
    rintro ⟨_, _, _, _, _, _, _, _, _⟩ ⟨_, _, _, _, _, _, _, _, _⟩ ⟨h1, h2, h3, h4, h5, h6, h7⟩
    dsimp only at *
    subst h1 h2 h3 h4 h5 h6 h7
    exact ⟨rfl, fun _ => rfl⟩
  have e2 : fldsB m.fn (reF m.fl H) = fldsB m.fn m.fl := by
    have : fldAt (reF m.fl H) = fldAt m.fl := by funext i; cases i <;> rfl
    unfold fldsB
    rw [this]
  have e3 : sayAllB m.ver m.fn (reF m.fl H) = sayAllB m.ver m.fn m.fl := rfl
  rw [← h]
  unfold rightM hd2B
  show (hd1B m && (decide (0 ≤ m.num) && isB m.num && fldsB m.fn (reF m.fl H) && tweenB m.ver 1 3) && sayAllB m.ver m.fn (reF m.fl H) && tlB m) = _
  rw [e2, e3]
theorem right_head {m : Msg} (h : rightM m = true) : ∀ i, i < 5 → isB (hdV m i) = true := by
  simp only [rightM, hd1B, hd2B, tweenB, Bool.and_eq_true, decide_eq_true_eq] at h
  intro i hi
  rcases lt_five hi with rfl | rfl | rfl | rfl | rfl
  · exact isB_small (by have := h.1.1.1.1.1.1.1; show 0 ≤ m.kind; omega) (by have := h.1.1.1.1.1.1.2; show m.kind ≤ _; omega)
  · exact isB_small h.1.1.1.1.1.2.1 (by have := h.1.1.1.1.1.2.2; show m.frm ≤ _; omega)
  · exact isB_small h.1.1.1.1.2.1 (by have := h.1.1.1.1.2.2; show m.to ≤ _; omega)
  · exact isB_small (by have := h.1.1.2.2.1; show 0 ≤ m.ver; omega) (by have := h.1.1.2.2.2; show m.ver ≤ _; omega)
  · exact h.1.1.2.1.1.2
theorem zeroP_of {m : Msg} (h : zeroP m = true) : m.pk = 0 ∧ m.pn = [] ∧ m.po = [] ∧ m.pa = 0 ∧ m.pb = 0 := by
  simp only [zeroP, Bool.and_eq_true, decide_eq_true_eq, List.isEmpty_iff] at h
  exact ⟨h.1.1.1.1, h.1.1.1.2, h.1.1.2, h.1.2, h.2⟩
theorem right_zeroP {m : Msg} (h : rightM m = true) (hk : m.kind ≠ 2) : zeroP m = true := by
  simp only [rightM, Bool.and_eq_true] at h
  have := h.2
  unfold tlB at this
  split at this
  · cases this
  · split at this
    · cases this
    · exact this
theorem fed_of {α : Type} {c : Bool} {l Y r : List UInt8} {e e' : Int} {v n : α} (h : (e' = 0 ∧ e = 0 ∧ v = n ∧ Feed c l Y r) ∨ (c = true ∧ e' = 3)) : FedE c l Y r e' ∧ (e' = 0 → e = 0 ∧ v = n) := by
  rcases h with ⟨h1, h2, h3, h4⟩ | ⟨h1, h2⟩
  · exact ⟨.inl ⟨h1, h4⟩, fun _ => ⟨h2, h3⟩⟩
  · exact ⟨.inr ⟨h1, h2⟩, fun h => by omega⟩
theorem feed_end {c : Bool} {l r : List UInt8} {e : Int} (h : FedE c l [] r e) : (c = true ∧ e = 3 ∧ rdEnd l e = 3) ∨ (c = false ∧ e = 0 ∧ r ≠ [] ∧ rdEnd l e = 5) ∨ (c = false ∧ e = 0 ∧ r = [] ∧ rdEnd l e = 0) := by
  rcases h with ⟨rfl, h⟩ | ⟨rfl, rfl⟩
  · cases c with
    | true => obtain ⟨M, h1, _⟩ := h; simp at h1
    | false =>
      have h : l = [] ++ r := h
      rw [List.nil_append] at h
      subst h
      cases l with
      | nil => exact .inr (.inr ⟨rfl, rfl, rfl, rfl⟩)
      | cons x t => exact .inr (.inl ⟨rfl, rfl, by simp, by simp [rdEnd]⟩)
  · exact .inl ⟨rfl, rfl, by simp [rdEnd]⟩
theorem yn_one (b : Bool) : (yn b == 1) = b := by cases b <;> rfl
/-- What a reading of a message tells. -/
def MDec (w : World) (c : Bool) (r : List UInt8) (m : Msg) (x : Ending) (w' : World) : Prop :=
  Below w.heap.size w w' ∧ (c = true → x = .returned (.tuple #[.agg (msgC 0 0 0 0 0), .int .i64 3])) ∧ (c = false → r ≠ [] → x = .returned (.tuple #[.agg (msgC 0 0 0 0 0), .int .i64 5])) ∧
    (c = false → r = [] → ∃ A c' H, x = .returned (.tuple #[.agg (reM m A c' H).cells, .int .i64 0]) ∧ RF w' w.heap.size m.fl m.fn A c' H)
end Go.Proofs.YtinhaipnmmgplaaGreat
