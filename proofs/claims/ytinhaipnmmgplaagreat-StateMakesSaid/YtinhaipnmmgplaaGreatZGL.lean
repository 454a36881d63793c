/-
  Layer 10 (wire): numbers are read into places.
-/
import Derived.Test.YtinhaipnmmgplaaGreatZGK
import Derived.Test.YtinhaipnmmgplaaGreatZGF
import Derived.Test.YtinhaipnmmgplaaGreatZGD
import Derived.Test.YtinhaipnmmgplaaGreatZWEnc
namespace Go.Proofs.YtinhaipnmmgplaaGreat
set_option maxRecDepth 20000
open Go.RowKit
set_option linter.unusedSimpArgs false
set_option linter.unusedVariables false
attribute [local go_sem] rowAt_setRow rowAt_setCell Later.cell Later.frozen
theorem catN_cons (n : Nat) (f : Nat → Int) : catN (n + 1) f = numB (f 0) ++ catN n fun i => f (i + 1) := by
  rw [Nat.add_comm, catN_add]
  congr 1
  · rw [catN_succ, catN_zero, List.nil_append]
  · exact catN_congr fun i _ => by rw [Nat.add_comm]
/-- What is left behind k numbers. -/
theorem catN_left {n k : Nat} (f : Nat → Int) (h : k < n) : catN (n - k) (fun i => f (k + i)) = numB (f k) ++ catN (n - (k + 1)) (fun i => f (k + 1 + i)) := by
  rw [show n - k = (n - (k + 1)) + 1 by omega, catN_cons]
  congr 1
  exact catN_congr fun i _ => by rw [show k + (i + 1) = k + 1 + i by omega]
/-- Cells of which n are numbers put at places. -/
def putV : Nat → (Nat → Nat) → (Nat → Int) → (Nat → Value) → Nat → Value
  | 0, _, _, V => V
  | k + 1, q, f, V => fun j => if j = q k then .int .i64 (f k) else putV k q f V j
set_option maxHeartbeats 2000000 in
theorem read_ok (p fb gp n N : Nat) (T : TypeId) (q : Nat → Nat) (f : Nat → Int) (V : Nat → Value) (r : List UInt8) (w : World) (h : Rd w p (catN n f ++ r) 0) (hlen : (catN n f ++ r).length ≤ 70368744177664) (hf : ∀ i, i < n → isB (f i) = true)
    (hp : ∀ i, i < n → w.cell? ⟨gp, i, none⟩ = some (.pointer (some ⟨fb, q i, none⟩))) (hr : rowAt w fb = some (cellsF N V, T)) (hq : ∀ i, i < n → q i < N) (h1 : p < fb) (h2 : gp ≠ p) (h3 : gp ≠ fb) (hn : n ≤ 1000000) :
    Calls Tryz.prog 73 #[.pointer (some ⟨p, 0, none⟩), .slice (some ⟨gp, 0, none⟩) n n] w fun e w' => e = .returned (.tuple #[]) ∧ Rd w' p r 0 ∧ rowAt w' fb = some (cellsF N (putV n q f V), T) ∧ Two fb p w w' := by
  have HR := Lib.hid h
  have HP := Lib.hid hp
  have HF := Lib.hid hf
  have HQ := Lib.hid hq
  have HRR := Lib.hid hr
  clear h hp hf hq hr
  go_enter Tryz.func73, Tryz.ntmps73
  go_wp2_with fail
  go_loopw [8] (fun i w' => ∃ k : Nat, k ≤ n ∧ i = .int .i64 k ∧ Rd w' p (catN (n - k) (fun i => f (k + i)) ++ r) 0 ∧ rowAt w' fb = some (cellsF N (putV k q f V), T) ∧ Two fb p w w') (fun i _ => n - (intOf i).toNat)
  case atStart => exact ⟨0, Nat.zero_le _, rfl, by rw [show (fun i => f (0 + i)) = f by funext i; rw [Nat.zero_add]]; exact HR.out, HRR.out, Two.refl _ _ _⟩
  case round =>
    rename World => wr
    obtain ⟨k, hk, rfl, hrd, hrow, ht⟩ := hrel
    have HT := Lib.hid ht
    by_cases hlt : k < n
    · have hc := ht.cell h3 h2 (HP.out k hlt)
      rw [catN_left f hlt, List.append_assoc] at hrd
      have HRD := Lib.hid hrd
      have hll : (numB (f k) ++ (catN (n - (k + 1)) (fun i => f (k + 1 + i)) ++ r)).length ≤ 70368744177664 := by
        have e : catN n f = catN k f ++ (numB (f k) ++ catN (n - (k + 1)) fun i => f (k + 1 + i)) := by
          rw [← catN_left f hlt, ← catN_add, show k + (n - k) = n by omega]
        rw [e] at hlen
        simp only [List.length_append] at hlen ⊢
        omega
      have HB := Lib.hid (HF.out k hlt)
      have hqk := HQ.out k hlt
      have HROW := Lib.hid hrow
      have HPV : Hid (putV (k + 1) q f V = fun j => if j = q k then .int .i64 (f k) else putV k q f V j) := Lib.hid rfl
      clear hrd hrow ht
      generalize f k = x at *
      generalize q k = y at *
      go_wp2_with fail
      refine (rnum_iso HRD.out hll (rd_numB HB.out _)).mono ?_
      rintro e w1 ⟨rfl, hrd, ho⟩
      have hr1 := ho.row (by omega) HROW.out
      have hfz := frozen_of_rowAt hr1 y
      have hcc : w1.cell? ⟨fb, y, none⟩ = some (putV k q f V y) := by rw [cell_of_rowAt hr1, get_cellsF _ _ _ hqk]
      have HW : Hid (Rd (w1.setCell ⟨fb, y, none⟩ (.int .i64 x)) p (catN (n - (k + 1)) (fun i => f (k + 1 + i)) ++ r) 0 ∧ rowAt (w1.setCell ⟨fb, y, none⟩ (.int .i64 x)) fb = some (cellsF N (putV (k + 1) q f V), T) ∧ Two fb p w (w1.setCell ⟨fb, y, none⟩ (.int .i64 x))) :=
        Lib.hid ⟨hrd.below (B := fb) (below_setCell' (Below.refl _ _) (Nat.le_refl _)) h1, by rw [rowAt_setCell, if_pos rfl, hr1, HPV.out, ← set_cellsF]; rfl, (HT.out.trans (Two.of_only ho)).trans (Two.setG (Nat.le_of_lt h1) _)⟩
      clear hrd ho hr1 hll HRD HROW
      go_wp2_with fail
      go_roundw
      case rel => exact ⟨k + 1, by omega, by go_num, HW.out⟩
      case measure => simp [intOf]; omega
    · obtain rfl : k = n := by omega
      rw [Nat.sub_self, catN_zero, List.nil_append] at hrd
      have HRD := Lib.hid hrd
      have HROW := Lib.hid hrow
      clear hrd hrow ht
      go_wp2_with fail
      refine bodyPost_end (v := .tuple #[]) (by simp [results, show Tryz.f73.results = #[] from rfl]) rfl ?_
      exact ⟨rfl, HRD.out, HROW.out, HT.out⟩
end Go.Proofs.YtinhaipnmmgplaaGreat

/-
  Layer 10 (wire): a field that is being read.
-/
namespace Go.Proofs.YtinhaipnmmgplaaGreat
set_option maxRecDepth 20000
open Go.RowKit
set_option linter.unusedSimpArgs false
set_option linter.unusedVariables false
/-- A reader p, a field in block fb that is being read, and the zero field of the result. -/
structure DS (w wx : World) (p fb : Nat) (rest : List UInt8) (G : Fld) : Prop where
  rd : Rd wx p rest 0
  row : rowAt wx fb = some (G.cells, 58)
  res : rowAt wx w.heap.size = some (fld0.cells, 58)
  bel : Below w.heap.size w wx
  lo : w.heap.size < p
  hi : p < fb
  len : rest.length ≤ 70368744170000
section
variable {w wx wy : World} {p fb : Nat} {r r' : List UInt8} {G G' : Fld}
theorem DS.two (h : DS w wx p fb r G) (ht : Two fb p wx wy) (hrd : Rd wy p r' 0) (hrow : rowAt wy fb = some (G'.cells, 58)) (hl : r'.length ≤ r.length) : DS w wy p fb r' G' :=
  ⟨hrd, hrow, ht.row (by have := h.lo; have := h.hi; omega) (by have := h.lo; omega) h.res, ht.below h.bel (Nat.le_of_lt h.lo), h.lo, h.hi, Nat.le_trans hl h.len⟩
theorem DS.below (h : DS w wx p fb r G) (hb : Below wx.heap.size wx wy) : DS w wy p fb r G :=
  ⟨h.rd.below hb h.rd.lt, rowKeep hb h.row, rowKeep hb h.res, bthen h.bel hb, h.lo, h.hi, h.len⟩
theorem DS.belowG {B : Nat} (h : DS w wx p fb r G) (hb : Below B wx wy) (hB : fb < B) : DS w wy p fb r G :=
  ⟨h.rd.below hb (by have := h.hi; omega), (rowAt_below hb _ hB).trans h.row, (rowAt_below hb _ (by have := h.lo; have := h.hi; omega)).trans h.res, h.bel.trans (hb.mono (by have := h.lo; have := h.hi; omega)), h.lo, h.hi, h.len⟩
theorem DS.alloc (h : DS w wx p fb r G) (o : Obj) : DS w (wx.alloc o) p fb r G := h.below ((Below.refl _ _).alloc (Nat.le_refl _) _)
theorem DS.set (h : DS w wx p fb r G) {i : Nat} {v : Value} (hG : G.cells.setIfInBounds i v = G'.cells) : DS w (wx.setCell ⟨fb, i, none⟩ v) p fb r G' :=
  h.two (Two.setG (Nat.le_of_lt h.hi) _) (h.rd.below (B := fb) (below_setCell' (Below.refl _ _) (Nat.le_refl _)) h.hi) (by rw [rowAt_setCell, if_pos rfl, h.row, ← hG]; rfl) (Nat.le_refl _)
theorem DS.num {n : Int} (hn : isB n = true) (h : DS w wx p fb (numB n ++ r) G) :
    Calls Tryz.prog 49 #[.pointer (some ⟨p, 0, none⟩)] wx fun x w' => x = .returned (.int .i64 n) ∧ DS w w' p fb r G := by
  refine (rnum_iso h.rd (Nat.le_trans h.len (by decide)) (rd_numB hn _)).mono ?_
  rintro x w' ⟨rfl, hr, ho⟩
  exact ⟨rfl, h.two (Two.of_only ho) hr (ho.row (by have := h.hi; omega) h.row) (by simp)⟩
theorem DS.count {n m : Int} (hn : isB n = true) (h0 : 0 ≤ n) (hm : n ≤ m) (h : DS w wx p fb (numB n ++ r) G) :
    Calls Tryz.prog 51 #[.pointer (some ⟨p, 0, none⟩), .int .i64 m] wx fun x w' => x = .returned (.int .i64 n) ∧ DS w w' p fb r G := by
  refine (count_only h.rd (Nat.le_trans h.len (by decide)) (rd_numB hn _) h0 hm).mono ?_
  rintro x w' ⟨rfl, hr, ho⟩
  exact ⟨rfl, h.two (Two.of_only ho) hr (ho.row (by have := h.hi; omega) h.row) (by simp)⟩
theorem DS.text {t : List UInt8} {m : Int} (hn : isB (t.length : Int) = true) (hm : (t.length : Int) ≤ m) (h : DS w wx p fb (numB t.length ++ (t ++ r)) G) :
    Calls Tryz.prog 50 #[.pointer (some ⟨p, 0, none⟩), .int .i64 m] wx fun x w' => x = .returned (.string (strT t)) ∧ DS w w' p fb r G := by
  refine (rtext_only h.rd (Nat.le_trans h.len (by decide)) (rd_numB hn _) hm (by simp)).mono ?_
  rintro x w' ⟨rfl, hr, ho⟩
  rw [List.take_append_of_le_length (Nat.le_refl _), List.take_of_length_le (Nat.le_refl _)]
  rw [List.drop_left] at hr
  exact ⟨rfl, h.two (Two.of_only ho) hr (ho.row (by have := h.hi; omega) h.row) (by simp; omega)⟩
theorem DS.err (h : DS w wx p fb r G) : Calls Tryz.prog 53 #[.pointer (some ⟨p, 0, none⟩)] wx fun x w' => x = .returned (.int .i64 0) ∧ wx = w' := err_any h.rd
theorem DS.readG {n : Nat} {q : Nat → Nat} {f : Nat → Int} {C : Array Value} {T : TypeId} {gp : Nat} (h : DS w wx p fb (catN n f ++ r) G) (hc : rowAt wx gp = some (C, T)) (g1 : gp ≠ p) (g2 : gp ≠ fb) (hf : ∀ i, i < n → isB (f i) = true) (hC : ∀ i, i < n → C[i]? = some (.pointer (some ⟨fb, q i, none⟩))) (hq : ∀ i, i < n → q i < 587)
    (hG : cellsF 587 (putV n q f G.val) = G'.cells) (hn : n ≤ 1000000) :
    Calls Tryz.prog 73 #[.pointer (some ⟨p, 0, none⟩), .slice (some ⟨gp, 0, none⟩) n n] wx fun e w' => e = .returned (.tuple #[]) ∧ DS w w' p fb r G' ∧ Two fb p wx w' := by
  refine (read_ok p fb gp n 587 _ q f G.val r _ h.rd (Nat.le_trans h.len (by decide)) hf (fun i hi => by rw [cell_of_rowAt hc]; exact hC i hi) h.row hq h.hi g1 g2 hn).mono ?_
  rintro e w' ⟨rfl, hrd, hrow, ht⟩
  rw [hG] at hrow
  exact ⟨rfl, h.two ht hrd hrow (by simp), ht⟩
theorem DS.read {n : Nat} {q : Nat → Nat} {f : Nat → Int} {C : Array Value} {gp : Nat} (h : DS w wx p fb (catN n f ++ r) G) (hf : ∀ i, i < n → isB (f i) = true) (hC : ∀ i, i < n → C[i]? = some (.pointer (some ⟨fb, q i, none⟩))) (hq : ∀ i, i < n → q i < 587)
    (hG : cellsF 587 (putV n q f G.val) = G'.cells) (hgp : gp = wx.heap.size) (hn : n ≤ 1000000) :
    Calls Tryz.prog 73 #[.pointer (some ⟨p, 0, none⟩), .slice (some ⟨gp, 0, none⟩) n n] (wx.alloc (.cells C 78)) fun e w' => e = .returned (.tuple #[]) ∧ DS w w' p fb r G' ∧ Two fb p (wx.alloc (.cells C 78)) w' := by
  subst hgp
  have hp := h.rd.lt
  have hfb := rowAt_lt h.row
  exact (h.alloc (.cells C 78)).readG (rowAt_alloc_at _ _ _ _ rfl) (by omega) (by omega) hf hC hq hG hn
end
theorem DS.other {w wx wy : World} {p fb h0 : Nat} {r r' : List UInt8} {G : Fld} (h : DS w wx p fb r G) (ht : Two h0 p wx wy) (hrd : Rd wy p r' 0) (h1 : h0 ≠ fb) (h2 : h0 ≠ w.heap.size) (hl : r'.length ≤ r.length) : DS w wy p fb r' G :=
  ⟨hrd, ht.row h1.symm (by have := h.hi; omega) h.row, ht.row h2.symm (by have := h.lo; omega) h.res, ht.below h.bel (Nat.le_of_lt h.lo), h.lo, h.hi, Nat.le_trans hl h.len⟩
theorem own_two {w w' : World} {g q base k n : Nat} {E : TypeId} {v : Value} {xs : List Value} (h : w.ownsRow base E k v n xs) (ht : Two g q w w') (hg : ∀ a n' c, v = .slice (some a) n' c → a.block ≠ g ∧ a.block ≠ q) : w'.ownsRow base E k v n xs := by
  refine ⟨h.1, h.2.imp id ?_⟩
  rintro ⟨b, cap, cur, h1, h2, h3, h4⟩
  have := hg _ _ _ h1
  exact ⟨b, cap, cur, h1, h2, (ht.2.2 b this.1 this.2 (Array.getElem?_eq_some_iff.1 h3).1).trans h3, h4⟩
theorem cnt_split (C : Nat → Int) : catN 579 C = catN 3 (fun i => C (0 + i)) ++ catN 576 (fun i => C (3 + i)) := by
  rw [show 579 = 3 + 576 from rfl, catN_add]
  congr 1
  try exact catN_congr fun i _ => by rw [Nat.zero_add]
theorem cnt_left {M : Nat} (C : Nat → Int) (h : M < 576) : catN (576 - M) (fun j => C (3 + M + j)) = catN 1 (fun i => C (3 + M + i)) ++ catN (576 - (M + 1)) (fun j => C (3 + (M + 1) + j)) := by
  rw [show 576 - M = 1 + (576 - (M + 1)) by omega, catN_add]
  congr 1
  exact catN_congr fun i _ => by rw [show 3 + M + (1 + i) = 3 + (M + 1) + i by omega]
/-- The numbers of the first k holds. -/
def holdV (k : Nat) (f : Nat → Int) : List Value := (List.range (5 * k)).map fun i => .int .i64 (f i)
theorem holdV_len (k : Nat) (f : Nat → Int) : (holdV k f).length = k * 5 := by simp [holdV]; omega
theorem holdV_succ (k : Nat) (f : Nat → Int) : holdV (k + 1) f = holdV k f ++ (ints 5 (sub (5 * k) f)).toList := by
  unfold holdV
  rw [show 5 * (k + 1) = 5 * k + 5 by omega, List.range_add, List.map_append]
  congr 1
  try simp [ints, cellsF, sub]
theorem holdV_get (k : Nat) (f : Nat → Int) (i : Nat) (h : i < 5 * k) : (holdV k f)[i]? = some (.int .i64 (f i)) := by simp [holdV, h]
theorem hold_left {n k : Nat} (f : Nat → Int) (h : k < n) : catN (5 * (n - k)) (fun i => f (5 * k + i)) = catN 5 (sub (5 * k) f) ++ catN (5 * (n - (k + 1))) (fun i => f (5 * (k + 1) + i)) := by
  rw [show 5 * (n - k) = 5 + 5 * (n - (k + 1)) by omega, catN_add]
  congr 1
  exact catN_congr fun i _ => by rw [show 5 * k + (5 + i) = 5 * (k + 1) + i by omega]
section
variable {P : Program} {fn : Func} {R : Ending → World → Prop} {a : Act} {w : World}
theorem ret_tct {p q r : Tmp} {ty : TypeId} {ad : Addr} {v u s : Value} (hres : fn.results = #[.tmp q, .cell p ty, .tmp r]) (hp : a.tmps.getD p undef = .pointer (some ad)) (hq : a.tmps.getD q undef = u) (hr : a.tmps.getD r undef = s) (hd : a.defers = [])
    (hl : loadAgg P w ty (.pointer (some ad)) = .ok (.value v) w) (hR : R (.returned (.tuple #[u, v, s])) w) : bodyPost P fn R .ret a w := by
  have hp' : a.tmps[p]?.getD undef = .pointer (some ad) := by simpa using hp
  have hq' : a.tmps[q]?.getD undef = u := by simpa using hq
  have hr' : a.tmps[r]?.getD undef = s := by simpa using hr
  exact bodyPost_ret (by simp [results, hres, hp', hq', hr', asAddr, loadVar_of_loadAgg hl]) hd hR
end
theorem putV_range (b : Nat) (f : Nat → Int) (V : Nat → Value) (j : Nat) : ∀ n, putV n (fun i => b + i) f V j = if b ≤ j ∧ j < b + n then .int .i64 (f (j - b)) else V j
  | 0 => by rw [putV, if_neg (by omega)]
  | n + 1 => by
    show (if j = b + n then Value.int .i64 (f n) else putV n (fun i => b + i) f V j) = _
    by_cases h : j = b + n
    · subst h
      rw [if_pos rfl, if_pos (by omega), Nat.add_sub_cancel_left]
    · rw [if_neg h, putV_range b f V j n]
      by_cases h2 : b ≤ j ∧ j < b + n
      · rw [if_pos h2, if_pos (by omega)]
      · rw [if_neg h2, if_neg (by omega)]
/-- A field's holds lie in a block of holds. -/
def HT (w : World) (F : Fld) : Prop := ∀ x, F.hA = some x → ∃ cs, rowAt w x.block = some (cs, 87)
/-- Blocks of holds stay. -/
def KeepH (w w' : World) : Prop := ∀ g cs, rowAt w g = some (cs, 87) → w'.heap[g]? = w.heap[g]?
theorem KeepH.refl (w : World) : KeepH w w := fun _ _ _ => rfl
theorem KeepH.row {w w' : World} (h : KeepH w w') {g : Nat} {cs : Array Value} (hr : rowAt w g = some (cs, 87)) : rowAt w' g = some (cs, 87) := (rowAt_of_heap (h g cs hr)).trans hr
theorem KeepH.trans {a b c : World} (h : KeepH a b) (k : KeepH b c) : KeepH a c := fun g cs hr => (k g cs (h.row hr)).trans (h g cs hr)
theorem KeepH.below {w w' : World} (h : Below w.heap.size w w') : KeepH w w' := fun g _ hr => h.block g (rowAt_lt hr)
theorem KeepH.only {p : Nat} {w w' : World} {c : Array Value} {t : TypeId} (h : Only p w w') (hp : rowAt w p = some (c, t)) (ht : t ≠ 87) : KeepH w w' := fun g cs hr => h.2.2 g (fun e => by
  subst e
  rw [hp] at hr
  injection hr with hr
  injection hr with _ hr
  exact ht hr) (rowAt_lt hr)
theorem KeepH.grown {w w' : World} {base k n : Nat} {E : TypeId} {v : Value} {xs : List Value} (h : w.ownsRow base E k v n xs) (hg : w.grownBy w' v.ownBlock) (hE : E ≠ 87) : KeepH w w' := fun g cs hr => by
  refine hg.block g (rowAt_lt hr) ?_
  rcases h.2 with ⟨rfl, _⟩ | ⟨b, cap, cur, rfl, _, hb, _⟩
  · simp [Value.ownBlock]
  · simp only [Value.ownBlock, ne_eq, Option.some.injEq]
    intro e
    subst e
    rw [rowAt_iff] at hr
    rw [hr] at hb
    injection hb with hb
    injection hb with _ hb
    exact hE hb.symm
theorem KeepH.setRow {w : World} {p : Nat} {c : Array Value} {t : TypeId} (cs : Array Value) (hp : rowAt w p = some (c, t)) (ht : t ≠ 87) : KeepH w (w.setRow p cs) := fun g cs' hr => setRow_other w p g cs (fun e => by
  subst e
  rw [hp] at hr
  injection hr with hr
  injection hr with _ hr
  exact ht hr)
theorem KeepH.fld {w w' : World} {F : Fld} (h : KeepH w w') (ho : FldOk w F) (ht : HT w F) : FldOk w' F ∧ HT w' F := by
  refine ⟨⟨fun i hi => ?_, ho.le, ho.nil, ho.big⟩, fun x hx => (ht x hx).imp fun cs hr => h.row hr⟩
  obtain ⟨b, o, h1, h2⟩ := ho.holds i hi
  obtain ⟨cs, hr⟩ := ht _ h1
  exact ⟨b, o, h1, (World.cell?_of_block (w := w) (h b cs hr)).trans h2⟩
theorem own_row {w : World} {base k n c : Nat} {E : TypeId} {A : Option Addr} {m : Nat} {xs : List Value} {x : Addr} (h : w.ownsRow base E k (.slice A m c) n xs) (hx : A = some x) : ∃ cs, rowAt w x.block = some (cs, E) := by
  subst hx
  rcases h.2 with ⟨h1, _⟩ | ⟨g, cap, cur, h1, _, h3, _⟩
  · cases h1
  · injection h1 with h1 _ _
    injection h1 with h1
    subst h1
    exact ⟨cur, rowAt_iff.2 h3⟩
theorem FldOk.setRow {w : World} {F : Fld} (h : FldOk w F) {g : Nat} (cs : Array Value) (hb : ∀ x, F.hA = some x → x.block ≠ g) : FldOk (w.setRow g cs) F :=
  ⟨fun i hi => by
    obtain ⟨b, o, h1, h2⟩ := h.holds i hi
    exact ⟨b, o, h1, (World.cell?_of_block (w := w) (setRow_other w g b cs (hb _ h1))).trans h2⟩, h.le, h.nil, h.big⟩
theorem load_fld_row {w : World} {g : Nat} {F : Fld} {t : TypeId} (h : rowAt w g = some (F.cells, t)) : loadAgg Tryz.prog w 58 (.pointer (some ⟨g, 0, none⟩)) = .ok (.value (.agg F.cells)) w := by
  rw [loadAgg_row (n := 587) Tryz.underlying58 rfl (by kernel_rfl) (by rw [h]; rfl) (by simp [rowCells, h, Fld.size])]
  congr 3
  have : rowCells w g = F.cells := by simp [rowCells, h]
  rw [this]
  exact F.cut_all
theorem fold_setL : ∀ (l : List Value) (o : Nat) (c : Array Value), o + l.length ≤ c.size → ((l.zipIdx o).foldl (fun (cs : Array Value) (x : Value × Nat) => cs.setIfInBounds x.2 x.1) c).size = c.size ∧
    ∀ i, ((l.zipIdx o).foldl (fun (cs : Array Value) (x : Value × Nat) => cs.setIfInBounds x.2 x.1) c)[i]? = if o ≤ i ∧ i < o + l.length then l[i - o]? else c[i]?
  | [], o, c, _ => ⟨rfl, fun i => by rw [if_neg (by simp)]; rfl⟩
  | v :: l, o, c, h => by
    rw [List.length_cons] at h
    obtain ⟨h1, h2⟩ := fold_setL l (o + 1) (c.setIfInBounds o v) (by rw [Array.size_setIfInBounds]; omega)
    rw [List.zipIdx_cons, List.foldl_cons]
    refine ⟨h1.trans (Array.size_setIfInBounds ..), fun i => ?_⟩
    rw [h2 i, List.length_cons, Array.getElem?_setIfInBounds]
    by_cases hi : i = o
    · subst hi
      rw [if_neg (by omega), if_pos rfl, if_pos (by omega), if_pos (by omega), Nat.sub_self, List.getElem?_cons_zero]
    · by_cases hr : o + 1 ≤ i ∧ i < o + 1 + l.length
      · rw [if_pos hr, if_pos (by omega), show i - o = (i - (o + 1)) + 1 by omega, List.getElem?_cons_succ]
      · rw [if_neg hr, if_neg (fun e => hi e.symm), if_neg (by omega)]
theorem fold_set (c V : Array Value) (n : Nat) (h1 : c.size = n) (h2 : V.size = n) : Array.foldl (fun (cs : Array Value) (x : Value × Nat) => cs.setIfInBounds x.2 x.1) c V.zipIdx 0 n = V := by
  subst h2
  have e : V.size = V.zipIdx.size := by simp
  rw [e, ← Array.foldl_toList, Array.toList_zipIdx]
  obtain ⟨h3, h4⟩ := fold_setL V.toList 0 c (by simp [h1])
  apply Array.ext_getElem?
  intro i
  rw [h4 i]
  by_cases hi : i < V.size
  · rw [if_pos ⟨Nat.zero_le _, by simpa using hi⟩, Nat.sub_zero, Array.getElem?_toList]
  · rw [if_neg (by simp; omega), Array.getElem?_eq_none (by omega), Array.getElem?_eq_none (by omega)]
/-- A hold that is laid as a slice. -/
theorem build_hold (f : Nat → Int) : Array.foldl (fun (cs : Array Value) (x : Value × Nat) => cs.setIfInBounds x.2 x.1) #[.int .i64 0, .int .i64 0, .int .i64 0, .int .i64 0, .int .i64 0] (ints 5 f).zipIdx 0 5 = ints 5 f := fold_set _ _ 5 rfl (size_ints _ _)
theorem info_hold : (Tryz.prog.info? 87).map (fun i => (i.zero, i.size, i.bytes)) = some (some (.agg #[.int .i64 0, .int .i64 0, .int .i64 0, .int .i64 0, .int .i64 0]), 5, 40) := by kernel_rfl
theorem put5 (f : Nat → Int) (V : Nat → Value) : cellsF 5 (putV 5 (fun i => 0 + i) f V) = ints 5 f := cellsF_congr fun j hj => by
  rw [putV_range, if_pos (by omega), Nat.sub_zero]
/-- A field of which just so many numbers of the counter are there. -/
def partF (nm : List UInt8) (k e : Int) (C L : Nat → Int) (m l : Nat) (A : Option Addr) (n c : Nat) (hs : Nat → Int) : Fld := ⟨nm, k, e, fun j => if j < m then C j else 0, fun j => if j < l then L j else 0, A, n, c, hs⟩
section
variable (nm : List UInt8) (k e : Int) (C L : Nat → Int) (m l : Nat) (A : Option Addr) (n c : Nat) (hs : Nat → Int)
theorem fld0_part : fld0.cells = (partF [] 0 0 C L 0 0 none 0 0 hs).cells := cellsF_congr fun j hj => by
  simp only [fld0, partF, Fld.val, Nat.not_lt_zero, if_false]
theorem part_kind (x : Int) : cellsF 587 (putV 1 (fun _ => 1) (fun _ => x) (partF nm k e C L m l A n c hs).val) = (partF nm x e C L m l A n c hs).cells := cellsF_congr fun j hj => by
  simp only [putV, partF, Fld.val]
  by_cases h : j = 1
  · subst h; simp
  · rw [if_neg h]; simp [h]
theorem part_epoch (x : Int) : cellsF 587 (putV 1 (fun _ => 2) (fun _ => x) (partF nm k e C L m l A n c hs).val) = (partF nm k x C L m l A n c hs).cells := cellsF_congr fun j hj => by
  simp only [putV, partF, Fld.val]
  by_cases h : j = 2
  · subst h; simp
  · rw [if_neg h]; simp [h]
theorem part_name (t : List UInt8) : (partF nm k e C L m l A n c hs).cells.setIfInBounds 0 (.string (strT t)) = (partF t k e C L m l A n c hs).cells := by
  unfold Fld.cells
  rw [set_cellsF]
  refine cellsF_congr fun j hj => ?_
  simp only [partF, Fld.val]
  by_cases h : j = 0
  · subst h; simp
  · rw [if_neg h]; simp [h]
theorem part_holds (A' : Option Addr) (n' c' : Nat) (hs' : Nat → Int) : (partF nm k e C L m l A n c hs).cells.setIfInBounds 586 (.slice A' n' c') = (partF nm k e C L m l A' n' c' hs').cells := by
  unfold Fld.cells
  rw [set_cellsF]
  refine cellsF_congr fun j hj => ?_
  simp only [partF, Fld.val]
  by_cases h : j = 586
  · subst h; simp
  · rw [if_neg h]
    repeat' split
    all_goals first | rfl | omega
theorem part_cnt (x : Nat) (h : m + x ≤ 579) : cellsF 587 (putV x (fun i => 3 + m + i) (fun i => C (m + i)) (partF nm k e C L m l A n c hs).val) = (partF nm k e C L (m + x) l A n c hs).cells := cellsF_congr fun j hj => by
  rw [putV_range]
  simp only [partF, Fld.val]
  by_cases h1 : 3 + m ≤ j ∧ j < 3 + m + x
  · rw [if_pos h1, if_neg (by omega), if_neg (by omega), if_neg (by omega), if_pos (by omega), if_pos (by omega), show m + (j - (3 + m)) = j - 3 by omega]
  · rw [if_neg h1]
    by_cases h0 : j = 0
    · rw [if_pos h0, if_pos h0]
    · by_cases h2 : j = 1
      · rw [if_neg h0, if_neg h0, if_pos h2, if_pos h2]
      · by_cases h3 : j = 2
        · rw [if_neg h0, if_neg h0, if_neg h2, if_neg h2, if_pos h3, if_pos h3]
        · rw [if_neg h0, if_neg h0, if_neg h2, if_neg h2, if_neg h3, if_neg h3]
          by_cases h4 : j < 582
          · rw [if_pos h4, if_pos h4]
            by_cases h5 : j - 3 < m
            · rw [if_pos h5, if_pos (by omega)]
            · rw [if_neg h5, if_neg (by omega)]
          · rw [if_neg h4, if_neg h4]
theorem part_lock : cellsF 587 (putV 4 (fun i => 582 + i) L (partF nm k e C L m 0 A n c hs).val) = (partF nm k e C L m 4 A n c hs).cells := cellsF_congr fun j hj => by
  rw [putV_range]
  simp only [partF, Fld.val]
  by_cases h1 : 582 ≤ j ∧ j < 582 + 4
  · rw [if_pos h1, if_neg (by omega), if_neg (by omega), if_neg (by omega), if_neg (by omega), if_pos (by omega), if_pos (by omega)]
  · rw [if_neg h1]
    by_cases h4 : j < 582
    · simp only [h4, if_true]
    · have h5 : ¬ j < 586 := by omega
      simp only [h4, h5, if_false]
end
/-- The field that was read is the one that was put. -/
theorem part_done {F : Fld} (h : rightF F = true) (hk : F.kind = 1) (L : Nat → Int) (A : Option Addr) (c : Nat) : (partF F.name 1 F.epoch F.cnt L 579 0 A F.hn c F.hs).cells = ({ F with hA := A, hc := c } : Fld).cells := cellsF_congr fun j hj => by
  simp only [rightF, Bool.and_eq_true] at h
  have h2 := h.2
  rw [if_pos hk] at h2
  simp only [Bool.and_eq_true] at h2
  have hl := eqI_iff.1 h2.2
  simp only [partF, Fld.val, hk]
  by_cases h4 : j < 582
  · simp only [h4, if_true]
    by_cases h5 : j - 3 < 579
    · simp only [h5, if_true]
    · omega
  · by_cases h5 : j < 586
    · simp only [h4, h5, if_true, if_false, Nat.not_lt_zero]
      rw [hl (j - 582) (by omega)]
    · simp only [h4, h5, if_false]
theorem part_done2 {F : Fld} (h : rightF F = true) (hk : F.kind = 2) (C : Nat → Int) : (partF F.name 2 F.epoch C F.lock 0 4 none 0 0 F.hs).cells = ({ F with hA := none, hc := 0 } : Fld).cells ∧ F.hn = 0 := by
  simp only [rightF, Bool.and_eq_true] at h
  have h2 := h.2
  rw [if_neg (by omega), if_pos hk] at h2
  simp only [Bool.and_eq_true, decide_eq_true_eq] at h2
  have hl := eqI_iff.1 h2.2
  refine ⟨cellsF_congr fun j hj => ?_, h2.1.2⟩
  simp only [partF, Fld.val, hk, h2.1.2]
  by_cases h4 : j < 582
  · simp only [h4, if_true, Nat.not_lt_zero, if_false]
    by_cases h0 : j = 0
    · simp [h0]
    · by_cases h1 : j = 1
      · simp [h1]
      · by_cases h3 : j = 2
        · simp [h3]
        · simp only [h0, h1, h3, if_false]
          rw [hl (j - 3) (by omega)]
  · by_cases h5 : j < 586
    · have h6 : j - 582 < 4 := by omega
      simp only [h4, h5, h6, if_true, if_false]
    · simp only [h4, h5, if_false]
end Go.Proofs.YtinhaipnmmgplaaGreat
