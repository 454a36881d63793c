/-
  Layer 17 (state): the reader's numbers.
-/
import Derived.Test.YtinhaipnmmgplaaGreatZGM
import Derived.Test.YtinhaipnmmgplaaGreatZMDec
import Derived.Test.YtinhaipnmmgplaaGreatZGD
import Derived.Test.YtinhaipnmmgplaaGreatZHeldR
namespace Go.Proofs.YtinhaipnmmgplaaGreat
set_option maxRecDepth 20000
open Go.RowKit
set_option linter.unusedSimpArgs false
set_option linter.unusedVariables false
attribute [local go_sem] rowCells rowAt_drewN get_ints getE_ints set_ints size_ints rowAt_alloc rowAt_drew setRow_alloc setRow_drewN setRow_drew setCell_alloc setCell_drewN splice_upd splice_put splice_all load_vec_cut load_vecs_cut load_rights_cut load_counter store_vec store_rights store_counter eql_vec neq_vec index_vec eql_rights neq_rights eql_counter index_vecs cut_ints sub_zero
attribute [local go_sem ↓] xload_vec xstore_vec xalloc_vec xeql_vec xneq_vec xindex_vec xbuild_vec0 xload_rights xstore_rights xalloc_rights xeql_rights xneq_rights xbuild_rights0 xload_vecs xindex_vecs xload_counter xstore_counter xalloc_counter xbuild_counter0 xeql_counter xbuild_counter3
attribute [local go_sem] rowAt_setRow rowAt_setCell load_vec_cut_later load_rights_later load_counter_later Later.cell Later.frozen build3_ints
attribute [local go_sem ↓] xload_field xstore_field xalloc_field xload_lock
attribute [local go_sem] load_field load_field_later store_field load_counter_cut load_lock_cut load_lock_later Fld.size Fld.get0 Fld.get1 Fld.get2 Fld.get586 Fld.getE0 Fld.getE1 Fld.getE2 Fld.getE586 Fld.cut_cnt Fld.cut_lock Fld.cut_all Fld.splice_all strT_size

attribute [local go_sem ↓] xload_hold xstore_hold xalloc_hold
attribute [local go_sem] load_hold load_hold_later store_hold
attribute [local go_sem ↓] xbuild_lock0 xeql_lock xneq_lock xneq_counter
attribute [local go_sem] eql_lock neq_lock neq_counter

attribute [local go_sem] zero_field
attribute [local go_sem] resC_size resC_all resC_splice resC_set0 resC_set1 Fld.set2 Fld.set586
attribute [local go_sem ↓] xbuildS_field
attribute [local go_sem] buildSF_agg
attribute [local go_sem ↓] xstore_sta xload_sta xalloc_sta xbuild_sta0 xstore_bar xload_bar xalloc_bar xbuild_bar0 xstore_plan xload_plan xalloc_plan xbuild_plan0
attribute [local go_sem] load_sta load_sta_later store_sta load_bar load_bar_later store_bar load_plan load_plan_later store_plan
attribute [local go_sem] Sta.size Sta.bsize Pl.size Sta.cut_all Sta.cut_p Sta.cut_bar Sta.cut_bp Sta.bcut_all Sta.bcut_p Pl.cut_all Sta.splice_all Sta.bsplice_all Pl.splice_all Sta.splice_bar
attribute [local go_sem] Sta.get0 Sta.getE0 Sta.set0 Sta.get1 Sta.getE1 Sta.set1 Sta.get2 Sta.getE2 Sta.set2 Sta.get3 Sta.getE3 Sta.set3 Sta.get4 Sta.getE4 Sta.set4 Sta.get5 Sta.getE5 Sta.set5 Sta.get6 Sta.getE6 Sta.set6 Sta.get7 Sta.getE7 Sta.set7 Sta.get8 Sta.getE8 Sta.set8 Sta.get9 Sta.getE9 Sta.set9 Sta.get10 Sta.getE10 Sta.set10 Sta.get11 Sta.getE11 Sta.set11 Sta.get12 Sta.getE12 Sta.set12 Sta.get13 Sta.getE13 Sta.set13 Sta.get14 Sta.getE14 Sta.set14 Sta.get15 Sta.getE15 Sta.set15 Sta.get16 Sta.getE16 Sta.set16 Sta.get17 Sta.getE17 Sta.set17 Sta.get18 Sta.getE18 Sta.set18 Sta.get19 Sta.getE19 Sta.set19 Sta.get20 Sta.getE20 Sta.set20 Sta.get21 Sta.getE21 Sta.set21 Sta.get22 Sta.getE22 Sta.set22 Sta.get23 Sta.getE23 Sta.set23 Sta.get24 Sta.getE24 Sta.set24
attribute [local go_sem] Sta.bget0 Sta.bgetE0 Sta.bget1 Sta.bgetE1 Sta.bget2 Sta.bgetE2 Sta.bget3 Sta.bgetE3 Sta.bget4 Sta.bgetE4 Sta.bget5 Sta.bgetE5 Sta.bget6 Sta.bgetE6 Sta.bget7 Sta.bgetE7 Sta.bget8 Sta.bgetE8 Sta.bget9 Sta.bgetE9 Sta.bget10 Sta.bgetE10 Sta.bget11 Sta.bgetE11 Sta.bget12 Sta.bgetE12 Sta.bget13 Sta.bgetE13 Pl.get0 Pl.getE0 Pl.get1 Pl.getE1 Pl.get2 Pl.getE2 Pl.get3 Pl.getE3 Pl.get4 Pl.getE4

/-- Cells set to numbers. -/
def setZ : Array Value → List Nat → List Int → Array Value
  | C, o :: os, v :: vs => setZ (C.setIfInBounds o (.int .i64 v)) os vs
  | C, _, _ => C
theorem setZ_size : ∀ (os : List Nat) (vs : List Int) (C : Array Value), (setZ C os vs).size = C.size
  | [], vs, C => by cases vs <;> rfl
  | o :: os, [], C => rfl
  | o :: os, v :: vs, C => by rw [setZ, setZ_size os vs, Array.size_setIfInBounds]
theorem setZ_snoc : ∀ (os : List Nat) (vs : List Int) (C : Array Value) (o : Nat) (v : Int), os.length = vs.length → setZ C (os ++ [o]) (vs ++ [v]) = (setZ C os vs).setIfInBounds o (.int .i64 v)
  | [], [], C, o, v, _ => rfl
  | o' :: os, v' :: vs, C, o, v, h => by
    rw [List.cons_append, List.cons_append, setZ, setZ, setZ_snoc os vs _ o v (by simpa using h)]
def rdC (p : Nat) : Array Value := #[.pointer (some ⟨p, 0, none⟩), .int .i64 0]
theorem why_ok {w : World} {rg p : Nat} {l : List UInt8} {e : Int} (h : Rd w p l e) (hr : rowAt w rg = some (rdC p, 76)) :
    Calls Tryz.prog 31 #[.pointer (some ⟨rg, 0, none⟩)] w fun x w' => x = .returned (.int .i64 e) ∧ w = w' := by
  have HR := Lib.hid h
  have c0 : w.cell? ⟨rg, 0, none⟩ = some (.pointer (some ⟨p, 0, none⟩)) := by rw [cell_of_rowAt hr]; rfl
  have c1 : w.cell? ⟨rg, 1, none⟩ = some (.int .i64 0) := by rw [cell_of_rowAt hr]; rfl
  clear h hr
  go_enter Tryz.func31, Tryz.ntmps31
  go_wp2_with fail
  refine (err_any HR.out).mono ?_
  rintro x _ ⟨rfl, rfl⟩
  go_wp2_with fail
  go_ret
  exact ⟨rfl, rfl⟩
/-- What a reading of numbers tells. -/
def RNum (w : World) (rg p sg : Nat) (c : Bool) (l Y r : List UInt8) (e : Int) (L : List Int) (C : Array Value) (os : List Nat) (x : Ending) (w' : World) : Prop :=
  x = .returned (.tuple #[]) ∧ ∃ vs l' e', vs.length = L.length ∧ rowAt w' sg = some (setZ C os vs, 30) ∧ Rd w' p l' e' ∧ FedE c l' Y r e' ∧ (e' = 0 → e = 0 ∧ vs = L) ∧ l'.length ≤ l.length ∧ Two sg p w w'
set_option maxHeartbeats 4000000 in
theorem rnums_ok (rg p sg q n : Nat) (c : Bool) (l Y r : List UInt8) (e : Int) (L : List Int) (C : Array Value) (os : List Nat) (w : World) (h : Rd w p l e) (hr : rowAt w rg = some (rdC p, 76)) (hs : rowAt w sg = some (C, 30))
    (hq : ∀ k, k < os.length → w.cell? ⟨q, k, none⟩ = some (.pointer (some ⟨sg, os.getD k 0, none⟩))) (hn : n = os.length) (hlen : l.length ≤ 70368744170000) (hL : L.length = os.length) (hB : ∀ x ∈ L, isB x = true) (hC : ∀ o ∈ os, o < C.size)
    (hpr : p < rg) (hrs : rg < sg) (hqp : q ≠ p) (hqs : q ≠ sg) (hos : os.length ≤ 1000) (hf : FedE c l (catB L ++ Y) r e) :
    Calls Tryz.prog 28 #[.pointer (some ⟨rg, 0, none⟩), .slice (some ⟨q, 0, none⟩) n n] w (RNum w rg p sg c l Y r e L C os) := by
  subst hn
  have HR0 := Lib.hid h
  have HRR := Lib.hid hr
  have HS0 := Lib.hid hs
  have HQ := Lib.hid hq
  have HF0 := Lib.hid hf
  have HBL := Lib.hid hB
  have HCC := Lib.hid hC
  have hsw := rowAt_lt hs
  clear h hr hs hq hf hB hC
  go_enter Tryz.func28, Tryz.ntmps28
  go_wp2_with fail
  go_loopw [8] (fun i w' => ∃ (k : Nat) (vs : List Int) (l' : List UInt8) (e' : Int), k ≤ os.length ∧ i = .int .i64 k ∧ vs.length = k ∧ rowAt w' sg = some (setZ C (os.take k) vs, 30) ∧ Rd w' p l' e' ∧ FedE c l' (catB (L.drop k) ++ Y) r e' ∧ (e' = 0 → e = 0 ∧ vs = L.take k) ∧ l'.length ≤ l.length ∧ Two sg p w w') (fun i _ => os.length - (intOf i).toNat)
  case atStart => exact ⟨0, [], l, e, Nat.zero_le _, rfl, rfl, by simpa [setZ] using HS0.out, HR0.out, HF0.out, fun h => ⟨h, rfl⟩, Nat.le_refl _, Two.refl _ _ _⟩
  case round =>
    rename World => wr
    obtain ⟨k, vs, l1, e1, hk, rfl, hvl, hs, hr, hf, hv, hl1, ht⟩ := hrel
    have HR := Lib.hid hr
    have HS := Lib.hid hs
    have HF := Lib.hid hf
    have HV := Lib.hid hv
    have HT := Lib.hid ht
    clear HR0 HS0 HF0
    by_cases hlt : k < os.length
    · have hc := ht.cell hqs hqp (HQ.out k hlt)
      have hrr := ht.row (show rg ≠ sg by omega) (show rg ≠ p by omega) HRR.out
      have c0 : wr.cell? ⟨rg, 0, none⟩ = some (.pointer (some ⟨p, 0, none⟩)) := by rw [cell_of_rowAt hrr]; rfl
      have hcs : ∀ o, o < C.size → ∃ v, (setZ C (os.take k) vs)[o]? = some v := fun o ho => ⟨_, Array.getElem?_eq_getElem (by rw [setZ_size]; exact ho)⟩
      obtain ⟨o, ho⟩ : ∃ o, os.getD k 0 = o := ⟨_, rfl⟩
      have hoC : o < C.size := HCC.out o (by rw [← ho]; simp [List.getD, hlt])
      have hLk : k < L.length := by omega
      obtain ⟨y, hy⟩ : ∃ y, L.getD k 0 = y := ⟨_, rfl⟩
      have hyB : isB y = true := HBL.out y (by rw [← hy]; simp [List.getD, hLk])
      have hdr : catB (L.drop k) ++ Y = numB y ++ (catB (L.drop (k + 1)) ++ Y) := by rw [catB_drop hLk, hy, List.append_assoc]
      rw [hdr] at hf
      have HF := Lib.hid hf
      have HTK : Hid (L.take (k + 1) = L.take k ++ [y]) := Lib.hid (by rw [List.take_add_one, ← hy]; simp [List.getD, hLk])
      have HOK : Hid (os.take (k + 1) = os.take k ++ [o]) := Lib.hid (by rw [List.take_add_one, ← ho]; simp [List.getD, hlt])
      rw [ho] at hc
      clear hdr hf hr hs hv ht hrr ho hy
      go_wp2_with fail
      refine (rnum_feed HR.out (Nat.le_trans hl1 (Nat.le_trans hlen (by decide))) hyB HF.out).mono ?_
      rintro x w1 ⟨v, l2, e2, rfl, hr, hcase, hl2, hon⟩
      obtain ⟨f1, f2⟩ := fed_of hcase
      have hs1 := hon.row (show sg ≠ p by omega) HS.out
      have hf1 := frozen_of_rowAt hs1
      obtain ⟨v0, hv0⟩ := hcs o hoC
      have hc1 : w1.cell? ⟨sg, o, none⟩ = some v0 := by rw [cell_of_rowAt hs1]; exact hv0
      have HW : Hid (rowAt (w1.setCell ⟨sg, o, none⟩ (.int .i64 v)) sg = some (setZ C (os.take (k + 1)) (vs ++ [v]), 30) ∧ Rd (w1.setCell ⟨sg, o, none⟩ (.int .i64 v)) p l2 e2 ∧ Two sg p w (w1.setCell ⟨sg, o, none⟩ (.int .i64 v))) :=
        Lib.hid ⟨by rw [rowAt_setCell, if_pos rfl, hs1, HOK.out, setZ_snoc _ _ _ _ _ (by rw [List.length_take, hvl]; omega)]; rfl, hr.below (B := sg) (below_setCell' (Below.refl _ _) (Nat.le_refl _)) (by omega), (HT.out.trans (Two.of_only hon)).trans (Two.setG (by omega) _)⟩
      have HF2 := Lib.hid f1
      have HV2 : Hid (e2 = 0 → e = 0 ∧ vs ++ [v] = L.take (k + 1)) := Lib.hid fun h => by
        obtain ⟨g1, g2⟩ := f2 h
        obtain ⟨g3, g4⟩ := HV.out g1
        exact ⟨g3, by rw [HTK.out, g2, g4]⟩
      clear hcase hr hon f1 f2 hs1 hcs hv0 HR HS HF HV HT HOK HTK
      go_wp2_with fail
      go_roundw
      case rel => exact ⟨k + 1, vs ++ [v], l2, e2, by omega, by go_num, by rw [List.length_append, hvl]; rfl, HW.out.1, HW.out.2.1, HF2.out, HV2.out, Nat.le_trans hl2 hl1, HW.out.2.2⟩
      case measure => simp [intOf]; omega
    · have hkk : k = os.length := by omega
      have HE : Hid (rowAt wr sg = some (setZ C os vs, 30) ∧ FedE c l1 Y r e1 ∧ (e1 = 0 → e = 0 ∧ vs = L)) := Lib.hid ⟨by rw [hkk, List.take_length] at hs; exact hs, by rw [hkk, ← hL, List.drop_length] at hf; exact hf, by rw [hkk, ← hL, List.take_length] at hv; exact hv⟩
      clear hs hr hf hv ht
      go_wp2_with fail
      refine bodyPost_end (v := .tuple #[]) (by simp [results, show Tryz.f28.results = #[] from rfl]) rfl ?_
      exact ⟨rfl, vs, l1, e1, by omega, HE.out.1, HR.out, HE.out.2.1, HE.out.2.2, hl1, HT.out⟩
end Go.Proofs.YtinhaipnmmgplaaGreat

/-
  Layer 17 (state): the reader's plan.
-/
namespace Go.Proofs.YtinhaipnmmgplaaGreat
set_option maxRecDepth 20000
open Go.RowKit
set_option linter.unusedSimpArgs false
set_option linter.unusedVariables false
attribute [local go_sem] rowCells rowAt_drewN get_ints getE_ints set_ints size_ints rowAt_alloc rowAt_drew setRow_alloc setRow_drewN setRow_drew setCell_alloc setCell_drewN splice_upd splice_put splice_all load_vec_cut load_vecs_cut load_rights_cut load_counter store_vec store_rights store_counter eql_vec neq_vec index_vec eql_rights neq_rights eql_counter index_vecs cut_ints sub_zero
attribute [local go_sem ↓] xload_vec xstore_vec xalloc_vec xeql_vec xneq_vec xindex_vec xbuild_vec0 xload_rights xstore_rights xalloc_rights xeql_rights xneq_rights xbuild_rights0 xload_vecs xindex_vecs xload_counter xstore_counter xalloc_counter xbuild_counter0 xeql_counter xbuild_counter3
attribute [local go_sem] rowAt_setRow rowAt_setCell load_vec_cut_later load_rights_later load_counter_later Later.cell Later.frozen build3_ints
attribute [local go_sem ↓] xload_field xstore_field xalloc_field xload_lock
attribute [local go_sem] load_field load_field_later store_field load_counter_cut load_lock_cut load_lock_later Fld.size Fld.get0 Fld.get1 Fld.get2 Fld.get586 Fld.getE0 Fld.getE1 Fld.getE2 Fld.getE586 Fld.cut_cnt Fld.cut_lock Fld.cut_all Fld.splice_all strT_size

attribute [local go_sem ↓] xload_hold xstore_hold xalloc_hold
attribute [local go_sem] load_hold load_hold_later store_hold
attribute [local go_sem ↓] xbuild_lock0 xeql_lock xneq_lock xneq_counter
attribute [local go_sem] eql_lock neq_lock neq_counter

attribute [local go_sem] zero_field
attribute [local go_sem] resC_size resC_all resC_splice resC_set0 resC_set1 Fld.set2 Fld.set586
attribute [local go_sem ↓] xbuildS_field
attribute [local go_sem] buildSF_agg
attribute [local go_sem ↓] xstore_sta xload_sta xalloc_sta xbuild_sta0 xstore_bar xload_bar xalloc_bar xbuild_bar0 xstore_plan xload_plan xalloc_plan xbuild_plan0
attribute [local go_sem] load_sta load_sta_later store_sta load_bar load_bar_later store_bar load_plan load_plan_later store_plan
attribute [local go_sem] Sta.size Sta.bsize Pl.size Sta.cut_all Sta.cut_p Sta.cut_bar Sta.cut_bp Sta.bcut_all Sta.bcut_p Pl.cut_all Sta.splice_all Sta.bsplice_all Pl.splice_all Sta.splice_bar
attribute [local go_sem] Sta.get0 Sta.getE0 Sta.set0 Sta.get1 Sta.getE1 Sta.set1 Sta.get2 Sta.getE2 Sta.set2 Sta.get3 Sta.getE3 Sta.set3 Sta.get4 Sta.getE4 Sta.set4 Sta.get5 Sta.getE5 Sta.set5 Sta.get6 Sta.getE6 Sta.set6 Sta.get7 Sta.getE7 Sta.set7 Sta.get8 Sta.getE8 Sta.set8 Sta.get9 Sta.getE9 Sta.set9 Sta.get10 Sta.getE10 Sta.set10 Sta.get11 Sta.getE11 Sta.set11 Sta.get12 Sta.getE12 Sta.set12 Sta.get13 Sta.getE13 Sta.set13 Sta.get14 Sta.getE14 Sta.set14 Sta.get15 Sta.getE15 Sta.set15 Sta.get16 Sta.getE16 Sta.set16 Sta.get17 Sta.getE17 Sta.set17 Sta.get18 Sta.getE18 Sta.set18 Sta.get19 Sta.getE19 Sta.set19 Sta.get20 Sta.getE20 Sta.set20 Sta.get21 Sta.getE21 Sta.set21 Sta.get22 Sta.getE22 Sta.set22 Sta.get23 Sta.getE23 Sta.set23 Sta.get24 Sta.getE24 Sta.set24
attribute [local go_sem] Sta.bget0 Sta.bgetE0 Sta.bget1 Sta.bgetE1 Sta.bget2 Sta.bgetE2 Sta.bget3 Sta.bgetE3 Sta.bget4 Sta.bgetE4 Sta.bget5 Sta.bgetE5 Sta.bget6 Sta.bgetE6 Sta.bget7 Sta.bgetE7 Sta.bget8 Sta.bgetE8 Sta.bget9 Sta.bgetE9 Sta.bget10 Sta.bgetE10 Sta.bget11 Sta.bgetE11 Sta.bget12 Sta.bgetE12 Sta.bget13 Sta.bgetE13 Pl.get0 Pl.getE0 Pl.get1 Pl.getE1 Pl.get2 Pl.getE2 Pl.get3 Pl.getE3 Pl.get4 Pl.getE4

theorem list_three {α : Type} {l : List α} (h : l.length = 3) : ∃ a b c, l = [a, b, c] := by
  match l, h with
  | [a, b, c], _ => exact ⟨a, b, c, rfl⟩
/-- Cells set to a plan. -/
def setPl (C : Array Value) (o : Nat) (q : Pl) : Array Value := ((setZ C [o, o + 3, o + 4] [q.k, q.a, q.b]).setIfInBounds (o + 1) (.string (strT q.n))).setIfInBounds (o + 2) (.string (strT q.o))
def RPl (w : World) (p sg : Nat) (c : Bool) (l Y r : List UInt8) (e : Int) (q : Pl) (C : Array Value) (o : Nat) (x : Ending) (w' : World) : Prop :=
  x = .returned (.tuple #[]) ∧ ∃ (q' : Pl) (l' : List UInt8) (e' : Int), rowAt w' sg = some (setPl C o q', 30) ∧ Rd w' p l' e' ∧ FedE c l' Y r e' ∧ (e' = 0 → e = 0 ∧ q' = q) ∧ l'.length ≤ l.length ∧ Two sg p w w'
set_option maxHeartbeats 8000000 in
theorem rplan_ok (rg p sg : Nat) (c : Bool) (l Y r : List UInt8) (e : Int) (q : Pl) (C : Array Value) (o : Nat) (w : World) (h : Rd w p l e) (hr : rowAt w rg = some (rdC p, 76)) (hs : rowAt w sg = some (C, 30))
    (hlen : l.length ≤ 70368744170000) (hB : isB q.k = true ∧ isB q.a = true ∧ isB q.b = true) (hq : q.n.length ≤ 8 ∧ q.o.length ≤ 8) (hC : o + 5 ≤ C.size) (hpr : p < rg) (hrs : rg < sg) (hf : FedE c l (planW q ++ Y) r e) :
    Calls Tryz.prog 29 #[.pointer (some ⟨rg, 0, none⟩), .pointer (some ⟨sg, o, none⟩)] w (RPl w p sg c l Y r e q C o) := by
  have HF : Hid (FedE c l (catB [q.k, q.a, q.b] ++ (numB q.n.length ++ (q.n ++ (numB q.o.length ++ (q.o ++ Y))))) r e) := Lib.hid (by simpa only [planW, List.append_assoc] using hf)
  have HBL : Hid (∀ x ∈ [q.k, q.a, q.b], isB x = true) := Lib.hid (by simpa using hB)
  have HCC : Hid (∀ i ∈ [o, o + 3, o + 4], i < C.size) := Lib.hid (by intro i hi; simp at hi; omega)
  have HCO : Hid (∀ i ∈ [o + 1, o + 2], i < C.size) := Lib.hid (by intro i hi; simp at hi; omega)
  have HN1 : Hid (isB (q.n.length : Int) = true ∧ (q.n.length : Int) ≤ 8) := Lib.hid ⟨isB_small (by omega) (by omega), by omega⟩
  have HN2 : Hid (isB (q.o.length : Int) = true ∧ (q.o.length : Int) ≤ 8) := Lib.hid ⟨isB_small (by omega) (by omega), by omega⟩
  clear hf hB hq hC
  go_enter Tryz.func29, Tryz.ntmps29
  go_upto_region 0 with fail
  refine wp_region_late_drew (lt := []) (S := fun w' : World => True) (by kernel_rfl) trivial (fun hS => ?_)
  have HR : Hid (Rd w.drew p l e) := Lib.hid (h.below (Below.refl w.heap.size w).drew h.lt)
  have HRR : Hid (rowAt w.drew rg = some (rdC p, 76)) := Lib.hid hr
  have HS0 : Hid (rowAt w.drew sg = some (C, 30)) := Lib.hid hs
  have hT0 : Two sg p w w.drew := Two.of_below (Below.refl _ _).drew (Nat.le_of_lt h.lt)
  have hpw := HR.out.lt
  have hsgw := rowAt_lt HS0.out
  have hrgw := rowAt_lt HRR.out
  clear h hr hs
  generalize w.drew = W7 at *
  have hal : ∀ o, Below W7.heap.size W7 (W7.alloc o) := fun o => (Below.refl _ _).alloc (Nat.le_refl _) _
  refine late_take (i := 0) (lt := []) (rd := [0, 1, 2, 3, 4, 5, 6, 7, 8, 9]) (by simp only [List.getElem?_toArray, List.getElem?_cons_succ, List.getElem?_cons_zero]; rfl) (by decide +kernel) (by decide +kernel) (by decide +kernel) (by decide +kernel) (by decide +kernel) (by exact fun _ _ _ _ h => h) hS (by rfl) ?_
  apply Exists.intro
  refine ⟨fun w' hSw => ?_, ?_⟩
  · go_simp
    with_reducible rfl
  (try simp only [act_put, act_put_none, List.set_cons_zero, List.set_cons_succ])
  refine late_take (i := 1) (lt := []) (rd := [0, 1, 2, 3, 4, 5, 6, 7, 8, 9]) (by simp only [List.getElem?_toArray, List.getElem?_cons_succ, List.getElem?_cons_zero]; rfl) (by decide +kernel) (by decide +kernel) (by decide +kernel) (by decide +kernel) (by decide +kernel) (by exact fun _ _ _ _ h => h) hS (by rfl) ?_
  apply Exists.intro
  refine ⟨fun w' hSw => ?_, ?_⟩
  · go_simp
    with_reducible rfl
  (try simp only [act_put, act_put_none, List.set_cons_zero, List.set_cons_succ])
  refine late_take (i := 2) (lt := []) (rd := [0, 1, 2, 3, 4, 5, 6, 7, 8, 9]) (by simp only [List.getElem?_toArray, List.getElem?_cons_succ, List.getElem?_cons_zero]; rfl) (by decide +kernel) (by decide +kernel) (by decide +kernel) (by decide +kernel) (by decide +kernel) (by exact fun _ _ _ _ h => h) hS (by rfl) ?_
  apply Exists.intro
  refine ⟨fun w' hSw => ?_, ?_⟩
  · go_simp
    with_reducible rfl
  (try simp only [act_put, act_put_none, List.set_cons_zero, List.set_cons_succ])
  refine late_take (i := 3) (lt := []) (rd := [0, 1, 2, 3, 4, 5, 6, 7, 8, 9]) (by simp only [List.getElem?_toArray, List.getElem?_cons_succ, List.getElem?_cons_zero]; rfl) (by decide +kernel) (by decide +kernel) (by decide +kernel) (by decide +kernel) (by decide +kernel) (by exact fun _ _ _ _ h => h) hS (by rfl) ?_
  apply Exists.intro
  refine ⟨fun w' hSw => ?_, ?_⟩
  · go_simp
    with_reducible rfl
  (try simp only [act_put, act_put_none, List.set_cons_zero, List.set_cons_succ])
  refine late_take (i := 4) (lt := []) (rd := [0, 1, 2, 3, 4, 5, 6, 7, 8, 9]) (by simp only [List.getElem?_toArray, List.getElem?_cons_succ, List.getElem?_cons_zero]; rfl) (by decide +kernel) (by decide +kernel) (by decide +kernel) (by decide +kernel) (by decide +kernel) (by exact fun _ _ _ _ h => h) hS (by rfl) ?_
  apply Exists.intro
  refine ⟨fun w' hSw => ?_, ?_⟩
  · go_simp
    with_reducible rfl
  (try simp only [act_put, act_put_none, List.set_cons_zero, List.set_cons_succ])
  refine late_take (i := 5) (lt := []) (rd := [0, 1, 2, 3, 4, 5, 6, 7, 8, 9]) (by simp only [List.getElem?_toArray, List.getElem?_cons_succ, List.getElem?_cons_zero]; rfl) (by decide +kernel) (by decide +kernel) (by decide +kernel) (by decide +kernel) (by decide +kernel) (by exact fun _ _ _ _ h => h) hS (by rfl) ?_
  apply Exists.intro
  refine ⟨fun w' hSw => ?_, ?_⟩
  · go_simp
    with_reducible rfl
  (try simp only [act_put, act_put_none, List.set_cons_zero, List.set_cons_succ])
  refine late_take (i := 6) (lt := []) (rd := [0, 1, 2, 3, 4, 5, 6, 7, 8, 9]) (by simp only [List.getElem?_toArray, List.getElem?_cons_succ, List.getElem?_cons_zero]; rfl) (by decide +kernel) (by decide +kernel) (by decide +kernel) (by decide +kernel) (by decide +kernel) (by exact fun _ _ _ _ h => h) hS (by rfl) ?_
  apply Exists.intro
  refine ⟨fun w' hSw => ?_, ?_⟩
  · go_simp
    with_reducible rfl
  (try simp only [act_put, act_put_none, List.set_cons_zero, List.set_cons_succ])
  refine late_take (i := 7) (lt := []) (rd := [0, 1, 2, 3, 4, 5, 6, 7, 8, 9]) (by simp only [List.getElem?_toArray, List.getElem?_cons_succ, List.getElem?_cons_zero]; rfl) (by decide +kernel) (by decide +kernel) (by decide +kernel) (by decide +kernel) (by decide +kernel) (by exact fun _ _ _ _ h => h) hS (by rfl) ?_
  apply Exists.intro
  refine ⟨fun w' hSw => ?_, ?_⟩
  · go_simp
    with_reducible rfl
  (try simp only [act_put, act_put_none, List.set_cons_zero, List.set_cons_succ])
  refine late_take (i := 8) (lt := []) (rd := [0, 1, 2, 3, 4, 5, 6, 7, 8, 9]) (by simp only [List.getElem?_toArray, List.getElem?_cons_succ, List.getElem?_cons_zero]; rfl) (by decide +kernel) (by decide +kernel) (by decide +kernel) (by decide +kernel) (by decide +kernel) (by exact fun _ _ _ _ h => h) hS (by rfl) ?_
  apply Exists.intro
  refine ⟨fun w' hSw => ?_, ?_⟩
  · go_simp
    with_reducible rfl
  (try simp only [act_put, act_put_none, List.set_cons_zero, List.set_cons_succ])
  refine late_take (i := 9) (lt := []) (rd := [0, 1, 2, 3, 4, 5, 6, 7, 8, 9]) (by simp only [List.getElem?_toArray, List.getElem?_cons_succ, List.getElem?_cons_zero]; rfl) (by decide +kernel) (by decide +kernel) (by decide +kernel) (by decide +kernel) (by decide +kernel) (by exact fun _ _ _ _ h => h) hS (by rfl) ?_
  apply Exists.intro
  refine ⟨fun w' hSw => ?_, ?_⟩
  · go_simp
    with_reducible rfl
  (try simp only [act_put, act_put_none, List.set_cons_zero, List.set_cons_succ])
  refine wpAnyR_ready (rs := [10]) (by decide +kernel) (by simp) ?_
  refine AllReadyR.cons (i := 10) (by simp only [List.getElem?_toArray, List.getElem?_cons_succ, List.getElem?_cons_zero]; rfl) (fun K hK => ?_) ?_
  · go_simp
    refine hK.out _ _ trivial (fun hS2 => ?_)
    clear hK K hS2
    (try simp only [act_put, act_put_none, List.set_cons_zero, List.set_cons_succ])
    refine wpAnyR_ready (rs := [11]) (by decide +kernel) (by simp) ?_
    refine AllReadyR.cons (i := 11) (by simp only [List.getElem?_toArray, List.getElem?_cons_succ, List.getElem?_cons_zero]; rfl) (fun K hK => ?_) ?_
    · go_simp
      go_at_call 28
      refine (rnums_ok rg p sg W7.heap.size 3 c l (numB q.n.length ++ (q.n ++ (numB q.o.length ++ (q.o ++ Y)))) r e [q.k, q.a, q.b] C [o, o + 3, o + 4] _ (HR.out.below (hal _) HR.out.lt) (rowKeep (hal _) HRR.out) (rowKeep (hal _) HS0.out) ?_ rfl hlen rfl HBL.out HCC.out hpr hrs (by omega) (by omega) (by simp) HF.out).mono ?_
      · intro k hk
        rw [cell_of_rowAt (rowAt_alloc_at _ _ _ _ rfl)]
        rcases lt_three hk with rfl | rfl | rfl <;> rfl
      rintro x w1 ⟨rfl, vs, l1, e1, hvs, hs, hr, hf, hv, hl1, ht⟩
      go_simp
      refine hK.out _ _ trivial (fun hS2 => ?_)
      clear hK K hS2
      (try simp only [act_put, act_put_none, List.set_cons_zero, List.set_cons_succ])
      refine wpAnyR_done (by decide +kernel) ?_ _
      have HS2 : Hid (rowAt w1.drew sg = some (setZ C [o, o + 3, o + 4] vs, 30)) := Lib.hid hs
      have HR2 : Hid (Rd w1.drew p l1 e1) := Lib.hid (hr.below (Below.refl w1.heap.size w1).drew hr.lt)
      have HF2 := Lib.hid hf
      have HV2 := Lib.hid hv
      have HVS : Hid (vs.length = 3) := Lib.hid hvs
      have hrr : rowAt w1.drew rg = some (rdC p, 76) := ht.row (by omega) (by omega) (rowKeep (hal _) HRR.out)
      have HT2 : Hid (Two sg p w w1.drew) := Lib.hid (((hT0.trans (Two.of_below (hal _) (Nat.le_of_lt hpw))).trans ht).trans (Two.of_below (Below.refl _ _).drew (by have := ht.1; have := hr.lt; omega)))
      have hcs : ∀ i, i < C.size → ∃ v, (setZ C [o, o + 3, o + 4] vs)[i]? = some v := fun i hi => ⟨_, Array.getElem?_eq_getElem (by rw [setZ_size]; exact hi)⟩
      clear hs hr hf hv hvs ht hal hT0 HR HRR HS0 HF
      go_upto_region 1 with fail
      refine wp_region_late_drew (lt := []) (S := fun w' : World => rowAt w' rg = some (rdC p, 76)) (by kernel_rfl) hrr (fun hS => ?_)
      clear hrr
      generalize w1.drew = W8 at *
      refine late_take (i := 0) (lt := []) (rd := [0, 1, 2, 3, 4, 5, 7, 8, 9, 10, 12, 13, 15, 16]) (by simp only [List.getElem?_toArray, List.getElem?_cons_succ, List.getElem?_cons_zero]; rfl) (by decide +kernel) (by decide +kernel) (by decide +kernel) (by decide +kernel) (by decide +kernel) (by exact fun _ _ _ _ h => h) hS (by rfl) ?_
      apply Exists.intro
      refine ⟨fun w' hSw => ?_, ?_⟩
      · go_simp
        with_reducible rfl
      (try simp only [act_put, act_put_none, List.set_cons_zero, List.set_cons_succ])
      refine late_take (i := 1) (lt := []) (rd := [0, 1, 2, 3, 4, 5, 7, 8, 9, 10, 12, 13, 15, 16]) (by simp only [List.getElem?_toArray, List.getElem?_cons_succ, List.getElem?_cons_zero]; rfl) (by decide +kernel) (by decide +kernel) (by decide +kernel) (by decide +kernel) (by decide +kernel) (by exact fun _ _ _ _ h => h) hS (by rfl) ?_
      apply Exists.intro
      refine ⟨fun w' hSw => ?_, ?_⟩
      · go_simp
        with_reducible rfl
      (try simp only [act_put, act_put_none, List.set_cons_zero, List.set_cons_succ])
      refine late_take (i := 2) (lt := []) (rd := [0, 1, 2, 3, 4, 5, 7, 8, 9, 10, 12, 13, 15, 16]) (by simp only [List.getElem?_toArray, List.getElem?_cons_succ, List.getElem?_cons_zero]; rfl) (by decide +kernel) (by decide +kernel) (by decide +kernel) (by decide +kernel) (by decide +kernel) (by exact fun _ _ _ _ h => h) hS (by rfl) ?_
      apply Exists.intro
      refine ⟨fun w' hSw => ?_, ?_⟩
      · go_simp
        with_reducible rfl
      (try simp only [act_put, act_put_none, List.set_cons_zero, List.set_cons_succ])
      refine late_take (i := 3) (lt := []) (rd := [0, 1, 2, 3, 4, 5, 7, 8, 9, 10, 12, 13, 15, 16]) (by simp only [List.getElem?_toArray, List.getElem?_cons_succ, List.getElem?_cons_zero]; rfl) (by decide +kernel) (by decide +kernel) (by decide +kernel) (by decide +kernel) (by decide +kernel) (by exact fun _ _ _ _ h => h) hS (by rfl) ?_
      apply Exists.intro
      refine ⟨fun w' hSw => ?_, ?_⟩
      · go_simp
        with_reducible rfl
      (try simp only [act_put, act_put_none, List.set_cons_zero, List.set_cons_succ])
      refine late_take (i := 4) (lt := []) (rd := [0, 1, 2, 3, 4, 5, 7, 8, 9, 10, 12, 13, 15, 16]) (by simp only [List.getElem?_toArray, List.getElem?_cons_succ, List.getElem?_cons_zero]; rfl) (by decide +kernel) (by decide +kernel) (by decide +kernel) (by decide +kernel) (by decide +kernel) (by exact fun _ _ _ _ h => h) hS (by rfl) ?_
      apply Exists.intro
      refine ⟨fun w' hSw => ?_, ?_⟩
      · go_simp
        with_reducible rfl
      (try simp only [act_put, act_put_none, List.set_cons_zero, List.set_cons_succ])
      refine late_take (i := 5) (lt := []) (rd := [0, 1, 2, 3, 4, 5, 7, 8, 9, 10, 12, 13, 15, 16]) (by simp only [List.getElem?_toArray, List.getElem?_cons_succ, List.getElem?_cons_zero]; rfl) (by decide +kernel) (by decide +kernel) (by decide +kernel) (by decide +kernel) (by decide +kernel) (by exact fun _ _ _ _ h => h) hS (by rfl) ?_
      apply Exists.intro
      refine ⟨fun w' hSw => ?_, ?_⟩
      · have q1 : w'.cell? ⟨rg, 0, none⟩ = some (.pointer (some ⟨p, 0, none⟩)) := by rw [cell_of_rowAt hSw]; rfl
        go_simp
        with_reducible rfl
      (try simp only [act_put, act_put_none, List.set_cons_zero, List.set_cons_succ])
      refine late_take (i := 7) (lt := []) (rd := [0, 1, 2, 3, 4, 5, 7, 8, 9, 10, 12, 13, 15, 16]) (by simp only [List.getElem?_toArray, List.getElem?_cons_succ, List.getElem?_cons_zero]; rfl) (by decide +kernel) (by decide +kernel) (by decide +kernel) (by decide +kernel) (by decide +kernel) (by exact fun _ _ _ _ h => h) hS (by rfl) ?_
      apply Exists.intro
      refine ⟨fun w' hSw => ?_, ?_⟩
      · go_simp
        with_reducible rfl
      (try simp only [act_put, act_put_none, List.set_cons_zero, List.set_cons_succ])
      refine late_take (i := 8) (lt := []) (rd := [0, 1, 2, 3, 4, 5, 7, 8, 9, 10, 12, 13, 15, 16]) (by simp only [List.getElem?_toArray, List.getElem?_cons_succ, List.getElem?_cons_zero]; rfl) (by decide +kernel) (by decide +kernel) (by decide +kernel) (by decide +kernel) (by decide +kernel) (by exact fun _ _ _ _ h => h) hS (by rfl) ?_
      apply Exists.intro
      refine ⟨fun w' hSw => ?_, ?_⟩
      · go_simp
        with_reducible rfl
      (try simp only [act_put, act_put_none, List.set_cons_zero, List.set_cons_succ])
      refine late_take (i := 9) (lt := []) (rd := [0, 1, 2, 3, 4, 5, 7, 8, 9, 10, 12, 13, 15, 16]) (by simp only [List.getElem?_toArray, List.getElem?_cons_succ, List.getElem?_cons_zero]; rfl) (by decide +kernel) (by decide +kernel) (by decide +kernel) (by decide +kernel) (by decide +kernel) (by exact fun _ _ _ _ h => h) hS (by rfl) ?_
      apply Exists.intro
      refine ⟨fun w' hSw => ?_, ?_⟩
      · go_simp
        with_reducible rfl
      (try simp only [act_put, act_put_none, List.set_cons_zero, List.set_cons_succ])
      refine late_take (i := 10) (lt := []) (rd := [0, 1, 2, 3, 4, 5, 7, 8, 9, 10, 12, 13, 15, 16]) (by simp only [List.getElem?_toArray, List.getElem?_cons_succ, List.getElem?_cons_zero]; rfl) (by decide +kernel) (by decide +kernel) (by decide +kernel) (by decide +kernel) (by decide +kernel) (by exact fun _ _ _ _ h => h) hS (by rfl) ?_
      apply Exists.intro
      refine ⟨fun w' hSw => ?_, ?_⟩
      · have q1 : w'.cell? ⟨rg, 0, none⟩ = some (.pointer (some ⟨p, 0, none⟩)) := by rw [cell_of_rowAt hSw]; rfl
        go_simp
        with_reducible rfl
      (try simp only [act_put, act_put_none, List.set_cons_zero, List.set_cons_succ])
      refine wpAnyR_ready (rs := [6]) (by decide +kernel) (by simp) ?_
      refine AllReadyR.cons (i := 6) (by simp only [List.getElem?_toArray, List.getElem?_cons_succ, List.getElem?_cons_zero]; rfl) (fun K hK => ?_) ?_
      · go_simp
        go_at_call 50
        refine (rtext_feed HR2.out (Nat.le_trans hl1 (Nat.le_trans hlen (by decide))) HN1.out.1 HN1.out.2 HF2.out).mono ?_
        rintro x w3 ⟨s1, l2, e2, rfl, hr, hcase, hl2, hon⟩
        obtain ⟨f1, f2⟩ := fed_of hcase
        have HR3 := Lib.hid hr
        have HF3 := Lib.hid f1
        have HV3 := Lib.hid f2
        have hs3 := hon.row (show sg ≠ p by omega) HS2.out
        have HS3 := Lib.hid hs3
        have HT3 : Hid (Two sg p w w3) := Lib.hid (HT2.out.trans (Two.of_only hon))
        clear hcase hr f1 f2 hs3 HR2 HF2 HS2 HT2
        go_simp
        refine hK.out _ _ (hon.row (show rg ≠ p by omega) hS) (fun hS2 => ?_)
        clear hS hK K hon
        have hS := hS2
        clear hS2
        (try simp only [act_put, act_put_none, List.set_cons_zero, List.set_cons_succ])
        refine wpAnyR_ready (rs := [11]) (by decide +kernel) (by simp) ?_
        refine AllReadyR.cons (i := 11) (by simp only [List.getElem?_toArray, List.getElem?_cons_succ, List.getElem?_cons_zero]; rfl) (fun K hK => ?_) ?_
        · go_simp
          go_at_call 50
          refine (rtext_feed HR3.out (Nat.le_trans hl2 (Nat.le_trans hl1 (Nat.le_trans hlen (by decide)))) HN2.out.1 HN2.out.2 HF3.out).mono ?_
          rintro x w4 ⟨s2, l3, e3, rfl, hr, hcase, hl3, hon⟩
          obtain ⟨f1, f2⟩ := fed_of hcase
          have HR4 := Lib.hid hr
          have HF4 := Lib.hid f1
          have HV4 := Lib.hid f2
          have hs4 := hon.row (show sg ≠ p by omega) HS3.out
          have HT4 : Hid (Two sg p w w4) := Lib.hid (HT3.out.trans (Two.of_only hon))
          clear hcase hr f1 f2 HR3 HF3 HS3 HT3
          go_simp
          refine hK.out _ _ (hon.row (show rg ≠ p by omega) hS) (fun hS2 => ?_)
          clear hS hK K hon
          have hS := hS2
          clear hS2
          (try simp only [act_put, act_put_none, List.set_cons_zero, List.set_cons_succ])
          refine late_take (i := 12) (lt := []) (rd := [0, 1, 2, 3, 4, 5, 7, 8, 9, 10, 12, 13, 15, 16]) (by simp only [List.getElem?_toArray, List.getElem?_cons_succ, List.getElem?_cons_zero]; rfl) (by decide +kernel) (by decide +kernel) (by decide +kernel) (by decide +kernel) (by decide +kernel) (by exact fun _ _ _ _ h => h) hS (by rfl) ?_
          apply Exists.intro
          refine ⟨fun w' hSw => ?_, ?_⟩
          · go_simp
            with_reducible rfl
          (try simp only [act_put, act_put_none, List.set_cons_zero, List.set_cons_succ])
          refine late_take (i := 13) (lt := []) (rd := [0, 1, 2, 3, 4, 5, 7, 8, 9, 10, 12, 13, 15, 16]) (by simp only [List.getElem?_toArray, List.getElem?_cons_succ, List.getElem?_cons_zero]; rfl) (by decide +kernel) (by decide +kernel) (by decide +kernel) (by decide +kernel) (by decide +kernel) (by exact fun _ _ _ _ h => h) hS (by rfl) ?_
          apply Exists.intro
          refine ⟨fun w' hSw => ?_, ?_⟩
          · go_simp
            with_reducible rfl
          (try simp only [act_put, act_put_none, List.set_cons_zero, List.set_cons_succ])
          refine wpAnyR_ready (rs := [14]) (by decide +kernel) (by simp) ?_
          refine AllReadyR.cons (i := 14) (by simp only [List.getElem?_toArray, List.getElem?_cons_succ, List.getElem?_cons_zero]; rfl) (fun K hK => ?_) ?_
          · obtain ⟨v0, hv0⟩ := hcs (o + 1) (HCO.out _ (by simp))
            have fz := frozen_of_rowAt hs4
            have z1 : w4.cell? ⟨sg, o + 1, none⟩ = some v0 := by rw [cell_of_rowAt hs4]; exact hv0
            go_simp
            refine hK.out _ _ ((Only.setCell (p := sg) _).row (show rg ≠ sg by omega) hS) (fun hS2 => ?_)
            clear hS hK K
            have hS := hS2
            clear hS2
            (try simp only [act_put, act_put_none, List.set_cons_zero, List.set_cons_succ])
            refine late_take (i := 15) (lt := []) (rd := [0, 1, 2, 3, 4, 5, 7, 8, 9, 10, 12, 13, 15, 16]) (by simp only [List.getElem?_toArray, List.getElem?_cons_succ, List.getElem?_cons_zero]; rfl) (by decide +kernel) (by decide +kernel) (by decide +kernel) (by decide +kernel) (by decide +kernel) (by exact fun _ _ _ _ h => h) hS (by rfl) ?_
            apply Exists.intro
            refine ⟨fun w' hSw => ?_, ?_⟩
            · go_simp
              with_reducible rfl
            (try simp only [act_put, act_put_none, List.set_cons_zero, List.set_cons_succ])
            refine late_take (i := 16) (lt := []) (rd := [0, 1, 2, 3, 4, 5, 7, 8, 9, 10, 12, 13, 15, 16]) (by simp only [List.getElem?_toArray, List.getElem?_cons_succ, List.getElem?_cons_zero]; rfl) (by decide +kernel) (by decide +kernel) (by decide +kernel) (by decide +kernel) (by decide +kernel) (by exact fun _ _ _ _ h => h) hS (by rfl) ?_
            apply Exists.intro
            refine ⟨fun w' hSw => ?_, ?_⟩
            · go_simp
              with_reducible rfl
            (try simp only [act_put, act_put_none, List.set_cons_zero, List.set_cons_succ])
            refine wpAnyR_ready (rs := [17]) (by decide +kernel) (by simp) ?_
            refine AllReadyR.cons (i := 17) (by simp only [List.getElem?_toArray, List.getElem?_cons_succ, List.getElem?_cons_zero]; rfl) (fun K hK => ?_) ?_
            · have hs5 := row_set_same hs4 (v := .string (strB s1)) (i := o + 1) rfl
              obtain ⟨v1, hv1⟩ : ∃ v, ((setZ C [o, o + 3, o + 4] vs).setIfInBounds (o + 1) (.string (strB s1)))[o + 2]? = some v := ⟨_, Array.getElem?_eq_getElem (by rw [Array.size_setIfInBounds, setZ_size]; exact HCO.out _ (by simp))⟩
              have fz2 := frozen_of_rowAt hs5
              have z2 : (w4.setCell ⟨sg, o + 1, none⟩ (.string (strB s1))).cell? ⟨sg, o + 2, none⟩ = some v1 := by rw [cell_of_rowAt hs5]; exact hv1
              go_simp
              refine hK.out _ _ ((Only.setCell (p := sg) _).row (show rg ≠ sg by omega) hS) (fun hS2 => ?_)
              clear hS hK K
              have hS := hS2
              clear hS2
              (try simp only [act_put, act_put_none, List.set_cons_zero, List.set_cons_succ])
              refine wpAnyR_done (by decide +kernel) ?_ _
              go_wp2_with fail
              refine bodyPost_end (v := .tuple #[]) (by simp [results, show Tryz.f29.results = #[] from rfl]) rfl ?_
              obtain ⟨k1, a1, b1, rfl⟩ := list_three HVS.out
              refine ⟨rfl, ⟨k1, s1, s2, a1, b1⟩, l3, e3, row_set_same (row_set_same hs4 rfl) rfl, (HR4.out.below (B := sg) (below_setCell' (below_setCell' (Below.refl _ _) (Nat.le_refl _)) (Nat.le_refl _)) (by omega)), HF4.out, fun h => ?_, Nat.le_trans hl3 (Nat.le_trans hl2 hl1), (HT4.out.trans (Two.setG (by omega) _)).trans (Two.setG (by omega) _)⟩
              obtain ⟨g1, g2⟩ := HV4.out h
              obtain ⟨g3, g4⟩ := HV3.out g1
              obtain ⟨g5, g6⟩ := HV2.out g3
              injection g6 with g7 g8
              injection g8 with g8 g9
              injection g9 with g9 _
              subst g2 g4 g7 g8 g9
              exact ⟨g5, rfl⟩
            exact AllReadyR.nil
          exact AllReadyR.nil
        exact AllReadyR.nil
      exact AllReadyR.nil
    exact AllReadyR.nil
  exact AllReadyR.nil
end Go.Proofs.YtinhaipnmmgplaaGreat

/-
  Layer 17 (state): the reader's fields.
-/
namespace Go.Proofs.YtinhaipnmmgplaaGreat
set_option maxRecDepth 20000
open Go.RowKit
set_option linter.unusedSimpArgs false
set_option linter.unusedVariables false
attribute [local go_sem] rowCells rowAt_drewN get_ints getE_ints set_ints size_ints rowAt_alloc rowAt_drew setRow_alloc setRow_drewN setRow_drew setCell_alloc setCell_drewN splice_upd splice_put splice_all load_vec_cut load_vecs_cut load_rights_cut load_counter store_vec store_rights store_counter eql_vec neq_vec index_vec eql_rights neq_rights eql_counter index_vecs cut_ints sub_zero
attribute [local go_sem ↓] xload_vec xstore_vec xalloc_vec xeql_vec xneq_vec xindex_vec xbuild_vec0 xload_rights xstore_rights xalloc_rights xeql_rights xneq_rights xbuild_rights0 xload_vecs xindex_vecs xload_counter xstore_counter xalloc_counter xbuild_counter0 xeql_counter xbuild_counter3
attribute [local go_sem] rowAt_setRow rowAt_setCell load_vec_cut_later load_rights_later load_counter_later Later.cell Later.frozen build3_ints
attribute [local go_sem ↓] xload_field xstore_field xalloc_field xload_lock
attribute [local go_sem] load_field load_field_later store_field load_counter_cut load_lock_cut load_lock_later Fld.size Fld.get0 Fld.get1 Fld.get2 Fld.get586 Fld.getE0 Fld.getE1 Fld.getE2 Fld.getE586 Fld.cut_cnt Fld.cut_lock Fld.cut_all Fld.splice_all strT_size

attribute [local go_sem ↓] xload_hold xstore_hold xalloc_hold
attribute [local go_sem] load_hold load_hold_later store_hold
attribute [local go_sem ↓] xbuild_lock0 xeql_lock xneq_lock xneq_counter
attribute [local go_sem] eql_lock neq_lock neq_counter

attribute [local go_sem] zero_field
attribute [local go_sem] resC_size resC_all resC_splice resC_set0 resC_set1 Fld.set2 Fld.set586
attribute [local go_sem ↓] xbuildS_field
attribute [local go_sem] buildSF_agg
attribute [local go_sem ↓] xstore_sta xload_sta xalloc_sta xbuild_sta0 xstore_bar xload_bar xalloc_bar xbuild_bar0 xstore_plan xload_plan xalloc_plan xbuild_plan0
attribute [local go_sem] load_sta load_sta_later store_sta load_bar load_bar_later store_bar load_plan load_plan_later store_plan
attribute [local go_sem] Sta.size Sta.bsize Pl.size Sta.cut_all Sta.cut_p Sta.cut_bar Sta.cut_bp Sta.bcut_all Sta.bcut_p Pl.cut_all Sta.splice_all Sta.bsplice_all Pl.splice_all Sta.splice_bar
attribute [local go_sem] Sta.get0 Sta.getE0 Sta.set0 Sta.get1 Sta.getE1 Sta.set1 Sta.get2 Sta.getE2 Sta.set2 Sta.get3 Sta.getE3 Sta.set3 Sta.get4 Sta.getE4 Sta.set4 Sta.get5 Sta.getE5 Sta.set5 Sta.get6 Sta.getE6 Sta.set6 Sta.get7 Sta.getE7 Sta.set7 Sta.get8 Sta.getE8 Sta.set8 Sta.get9 Sta.getE9 Sta.set9 Sta.get10 Sta.getE10 Sta.set10 Sta.get11 Sta.getE11 Sta.set11 Sta.get12 Sta.getE12 Sta.set12 Sta.get13 Sta.getE13 Sta.set13 Sta.get14 Sta.getE14 Sta.set14 Sta.get15 Sta.getE15 Sta.set15 Sta.get16 Sta.getE16 Sta.set16 Sta.get17 Sta.getE17 Sta.set17 Sta.get18 Sta.getE18 Sta.set18 Sta.get19 Sta.getE19 Sta.set19 Sta.get20 Sta.getE20 Sta.set20 Sta.get21 Sta.getE21 Sta.set21 Sta.get22 Sta.getE22 Sta.set22 Sta.get23 Sta.getE23 Sta.set23 Sta.get24 Sta.getE24 Sta.set24
attribute [local go_sem] Sta.bget0 Sta.bgetE0 Sta.bget1 Sta.bgetE1 Sta.bget2 Sta.bgetE2 Sta.bget3 Sta.bgetE3 Sta.bget4 Sta.bgetE4 Sta.bget5 Sta.bgetE5 Sta.bget6 Sta.bgetE6 Sta.bget7 Sta.bgetE7 Sta.bget8 Sta.bgetE8 Sta.bget9 Sta.bgetE9 Sta.bget10 Sta.bgetE10 Sta.bget11 Sta.bgetE11 Sta.bget12 Sta.bgetE12 Sta.bget13 Sta.bgetE13 Pl.get0 Pl.getE0 Pl.get1 Pl.getE1 Pl.get2 Pl.getE2 Pl.get3 Pl.getE3 Pl.get4 Pl.getE4

theorem Two.base {g q : Nat} {a w w' : World} (h : Two g q a w) (hb : Below a.heap.size w w') (hq : q ≤ a.heap.size) : Two g q a w' :=
  ⟨Nat.le_trans h.1 hb.size, h.2.1.trans (hb.mono hq), fun k h1 h2 h3 => (hb.block k h3).trans (h.2.2 k h1 h2 h3)⟩
/-- append to a row of the call's own, as an operation. -/
theorem wp_append_rows {P : Program} {w : World} {base k n : Nat} {E : TypeId} {v : Value} {xs : List Value} {T : TypeId} {bytes : Nat} {z : Value} (hT : P.underlying T = some (.slice E)) (hi : (P.info? E).map (fun i => (i.zero, i.size, i.bytes)) = some (some z, k, bytes)) (hzc : z.cells.size = k) (hk : 0 < k)
    {o : Oper} {a : Act} {K : Act → World → Prop} {Q : Exit → Act → World → Prop} (s x : Operand)
    (ho : o.op = .call { callee := .builtin .append, args := #[s, x], argTypes := #[T, T] }) (hs : a.eval s = v) (hown : w.ownsRow base E k v n xs)
    (ad : Addr) (m c : Nat) (ys : List Value) (hx : a.eval x = .slice (some ad) m c) (hl : ys.length = m * k) (hcell : ∀ j u, ys[j]? = some u → w.cell? (ad.add j) = some u)
    (h1 : ∀ u ∈ ys, u.oneCell' = true) (h63 : n + m ≤ 9223372036854775807) (hbytes : (n + m) * bytes ≤ 140737488355328) (hbase : base ≤ w.heap.size)
    (h : ∀ v' w', w'.ownsRow base E k v' (n + m) (xs ++ ys) → Below base w w' → w.grownBy w' v.ownBlock → K (a.put o.dst v') w') : o.wp P a w K Q := by
  obtain ⟨i0, hi0, hz0, hz1, hz2⟩ := info_parts hi
  exact wp_append_own w s x _ ho base E i0 z k bytes hT hi0 hz0 hz1 hz2 hzc hk v _ _ hs hown ad m c ys hx hl hcell h1 (by unfold maxLen; omega) hbytes hbase fun v' w' h2 h3 _ => h v' w' h2 (own_grown hown hbase h3) h3
theorem set_same_at {C : Array Value} {o : Nat} {v : Value} (h : C[o]? = some v) : C.setIfInBounds o v = C := by
  refine Array.ext (by simp) fun i h1 h2 => ?_
  rw [Array.getElem_setIfInBounds]
  split
  · rename_i he
    subst he
    rw [Array.getElem?_eq_getElem h2] at h
    injection h with h
    exact h.symm
  · rfl
/-- What a reading of fields tells. -/
def RFl (w : World) (p sg : Nat) (c : Bool) (l Y r : List UInt8) (e : Int) (L : Nat → Fld) (n : Nat) (C : Array Value) (o : Nat) (x : Ending) (w' : World) : Prop :=
  x = .returned (.tuple #[]) ∧ ∃ (A' : Option Addr) (k c' : Nat) (H : Nat → Option Addr × Nat) (l' : List UInt8) (e' : Int), rowAt w' sg = some (C.setIfInBounds o (.slice A' k c'), 30) ∧ RF w' w.heap.size L k A' c' H ∧ Rd w' p l' e' ∧ FedE c l' Y r e' ∧ (e' = 0 → e = 0 ∧ k = n) ∧ k ≤ n ∧ l'.length ≤ l.length ∧ Two sg p w w'
set_option maxHeartbeats 8000000 in
theorem rfields_ok (rg p sg : Nat) (c : Bool) (l Y r : List UInt8) (e : Int) (L : Nat → Fld) (n : Nat) (C : Array Value) (o : Nat) (w : World) (h : Rd w p l e) (hr : rowAt w rg = some (rdC p, 76)) (hs : rowAt w sg = some (C, 30))
    (hlen : l.length ≤ 70368744170000) (hfl : fldsB n L = true) (hC : C[o]? = some (.slice none 0 0)) (hpr : p < rg) (hrs : rg < sg) (hf : FedE c l (numB n ++ (fldsF 3 L 0 n ++ Y)) r e) :
    Calls Tryz.prog 30 #[.pointer (some ⟨rg, 0, none⟩), .pointer (some ⟨sg, o, none⟩)] w (RFl w p sg c l Y r e L n C o) := by
  obtain ⟨hn4, hrt⟩ := fldsB_right hfl
  have HRT := Lib.hid hrt
  have HR0 := Lib.hid h
  have HRR := Lib.hid hr
  have HS0 := Lib.hid hs
  have HF0 := Lib.hid hf
  have HC0 := Lib.hid hC
  have hoC : o < C.size := (Array.getElem?_eq_some_iff.1 hC).1
  have hpw := h.lt
  have hsw := rowAt_lt hs
  have hrw := rowAt_lt hr
  have c0 : w.cell? ⟨rg, 0, none⟩ = some (.pointer (some ⟨p, 0, none⟩)) := by rw [cell_of_rowAt hr]; rfl
  clear h hr hs hf hC hrt hfl
  rcases HF0.out with ⟨rfl, hf⟩ | ⟨hc, rfl⟩
  rotate_left
  · have HCT := Lib.hid hc
    clear hc
    go_enter Tryz.func30, Tryz.ntmps30
    go_wp2_with (go_at_call 31; refine (why_ok HR0.out HRR.out).mono ?_; rintro e w' ⟨rfl, rfl⟩)
    refine bodyPost_end (v := .tuple #[]) (by simp [results, show Tryz.f30.results = #[] from rfl]) rfl ?_
    exact ⟨rfl, none, 0, 0, fun _ => (none, 0), l, 3, by rw [set_same_at HC0.out]; exact HS0.out, RF.nil _ _ _, HR0.out, .inr ⟨HCT.out, rfl⟩, fun h => (by cases h), Nat.zero_le _, Nat.le_refl _, Two.refl _ _ _⟩
  · have HFF := Lib.hid (show FedE c l (numB n ++ (fldsF 3 L 0 n ++ Y)) r 0 from .inl ⟨rfl, hf⟩)
    clear hf HF0
    go_enter Tryz.func30, Tryz.ntmps30
    go_wp2_with (go_at_call 31; refine (why_ok HR0.out HRR.out).mono ?_; rintro e w' ⟨rfl, rfl⟩)
    refine (count_feed HR0.out (Nat.le_trans hlen (by decide)) (isB_small (by omega) (by omega)) (by omega) (by omega) HFF.out).mono ?_
    rintro x w1 ⟨cv, l1, e1, rfl, hr, hcase, hl1, ho⟩
    have HR1 := Lib.hid hr
    have hs1 := ho.row (show sg ≠ p by omega) HS0.out
    have HS1 := Lib.hid (show rowAt w1 sg = some (C.setIfInBounds o (.slice none 0 0), 30) by rw [set_same_at HC0.out]; exact hs1)
    have HT1 : Hid (Two sg p w w1) := Lib.hid (Two.of_only ho)
    clear hr ho HFF HR0 hs1
    rcases hcase with ⟨rfl, -, rfl, hfd⟩ | ⟨hc, rfl, rfl⟩
    rotate_left
    · have HCT := Lib.hid hc
      clear hc c0
      go_wp2_with fail
      go_loopw [16] (fun i w' => i = .int .i64 0 ∧ w' = w1) (fun _ _ => 0)
      case atStart => exact ⟨rfl, rfl⟩
      case round =>
        obtain ⟨rfl, rfl⟩ := hrel
        go_wp2_with fail
        refine bodyPost_end (v := .tuple #[]) (by simp [results, show Tryz.f30.results = #[] from rfl]) rfl ?_
        exact ⟨rfl, none, 0, 0, fun _ => (none, 0), l1, 3, HS1.out, RF.nil _ _ _, HR1.out, .inr ⟨HCT.out, rfl⟩, fun h => (by cases h), Nat.zero_le _, hl1, HT1.out⟩
    · have HFD1 := Lib.hid hfd
      clear hfd c0
      go_wp2_with fail
      go_loopw [16] (fun i w' => ∃ (k : Nat) (A' : Option Addr) (c' : Nat) (l' : List UInt8) (H : Nat → Option Addr × Nat), k ≤ n ∧ i = .int .i64 k ∧ rowAt w' sg = some (C.setIfInBounds o (.slice A' k c'), 30) ∧ Rd w' p l' 0 ∧ Feed c l' (fldsF 3 L k (n - k) ++ Y) r ∧ l'.length ≤ l.length ∧ RF w' w.heap.size L k A' c' H ∧ Two sg p w w') (fun i _ => n - (intOf i).toNat)
      case atStart => exact ⟨0, none, 0, l1, fun _ => (none, 0), Nat.zero_le _, rfl, HS1.out, HR1.out, HFD1.out, hl1, RF.nil _ _ _, HT1.out⟩
      case round =>
        rename World => wr
        obtain ⟨k, A', c', l2, H, hk, rfl, hs, hr, hfd, hl2, hrf, ht⟩ := hrel
        clear HFD1 HR1 HS1 HT1
        have HR1 := Lib.hid hr
        have HRF := Lib.hid hrf
        have HT1 := Lib.hid ht
        have HS1 := Lib.hid hs
        have HCk : Hid ((C.setIfInBounds o (.slice A' k c'))[o]? = some (.slice A' k c')) := Lib.hid (by rw [Array.getElem?_setIfInBounds_self_of_lt hoC])
        have hrr := ht.row (show rg ≠ sg by omega) (show rg ≠ p by omega) HRR.out
        have c0 : wr.cell? ⟨rg, 0, none⟩ = some (.pointer (some ⟨p, 0, none⟩)) := by rw [cell_of_rowAt hrr]; rfl
        clear hr hrf ht hs hrr
        by_cases hlt : k < n
        · rw [fldsF_left hlt, List.append_assoc, List.append_assoc] at hfd
          have HFD : Hid (FedE c l2 (numB (fldW 3 (L k)).length ++ (fldW 3 (L k) ++ (fldsF 3 L (k + 1) (n - (k + 1)) ++ Y))) r 0) := Lib.hid (.inl ⟨rfl, hfd⟩)
          have HSK := Lib.hid (say3 (HRT.out k hlt))
          have htl := fldW_len (v := 3) (HRT.out k hlt)
          clear hfd
          go_wp2_with fail
          refine (rtext_feed HR1.out (Nat.le_trans hl2 (Nat.le_trans hlen (by decide))) (isB_small (by omega) (by omega)) (by omega) HFD.out).mono ?_
          rintro x w2 ⟨s, l3, e3, rfl, hr, hcase, hl3, ho⟩
          have HR2 := Lib.hid hr
          have hrf := HRF.out.keep (KeepH.only ho (rd_row HR1.out).choose_spec (by decide)) (own_keep HRF.out.own ho hpw)
          have HRF2 := Lib.hid hrf
          have HT2 : Hid (Two sg p w w2) := Lib.hid (HT1.out.trans (Two.of_only ho))
          have HS2 := Lib.hid (ho.row (show sg ≠ p by omega) HS1.out)
          have HRR2 := Lib.hid (HT2.out.row (show rg ≠ sg by omega) (show rg ≠ p by omega) HRR.out)
          clear hr hrf ho HR1 HRF HT1 HFD HS1 c0
          rcases hcase with ⟨rfl, -, rfl, hfd⟩ | ⟨hc, rfl⟩
          rotate_left
          · have HCT := Lib.hid hc
            clear hc
            go_wp2_with (go_at_call 31; refine (why_ok HR2.out HRR2.out).mono ?_; rintro e w' ⟨rfl, rfl⟩)
            refine bodyPost_end (v := .tuple #[]) (by simp [results, show Tryz.f30.results = #[] from rfl]) rfl ?_
            exact ⟨rfl, A', k, c', H, l3, 3, HS2.out, HRF2.out, HR2.out, .inr ⟨HCT.out, rfl⟩, fun h => (by cases h), hk, Nat.le_trans hl3 hl2, HT2.out⟩
          · have HFD := Lib.hid hfd
            obtain ⟨g3, W3, hg, hb3, hi3⟩ := conv_is w2 (fldW 3 (L k))
            have HB3 := Lib.hid hb3
            have HI3 := Lib.hid hi3
            clear hfd hb3 hi3
            go_wp2_with (go_at_call 31; refine (why_ok HR2.out HRR2.out).mono ?_; rintro e w' ⟨rfl, rfl⟩)
            refine (wdecode_ok 3 (L k) _ g3 W3 HSK.out HI3.out (fun h => by cases h)).mono ?_
            rintro x w5 ⟨A9, c9, rfl, hok, hht, -, hb⟩
            have hb5 := bthen HB3.out hb
            obtain ⟨F', hF⟩ : ∃ F', ({ L k with hA := A9, hc := c9 } : Fld) = F' := ⟨_, rfl⟩
            rw [hF] at hok hht
            rw [hF]
            have HFL := Lib.hid hF
            have hb6 : Below w2.heap.size w2 (w5.alloc (.cells F'.cells 58)) := below_allocS hb5 _
            have HRF5 := Lib.hid (HRF2.out.below hb6)
            have HNB : Hid (some w5.heap.size ≠ (Value.slice A' k c').ownBlock) := Lib.hid fun e => by have := (HRF2.out.own.lt _ e.symm).2; have := hb5.size; omega
            have HR5 := Lib.hid (HR2.out.below hb6 HR2.out.lt)
            have HS5 := Lib.hid (rowKeep hb6 HS2.out)
            have HT5 := Lib.hid (HT2.out.base (hb6.mono HT2.out.1) (Nat.le_of_lt hpw))
            have HOK5 := Lib.hid ((KeepH.below ((Below.refl w5.heap.size w5).alloc (Nat.le_refl _) (.cells F'.cells 58))).fld hok hht)
            have HFB : Hid (rowAt (w5.alloc (.cells F'.cells 58)) w5.heap.size = some (F'.cells, 58)) := Lib.hid (rowAt_alloc_at _ _ _ _ rfl)
            clear hok hht hb hb5 hb6 HB3 HI3 HRF2 HR2 HS2 HT2 HRR2 hF hg
            go_upto_region 10 with fail
            obtain ⟨W6, hW6⟩ : ∃ W6, w5.alloc (.cells F'.cells 58) = W6 := ⟨_, rfl⟩
            obtain ⟨fb, hfb⟩ : ∃ fb, w5.heap.size = fb := ⟨_, rfl⟩
            rw [hW6] at HRF5 HR5 HS5 HT5 HOK5 HFB ⊢
            rw [hfb] at HFB HNB ⊢
            clear hW6 hfb
            refine wp_region_late_drew (lt := [7, 8]) (S := fun w' : World => rowAt w' sg = some (C.setIfInBounds o (.slice A' k c'), 30) ∧ rowAt w' fb = some (F'.cells, 58)) (by kernel_rfl) ⟨HS5.out, HFB.out⟩ (fun hS => ?_)
            have HRF6 : Hid (RF W6.drew w.heap.size L k A' c' H) := Lib.hid (HRF5.out.below (Below.refl W6.heap.size W6).drew)
            have HR6 : Hid (Rd W6.drew p l3 0) := Lib.hid (HR5.out.below (Below.refl W6.heap.size W6).drew HR5.out.lt)
            have HS6 : Hid (rowAt W6.drew sg = some (C.setIfInBounds o (.slice A' k c'), 30)) := Lib.hid HS5.out
            have HOK : Hid (FldOk W6.drew F' ∧ HT W6.drew F') := Lib.hid ((KeepH.below (Below.refl W6.heap.size W6).drew).fld HOK5.out.1 HOK5.out.2)
            have HT6 : Hid (Two sg p w W6.drew) := Lib.hid (HT5.out.base ((Below.refl W6.heap.size W6).drew.mono HT5.out.1) (Nat.le_of_lt hpw))
            have hW7 : w.heap.size ≤ W6.drew.heap.size := HT6.out.1
            clear HRF5 HR5 HS5 HOK5 HT5 HFB
            generalize W6.drew = W7 at *
            refine late_take (i := 0) (lt := [7, 8]) (rd := [0, 1, 2, 3, 4]) (by simp only [List.getElem?_toArray, List.getElem?_cons_succ, List.getElem?_cons_zero]; rfl) (by decide +kernel) (by decide +kernel) (by decide +kernel) (by decide +kernel) (by decide +kernel) (by exact fun _ _ _ _ h => h) hS (by rfl) ?_
            apply Exists.intro
            refine ⟨fun w' hSw => ?_, ?_⟩
            · go_simp
              with_reducible rfl
            (try simp only [act_put, act_put_none, List.set_cons_zero, List.set_cons_succ])
            refine late_take (i := 1) (lt := [7, 8]) (rd := [0, 1, 2, 3, 4]) (by simp only [List.getElem?_toArray, List.getElem?_cons_succ, List.getElem?_cons_zero]; rfl) (by decide +kernel) (by decide +kernel) (by decide +kernel) (by decide +kernel) (by decide +kernel) (by exact fun _ _ _ _ h => h) hS (by rfl) ?_
            apply Exists.intro
            refine ⟨fun w' hSw => ?_, ?_⟩
            · go_simp
              with_reducible rfl
            (try simp only [act_put, act_put_none, List.set_cons_zero, List.set_cons_succ])
            refine late_take (i := 2) (lt := [7, 8]) (rd := [0, 1, 2, 3, 4]) (by simp only [List.getElem?_toArray, List.getElem?_cons_succ, List.getElem?_cons_zero]; rfl) (by decide +kernel) (by decide +kernel) (by decide +kernel) (by decide +kernel) (by decide +kernel) (by exact fun _ _ _ _ h => h) hS (by rfl) ?_
            apply Exists.intro
            refine ⟨fun w' hSw => ?_, ?_⟩
            · go_simp
              with_reducible rfl
            (try simp only [act_put, act_put_none, List.set_cons_zero, List.set_cons_succ])
            refine late_take (i := 3) (lt := [7, 8]) (rd := [0, 1, 2, 3, 4]) (by simp only [List.getElem?_toArray, List.getElem?_cons_succ, List.getElem?_cons_zero]; rfl) (by decide +kernel) (by decide +kernel) (by decide +kernel) (by decide +kernel) (by decide +kernel) (by exact fun _ _ _ _ h => h) hS (by rfl) ?_
            apply Exists.intro
            refine ⟨fun w' hSw => ?_, ?_⟩
            · have q1 : w'.cell? ⟨sg, o, none⟩ = some (.slice A' k c') := by rw [cell_of_rowAt hSw.1, HCk.out]
              go_simp
              with_reducible rfl
            (try simp only [act_put, act_put_none, List.set_cons_zero, List.set_cons_succ])
            refine late_take (i := 4) (lt := [7, 8]) (rd := [0, 1, 2, 3, 4]) (by simp only [List.getElem?_toArray, List.getElem?_cons_succ, List.getElem?_cons_zero]; rfl) (by decide +kernel) (by decide +kernel) (by decide +kernel) (by decide +kernel) (by decide +kernel) (by exact fun _ _ _ _ h => h) hS (by rfl) ?_
            apply Exists.intro
            refine ⟨fun w' hSw => ?_, ?_⟩
            · have q1 : rowAt w' fb = some (F'.cells, 58) := hSw.2
              go_simp
              with_reducible rfl
            (try simp only [act_put, act_put_none, List.set_cons_zero, List.set_cons_succ])
            refine wpAnyR_ready (rs := [5]) (by decide +kernel) (by simp) ?_
            refine AllReadyR.cons (i := 5) (by simp only [List.getElem?_toArray, List.getElem?_cons_succ, List.getElem?_cons_zero]; rfl) (fun K hK => ?_) ?_
            · go_simp
              have hb5 : Below W7.heap.size W7 (W7.alloc (.cells F'.cells 58)) := (Below.refl _ _).alloc (Nat.le_refl _) _
              refine hK.out _ _ ⟨rowKeep hb5 hS.1, rowKeep hb5 hS.2⟩ (fun hS2 => ?_)
              clear hS hK K
              have hS := hS2
              clear hS2
              (try simp only [act_put, act_put_none, List.set_cons_zero, List.set_cons_succ])
              refine wpAnyR_ready (rs := [6]) (by decide +kernel) (by simp) ?_
              refine AllReadyR.cons (i := 6) (by simp only [List.getElem?_toArray, List.getElem?_cons_succ, List.getElem?_cons_zero]; rfl) (fun K hK => ?_) ?_
              · refine wp_append_rows Tryz.underlying22 info_field fld0.size (by decide) _ _ rfl rfl (own_alloc HRF6.out.own _) _ 1 1 F'.cells.toList rfl ?c1 ?c2 ?c3 ?c4 ?c5 ?c6 ?_
                case c1 => rw [Array.length_toList, F'.size]
                case c2 => intro j u hu; rw [Addr.add_lit, Nat.zero_add, cell_of_rowAt (rowAt_alloc_at _ _ _ _ rfl), ← hu]; simp
                case c3 => exact fun u hu => (Array.all_eq_true_iff_forall_mem.1 F'.one) u (by simpa using hu)
                case c4 => omega
                case c5 => omega
                case c6 => simp; omega
                intro v' w7 hown hb hgr
                have hkp := KeepH.grown (own_alloc HRF6.out.own (.cells F'.cells 58)) hgr (by decide)
                have hkp5 := (KeepH.below hb5).trans hkp
                obtain ⟨a7, c7, rfl, hrf⟩ := HRF6.out.push HFL.out hown hkp5 (hkp5.fld HOK.out.1 HOK.out.2)
                have hbB : Below w.heap.size W7 w7 := (hb5.mono hW7).trans hb
                have s7 : rowAt w7 sg = some (C.setIfInBounds o (.slice A' k c'), 30) := (rowAt_below hbB sg hsw).trans HS6.out
                have hrd7 := HR6.out.below hbB hpw
                have ht7 := HT6.out.base hbB (Nat.le_of_lt hpw)
                have hRF8 : RF (w7.setCell ⟨sg, o, none⟩ (.slice a7 (k + 1) c7)) w.heap.size L (k + 1) a7 c7 (fun i => if i < k then H i else (A9, c9)) := hrf.only (Only.setCell _) s7 (by decide) (by decide)
                have HW8 : Hid (rowAt (w7.setCell ⟨sg, o, none⟩ (.slice a7 (k + 1) c7)) sg = some (C.setIfInBounds o (.slice a7 (k + 1) c7), 30) ∧ Rd (w7.setCell ⟨sg, o, none⟩ (.slice a7 (k + 1) c7)) p l3 0 ∧ Two sg p w (w7.setCell ⟨sg, o, none⟩ (.slice a7 (k + 1) c7))) :=
                  Lib.hid ⟨row_set_same s7 (by rw [Array.setIfInBounds_setIfInBounds]), hrd7.below (B := sg) (below_setCell' (Below.refl _ _) (Nat.le_refl _)) (by omega), ht7.trans (Two.setG (by omega) _)⟩
                have HRF8 := Lib.hid hRF8
                have z7 : w7.cell? ⟨sg, o, none⟩ = some (.slice A' k c') := by rw [cell_of_rowAt s7, HCk.out]
                have fz7 := frozen_of_rowAt s7
                have f7 := (rowAt_of_heap (hgr.block fb (rowAt_lt hS.2) HNB.out)).trans hS.2
                clear hown hb hgr hkp hkp5 hrf hrd7 ht7 hRF8 HRF6 HOK HFL
                refine hK.out _ _ ⟨s7, f7⟩ (fun hS2 => ?_)
                clear hS hK K hS2 f7
                (try simp only [act_put, act_put_none, List.set_cons_zero, List.set_cons_succ])
                refine wpAnyR_ready (rs := [7]) (by decide +kernel) (by simp) ?_
                refine AllReadyR.last (i := 7) (by simp only [List.getElem?_toArray, List.getElem?_cons_succ, List.getElem?_cons_zero]; rfl) (by decide) (fun K hK => ?_) ?_
                · go_simp
                  refine hK.out _ _ ?_
                  clear hK K
                  (try simp only [act_put, act_put_none, List.set_cons_zero, List.set_cons_succ])
                  refine wpAnyR_ready (rs := [8]) (by decide +kernel) (by simp) ?_
                  refine AllReadyR.last (i := 8) (by simp only [List.getElem?_toArray, List.getElem?_cons_succ, List.getElem?_cons_zero]; rfl) (by decide) (fun K hK => ?_) ?_
                  · go_simp
                    refine hK.out _ _ ?_
                    clear hK K
                    (try simp only [act_put, act_put_none, List.set_cons_zero, List.set_cons_succ])
                    refine wpAnyR_done (by decide +kernel) ?_ _
                    go_wp2_with fail
                    go_roundw
                    case rel => exact ⟨k + 1, a7, c7, l3, _, by omega, by go_num, HW8.out.1, HW8.out.2.1, HFD.out, Nat.le_trans hl3 hl2, HRF8.out, HW8.out.2.2⟩
                    case measure => simp [intOf]; omega
                  exact AllReadyR.nil
                exact AllReadyR.nil
              exact AllReadyR.nil
            exact AllReadyR.nil
        · obtain rfl : k = n := by omega
          rw [Nat.sub_self, show fldsF 3 L k 0 = [] from by cases k <;> rfl, List.nil_append] at hfd
          have HFD := Lib.hid hfd
          clear hfd
          go_wp2_with fail
          refine bodyPost_end (v := .tuple #[]) (by simp [results, show Tryz.f30.results = #[] from rfl]) rfl ?_
          exact ⟨rfl, A', k, c', H, l2, 0, HS1.out, HRF.out, HR1.out, .inl ⟨rfl, HFD.out⟩, fun _ => ⟨rfl, rfl⟩, Nat.le_refl _, hl2, HT1.out⟩
end Go.Proofs.YtinhaipnmmgplaaGreat

/-
  Layer 17 (state): what comes of reading.
-/
namespace Go.Proofs.YtinhaipnmmgplaaGreat
set_option maxRecDepth 20000
open Go.RowKit
set_option linter.unusedSimpArgs false
set_option linter.unusedVariables false
attribute [local go_sem] rowCells rowAt_drewN get_ints getE_ints set_ints size_ints rowAt_alloc rowAt_drew setRow_alloc setRow_drewN setRow_drew setCell_alloc setCell_drewN splice_upd splice_put splice_all load_vec_cut load_vecs_cut load_rights_cut load_counter store_vec store_rights store_counter eql_vec neq_vec index_vec eql_rights neq_rights eql_counter index_vecs cut_ints sub_zero
attribute [local go_sem ↓] xload_vec xstore_vec xalloc_vec xeql_vec xneq_vec xindex_vec xbuild_vec0 xload_rights xstore_rights xalloc_rights xeql_rights xneq_rights xbuild_rights0 xload_vecs xindex_vecs xload_counter xstore_counter xalloc_counter xbuild_counter0 xeql_counter xbuild_counter3
attribute [local go_sem] rowAt_setRow rowAt_setCell load_vec_cut_later load_rights_later load_counter_later Later.cell Later.frozen build3_ints
attribute [local go_sem ↓] xload_field xstore_field xalloc_field xload_lock
attribute [local go_sem] load_field load_field_later store_field load_counter_cut load_lock_cut load_lock_later Fld.size Fld.get0 Fld.get1 Fld.get2 Fld.get586 Fld.getE0 Fld.getE1 Fld.getE2 Fld.getE586 Fld.cut_cnt Fld.cut_lock Fld.cut_all Fld.splice_all strT_size

attribute [local go_sem ↓] xload_hold xstore_hold xalloc_hold
attribute [local go_sem] load_hold load_hold_later store_hold
attribute [local go_sem ↓] xbuild_lock0 xeql_lock xneq_lock xneq_counter
attribute [local go_sem] eql_lock neq_lock neq_counter

attribute [local go_sem] zero_field
attribute [local go_sem] resC_size resC_all resC_splice resC_set0 resC_set1 Fld.set2 Fld.set586
attribute [local go_sem ↓] xbuildS_field
attribute [local go_sem] buildSF_agg
attribute [local go_sem ↓] xstore_sta xload_sta xalloc_sta xbuild_sta0 xstore_bar xload_bar xalloc_bar xbuild_bar0 xstore_plan xload_plan xalloc_plan xbuild_plan0
attribute [local go_sem] load_sta load_sta_later store_sta load_bar load_bar_later store_bar load_plan load_plan_later store_plan
attribute [local go_sem] Sta.size Sta.bsize Pl.size Sta.cut_all Sta.cut_p Sta.cut_bar Sta.cut_bp Sta.bcut_all Sta.bcut_p Pl.cut_all Sta.splice_all Sta.bsplice_all Pl.splice_all Sta.splice_bar
attribute [local go_sem] Sta.get0 Sta.getE0 Sta.set0 Sta.get1 Sta.getE1 Sta.set1 Sta.get2 Sta.getE2 Sta.set2 Sta.get3 Sta.getE3 Sta.set3 Sta.get4 Sta.getE4 Sta.set4 Sta.get5 Sta.getE5 Sta.set5 Sta.get6 Sta.getE6 Sta.set6 Sta.get7 Sta.getE7 Sta.set7 Sta.get8 Sta.getE8 Sta.set8 Sta.get9 Sta.getE9 Sta.set9 Sta.get10 Sta.getE10 Sta.set10 Sta.get11 Sta.getE11 Sta.set11 Sta.get12 Sta.getE12 Sta.set12 Sta.get13 Sta.getE13 Sta.set13 Sta.get14 Sta.getE14 Sta.set14 Sta.get15 Sta.getE15 Sta.set15 Sta.get16 Sta.getE16 Sta.set16 Sta.get17 Sta.getE17 Sta.set17 Sta.get18 Sta.getE18 Sta.set18 Sta.get19 Sta.getE19 Sta.set19 Sta.get20 Sta.getE20 Sta.set20 Sta.get21 Sta.getE21 Sta.set21 Sta.get22 Sta.getE22 Sta.set22 Sta.get23 Sta.getE23 Sta.set23 Sta.get24 Sta.getE24 Sta.set24
attribute [local go_sem] Sta.bget0 Sta.bgetE0 Sta.bget1 Sta.bgetE1 Sta.bget2 Sta.bgetE2 Sta.bget3 Sta.bgetE3 Sta.bget4 Sta.bgetE4 Sta.bget5 Sta.bgetE5 Sta.bget6 Sta.bgetE6 Sta.bget7 Sta.bgetE7 Sta.bget8 Sta.bgetE8 Sta.bget9 Sta.bgetE9 Sta.bget10 Sta.bgetE10 Sta.bget11 Sta.bgetE11 Sta.bget12 Sta.bgetE12 Sta.bget13 Sta.bgetE13 Pl.get0 Pl.getE0 Pl.get1 Pl.getE1 Pl.get2 Pl.getE2 Pl.get3 Pl.getE3 Pl.get4 Pl.getE4

theorem list_five {α : Type} {l : List α} (h : l.length = 5) : ∃ a b c d e, l = [a, b, c, d, e] := by
  match l, h with
  | [a, b, c, d, e], _ => exact ⟨a, b, c, d, e, rfl⟩
theorem list_six {α : Type} {l : List α} (h : l.length = 6) : ∃ a b c d e f, l = [a, b, c, d, e, f] := by
  match l, h with
  | [a, b, c, d, e, f], _ => exact ⟨a, b, c, d, e, f, rfl⟩
theorem lt_six {i : Nat} (h : i < 6) : i = 0 ∨ i = 1 ∨ i = 2 ∨ i = 3 ∨ i = 4 ∨ i = 5 := by omega
theorem setZ_five (s : Sta) (a b c d e : Int) : setZ s.cells [0, 1, 2, 3, 4] [a, b, c, d, e] = ({ s with self := a, nn := b, clk := c, dec := d, frz := e } : Sta).cells := by simp only [setZ, Sta.set0, Sta.set1, Sta.set2, Sta.set3, Sta.set4]
theorem setZ_six (s : Sta) (a b c d e f : Int) : setZ s.cells [12, 13, 14, 20, 21, 22] [a, b, c, d, e, f] = ({ s with bst := a, bnum := b, bep := c, due := d, ack := e, told := f } : Sta).cells := by simp only [setZ, Sta.set12, Sta.set13, Sta.set14, Sta.set20, Sta.set21, Sta.set22]
theorem setPl5 (s : Sta) (q : Pl) : setPl s.cells 5 q = ({ s with p := q } : Sta).cells := by simp only [setPl, setZ, Sta.set5, Sta.set8, Sta.set9, Sta.set6, Sta.set7, Nat.reduceAdd]
theorem setPl15 (s : Sta) (q : Pl) : setPl s.cells 15 q = ({ s with bp := q } : Sta).cells := by simp only [setPl, setZ, Sta.set15, Sta.set18, Sta.set19, Sta.set16, Sta.set17, Nat.reduceAdd]
theorem KeepH.two {g q : Nat} {w w' : World} (ht : Two g q w w') {cg cq : Array Value} {tg tq : TypeId} (hg : rowAt w g = some (cg, tg)) (hq : rowAt w q = some (cq, tq)) (h1 : tg ≠ 87) (h2 : tq ≠ 87) : KeepH w w' := fun k cs hr => ht.2.2 k (fun e => by
  subst e
  rw [hg] at hr
  injection hr with hr
  injection hr with _ hr
  exact h1 hr) (fun e => by
  subst e
  rw [hq] at hr
  injection hr with hr
  injection hr with _ hr
  exact h2 hr) (rowAt_lt hr)
theorem RF.two {g q : Nat} {w w' : World} {B : Nat} {L : Nat → Fld} {n : Nat} {A : Option Addr} {c : Nat} {H : Nat → Option Addr × Nat} (h : RF w B L n A c H) (ht : Two g q w w') {cg cq : Array Value} {tg tq : TypeId} (hg : rowAt w g = some (cg, tg)) (hq : rowAt w q = some (cq, tq)) (h1 : tg ≠ 87) (h2 : tq ≠ 87) (h3 : tg ≠ 58) (h4 : tq ≠ 58) : RF w' B L n A c H := by
  refine h.keep (KeepH.two ht hg hq h1 h2) (own_two h.own ht fun a n' c' e => ?_)
  injection e with e _ _
  obtain ⟨cs, hr⟩ := own_row h.own e
  refine ⟨fun e => ?_, fun e => ?_⟩
  · rw [e, hg] at hr
    injection hr with hr
    injection hr with _ hr
    exact h3 hr
  · rw [e, hq] at hr
    injection hr with hr
    injection hr with _ hr
    exact h4 hr
theorem maybe_isB {p : Pl} {is : Bool} (h : maybeB p is = true) : isB p.k = true ∧ isB p.a = true ∧ isB p.b = true := by
  unfold maybeB at h
  split at h
  · simp only [planB, Bool.and_eq_true, decide_eq_true_eq] at h
    refine ⟨isB_small (by omega) (by omega), ?_, ?_⟩ <;> simp_all
  · rw [zeroPl_is h]
    exact ⟨by decide, by decide, by decide⟩
theorem cnt_isB {n : Int} (h : cntB n = true) : isB n = true := by
  simp only [cntB, Bool.and_eq_true] at h
  exact h.2
theorem rightS_nums {s : Sta} (h : rightS s = true) : ∀ x ∈ [s.self, s.nn, s.clk, s.dec, s.frz], isB x = true := by
  simp only [rightS, Bool.and_eq_true, Bool.not_eq_true', decide_eq_false_iff_not] at h
  intro x hx
  simp only [List.mem_cons, List.not_mem_nil, or_false] at hx
  rcases hx with rfl | rfl | rfl | rfl | rfl
  · exact isB_small (by omega) (by omega)
  · exact isB_small (by omega) (by omega)
  · exact cnt_isB h.1.1.1.2.1.1
  · exact cnt_isB h.1.1.1.2.1.2
  · exact cnt_isB h.1.1.1.2.2
theorem led_nums {s : Sta} {n : Int} (h : ledB s n = true) : (∀ x ∈ [s.bst, s.bnum, s.bep, s.due, s.ack, s.told], isB x = true) ∧ s.bn = n := by
  simp only [ledB, Bool.and_eq_true, decide_eq_true_eq, beq_iff_eq] at h
  obtain ⟨⟨⟨⟨⟨⟨h1, h2⟩, h3⟩, h4⟩, h5⟩, h6⟩, h7⟩ := h
  refine ⟨fun x hx => ?_, h1⟩
  simp only [List.mem_cons, List.not_mem_nil, or_false] at hx
  rcases hx with rfl | rfl | rfl | rfl | rfl | rfl
  · exact isB_small (by omega) (by omega)
  · exact cnt_isB h4.1.1.1.1
  · exact cnt_isB h4.1.1.1.2
  · exact cnt_isB h4.1.1.2
  · exact cnt_isB h4.1.2
  · exact cnt_isB h4.2
/-- A state that was read: its fields lie elsewhere. -/
def reS (s : Sta) (A1 : Option Addr) (c1 : Nat) (H1 : Nat → Option Addr × Nat) (A2 : Option Addr) (c2 : Nat) (H2 : Nat → Option Addr × Nat) (A3 : Option Addr) (c3 : Nat) (H3 : Nat → Option Addr × Nat) : Sta := { s with f := ⟨A1, s.f.n, c1, reF s.f.l H1⟩, j := ⟨A2, s.j.n, c2, reF s.j.l H2⟩, m := ⟨A3, s.m.n, c3, reF s.m.l H3⟩ }
theorem fldsB_re (n : Nat) (L : Nat → Fld) (H : Nat → Option Addr × Nat) : fldsB n (reF L H) = fldsB n L := by
  have : fldAt (reF L H) = fldAt L := by funext i; cases i <;> rfl
  unfold fldsB
  rw [this]
theorem reS_right (s : Sta) (A1 : Option Addr) (c1 : Nat) (H1 : Nat → Option Addr × Nat) (A2 : Option Addr) (c2 : Nat) (H2 : Nat → Option Addr × Nat) (A3 : Option Addr) (c3 : Nat) (H3 : Nat → Option Addr × Nat) : rightS (reS s A1 c1 H1 A2 c2 H2 A3 c3 H3) = rightS s := by
  unfold rightS ledB noBar reS
  simp only [fldsB_re]
def DecOf (w : World) (B : Nat) (s t : Sta) : Prop := ∃ A1 c1 H1 A2 c2 H2 A3 c3 H3, t = reS s A1 c1 H1 A2 c2 H2 A3 c3 H3 ∧ RF w B s.f.l s.f.n A1 c1 H1 ∧ RF w B s.j.l s.j.n A2 c2 H2 ∧ RF w B s.m.l s.m.n A3 c3 H3
theorem rf_ok {w : World} {B n c : Nat} {L : Nat → Fld} {A : Option Addr} {H : Nat → Option Addr × Nat} (h : RF w B L n A c H) : FSOk w ⟨A, n, c, reF L H⟩ := by
  have := h.is
  exact ⟨this.1, this.2.1, this.2.2.1, this.2.2.2.1⟩
theorem DecOf.ok {w : World} {B : Nat} {s t : Sta} (h : DecOf w B s t) (hb : s.p.n.length ≤ 9223372036854775807 ∧ s.p.o.length ≤ 9223372036854775807 ∧ s.bp.n.length ≤ 9223372036854775807 ∧ s.bp.o.length ≤ 9223372036854775807) : StaOk w t := by
  obtain ⟨A1, c1, H1, A2, c2, H2, A3, c3, H3, rfl, h1, h2, h3⟩ := h
  exact ⟨rf_ok h1, rf_ok h2, rf_ok h3, hb⟩
theorem DecOf.below {w w' : World} {B : Nat} {s t : Sta} (h : DecOf w B s t) (hb : Below w.heap.size w w') : DecOf w' B s t := by
  obtain ⟨A1, c1, H1, A2, c2, H2, A3, c3, H3, h0, h1, h2, h3⟩ := h
  exact ⟨A1, c1, H1, A2, c2, H2, A3, c3, H3, h0, h1.below hb, h2.below hb, h3.below hb⟩
theorem DecOf.only {w w' : World} {B p : Nat} {s t : Sta} {cs : Array Value} {tt : TypeId} (h : DecOf w B s t) (ho : Only p w w') (hp : rowAt w p = some (cs, tt)) (t1 : tt ≠ 87) (t2 : tt ≠ 58) : DecOf w' B s t := by
  obtain ⟨A1, c1, H1, A2, c2, H2, A3, c3, H3, h0, h1, h2, h3⟩ := h
  exact ⟨A1, c1, H1, A2, c2, H2, A3, c3, H3, h0, h1.only ho hp t1 t2, h2.only ho hp t1 t2, h3.only ho hp t1 t2⟩
/-- What a reading of a state tells. -/
def SDec (w : World) (c : Bool) (r : List UInt8) (s : Sta) (x : Ending) (w' : World) : Prop :=
  Below w.heap.size w w' ∧ (c = true → x = .returned (.tuple #[.agg sta0.cells, .int .i64 3])) ∧ (c = false → r ≠ [] → x = .returned (.tuple #[.agg sta0.cells, .int .i64 5])) ∧
    (c = false → r = [] → ∃ t, x = .returned (.tuple #[.agg t.cells, .int .i64 0]) ∧ DecOf w' w.heap.size s t)
end Go.Proofs.YtinhaipnmmgplaaGreat

/-
  Layer 17 (state): Decode.
-/
namespace Go.Proofs.YtinhaipnmmgplaaGreat
set_option maxRecDepth 20000
open Go.RowKit
set_option linter.unusedSimpArgs false
set_option linter.unusedVariables false
attribute [local go_sem] rowCells rowAt_drewN get_ints getE_ints set_ints size_ints rowAt_alloc rowAt_drew setRow_alloc setRow_drewN setRow_drew setCell_alloc setCell_drewN splice_upd splice_put splice_all load_vec_cut load_vecs_cut load_rights_cut load_counter store_vec store_rights store_counter eql_vec neq_vec index_vec eql_rights neq_rights eql_counter index_vecs cut_ints sub_zero
attribute [local go_sem ↓] xload_vec xstore_vec xalloc_vec xeql_vec xneq_vec xindex_vec xbuild_vec0 xload_rights xstore_rights xalloc_rights xeql_rights xneq_rights xbuild_rights0 xload_vecs xindex_vecs xload_counter xstore_counter xalloc_counter xbuild_counter0 xeql_counter xbuild_counter3
attribute [local go_sem] rowAt_setRow rowAt_setCell load_vec_cut_later load_rights_later load_counter_later Later.cell Later.frozen build3_ints
attribute [local go_sem ↓] xload_field xstore_field xalloc_field xload_lock
attribute [local go_sem] load_field load_field_later store_field load_counter_cut load_lock_cut load_lock_later Fld.size Fld.get0 Fld.get1 Fld.get2 Fld.get586 Fld.getE0 Fld.getE1 Fld.getE2 Fld.getE586 Fld.cut_cnt Fld.cut_lock Fld.cut_all Fld.splice_all strT_size

attribute [local go_sem ↓] xload_hold xstore_hold xalloc_hold
attribute [local go_sem] load_hold load_hold_later store_hold
attribute [local go_sem ↓] xbuild_lock0 xeql_lock xneq_lock xneq_counter
attribute [local go_sem] eql_lock neq_lock neq_counter

attribute [local go_sem] zero_field
attribute [local go_sem] resC_size resC_all resC_splice resC_set0 resC_set1 Fld.set2 Fld.set586
attribute [local go_sem ↓] xbuildS_field
attribute [local go_sem] buildSF_agg
attribute [local go_sem ↓] xstore_sta xload_sta xalloc_sta xbuild_sta0 xstore_bar xload_bar xalloc_bar xbuild_bar0 xstore_plan xload_plan xalloc_plan xbuild_plan0
attribute [local go_sem] load_sta load_sta_later store_sta load_bar load_bar_later store_bar load_plan load_plan_later store_plan
attribute [local go_sem] Sta.size Sta.bsize Pl.size Sta.cut_all Sta.cut_p Sta.cut_bar Sta.cut_bp Sta.bcut_all Sta.bcut_p Pl.cut_all Sta.splice_all Sta.bsplice_all Pl.splice_all Sta.splice_bar
attribute [local go_sem] Sta.get0 Sta.getE0 Sta.set0 Sta.get1 Sta.getE1 Sta.set1 Sta.get2 Sta.getE2 Sta.set2 Sta.get3 Sta.getE3 Sta.set3 Sta.get4 Sta.getE4 Sta.set4 Sta.get5 Sta.getE5 Sta.set5 Sta.get6 Sta.getE6 Sta.set6 Sta.get7 Sta.getE7 Sta.set7 Sta.get8 Sta.getE8 Sta.set8 Sta.get9 Sta.getE9 Sta.set9 Sta.get10 Sta.getE10 Sta.set10 Sta.get11 Sta.getE11 Sta.set11 Sta.get12 Sta.getE12 Sta.set12 Sta.get13 Sta.getE13 Sta.set13 Sta.get14 Sta.getE14 Sta.set14 Sta.get15 Sta.getE15 Sta.set15 Sta.get16 Sta.getE16 Sta.set16 Sta.get17 Sta.getE17 Sta.set17 Sta.get18 Sta.getE18 Sta.set18 Sta.get19 Sta.getE19 Sta.set19 Sta.get20 Sta.getE20 Sta.set20 Sta.get21 Sta.getE21 Sta.set21 Sta.get22 Sta.getE22 Sta.set22 Sta.get23 Sta.getE23 Sta.set23 Sta.get24 Sta.getE24 Sta.set24
attribute [local go_sem] Sta.bget0 Sta.bgetE0 Sta.bget1 Sta.bgetE1 Sta.bget2 Sta.bgetE2 Sta.bget3 Sta.bgetE3 Sta.bget4 Sta.bgetE4 Sta.bget5 Sta.bgetE5 Sta.bget6 Sta.bgetE6 Sta.bget7 Sta.bgetE7 Sta.bget8 Sta.bgetE8 Sta.bget9 Sta.bgetE9 Sta.bget10 Sta.bgetE10 Sta.bget11 Sta.bgetE11 Sta.bget12 Sta.bgetE12 Sta.bget13 Sta.bgetE13 Pl.get0 Pl.getE0 Pl.get1 Pl.getE1 Pl.get2 Pl.getE2 Pl.get3 Pl.getE3 Pl.get4 Pl.getE4

set_option maxHeartbeats 16000000 in
theorem sdecode_ok (s : Sta) (A : Option Addr) (ca : Nat) (l0 r : List UInt8) (c : Bool) (w : World) (hr : rightS s = true) (hj : s.j.n ≤ 1000000 ∧ s.m.n ≤ 1000000) (hbg : s.p.n.length ≤ 9223372036854775807 ∧ s.p.o.length ≤ 9223372036854775807 ∧ s.bp.n.length ≤ 9223372036854775807 ∧ s.bp.o.length ≤ 9223372036854775807) (hI : IsBy w A l0) (hN : A = none → ca = 0) (hlen : l0.length ≤ 70368744170000) (hf : Feed c l0 (staW s) r) :
    Calls Tryz.prog 12 #[.slice A l0.length ca] w (SDec w c r s) := by
  obtain ⟨hp1, hp2, hp3, hp4⟩ := rightS_parts hr
  have HRM := Lib.hid hr
  have HJM := Lib.hid hj
  have HBG := Lib.hid hbg
  have HNU := Lib.hid (rightS_nums hr)
  have HPB := Lib.hid (maybe_isB hp1)
  have HPN := Lib.hid (maybe_names hp1)
  have HF2 := Lib.hid hp2
  have HL3 := Lib.hid hp3
  have HL4 := Lib.hid hp4
  have HI := Lib.hid (fun o => hI.alloc o)
  have HF := Lib.hid hf
  clear hr hj hbg hI hf hp1 hp2 hp3 hp4
  go_enter Tryz.func12, Tryz.ntmps12
  go_wp2_with fail
  refine (new_len (HI.out _) hN (Nat.le_trans hlen (by decide)) rfl).mono ?_
  rintro x w1 ⟨p, rfl, hr, hp, hb⟩
  have r0 : rowAt w1 w.heap.size = some (sta0.cells, 30) := rowKeep hb (rowAt_alloc_at _ _ _ _ rfl)
  have hpw : w.heap.size < p := by simp at hp; omega
  have hb1 := bthen (below_allocS (Below.refl _ _) _) hb
  go_upto_region 3 with fail
  obtain ⟨rg, hrg⟩ : ∃ rg, w1.heap.size = rg := ⟨_, rfl⟩
  obtain ⟨sg, hsg⟩ : ∃ sg, rg + 1 = sg := ⟨_, rfl⟩
  have hpr : p < rg := by have := hr.lt; omega
  have hrs : rg < sg := by omega
  have hbb : Below w1.heap.size w1 ((w1.alloc (.cells (rdC p) 76)).alloc (.cells sta0.cells 30)) := below_allocS ((Below.refl _ _).alloc (Nat.le_refl _) _) _
  have hg3 : rowAt ((w1.alloc (.cells (rdC p) 76)).alloc (.cells sta0.cells 30)) rg = some (rdC p, 76) := by rw [← hrg]; exact rowPast (rowAt_alloc_at _ _ _ _ rfl)
  have hs3 : rowAt ((w1.alloc (.cells (rdC p) 76)).alloc (.cells sta0.cells 30)) sg = some (sta0.cells, 30) := by rw [← hsg, ← hrg]; exact rowAt_alloc_at _ _ _ _ (by simp)
  have hr3 := hr.below hbb hr.lt
  have ho3 := rowKeep hbb r0
  have HB3' := Lib.hid (hb1.trans (hbb.mono hb1.size))
  unfold rdC at *
  obtain ⟨W3, hW3⟩ : ∃ W3, (w1.alloc (.cells #[.pointer (some ⟨p, 0, none⟩), .int .i64 0] 76)).alloc (.cells sta0.cells 30) = W3 := ⟨_, rfl⟩
  rw [hW3] at hg3 hs3 hr3 ho3 HB3' ⊢
  rw [hrg, hsg]
  have HR3 := Lib.hid hr3
  have HG3 : Hid (rowAt W3 rg = some (rdC p, 76)) := Lib.hid hg3
  have HS3 := Lib.hid hs3
  have HO3 := Lib.hid ho3
  have hsw3 := rowAt_lt hs3
  have hal : ∀ o, Below W3.heap.size W3 (W3.alloc o) := fun o => (Below.refl _ _).alloc (Nat.le_refl _) _
  have HFS : Hid (FedE c l0 (catB [s.self, s.nn, s.clk, s.dec, s.frz] ++ (planW s.p ++ (fieldsW s.f ++ (if s.self = 0 then barW s else [])))) r 0) := Lib.hid (.inl ⟨rfl, by have := HF.out; simpa only [staW, List.append_assoc] using this⟩)
  clear hg3 hs3 hr3 ho3 hW3 hbb hr hb hb1 r0 HF HI hp hrg hsg
  go_wp2_with fail
  refine (rnums_ok rg p sg W3.heap.size 5 c l0 (planW s.p ++ (fieldsW s.f ++ (if s.self = 0 then barW s else []))) r 0 [s.self, s.nn, s.clk, s.dec, s.frz] sta0.cells [0, 1, 2, 3, 4] _ (HR3.out.below (hal _) HR3.out.lt) (rowKeep (hal _) HG3.out) (rowKeep (hal _) HS3.out) ?_ rfl hlen rfl HNU.out ?_ hpr hrs (by omega) (by omega) (by simp) HFS.out).mono ?_
  · intro k hk
    rw [cell_of_rowAt (rowAt_alloc_at _ _ _ _ rfl)]
    rcases lt_five hk with rfl | rfl | rfl | rfl | rfl <;> rfl
  · intro i hi; rw [Sta.size]; simp at hi; omega
  rintro x w4 ⟨rfl, vs, l4, e4, hvs, hs4, hr4, hf4, hv4, hl4, ht4⟩
  obtain ⟨v0, v1, v2, v3, v4, rfl⟩ := list_five hvs
  rw [setZ_five] at hs4
  have hT4 : Two sg p W3 w4 := (Two.of_below (hal _) (by omega)).trans ht4
  have HG4 := Lib.hid (hT4.row (show rg ≠ sg by omega) (show rg ≠ p by omega) HG3.out)
  have HO4 := Lib.hid (hT4.row (show w.heap.size ≠ sg by omega) (show w.heap.size ≠ p by omega) HO3.out)
  have HB4' : Hid (Below w.heap.size w w4) := Lib.hid (HB3'.out.trans (hT4.2.1.mono (by omega)))
  have HS4 := Lib.hid hs4
  have HR4 := Lib.hid hr4
  have HF4 := Lib.hid hf4
  have HV4 := Lib.hid hv4
  have hsw4 := rowAt_lt hs4
  clear hs4 hr4 hf4 hv4 ht4 hT4 hal HG3 HS3 HR3 HO3 HB3' HFS
  go_wp2_with fail
  refine (rplan_ok rg p sg c l4 (fieldsW s.f ++ (if s.self = 0 then barW s else [])) r e4 s.p _ 5 w4 HR4.out HG4.out HS4.out (Nat.le_trans hl4 hlen) HPB.out HPN.out (by rw [Sta.size]; decide) hpr hrs HF4.out).mono ?_
  rintro x w5 ⟨rfl, q5, l5', e5', hs5, hr5, hf5, hv5, hl5', hT5⟩
  rw [setPl5] at hs5
  have HG5 := Lib.hid (hT5.row (show rg ≠ sg by omega) (show rg ≠ p by omega) HG4.out)
  have HO5 := Lib.hid (hT5.row (show w.heap.size ≠ sg by omega) (show w.heap.size ≠ p by omega) HO4.out)
  have HB5' : Hid (Below w.heap.size w w5) := Lib.hid (HB4'.out.trans (hT5.2.1.mono (by omega)))
  have HS5 := Lib.hid hs5
  have HR5 := Lib.hid hr5
  have HF5 := Lib.hid (show FedE c l5' (numB s.f.n ++ (fldsF 3 s.f.l 0 s.f.n ++ (if s.self = 0 then barW s else []))) r e5' by simpa only [fieldsW, fldsW_F, List.append_assoc] using hf5)
  have HVP := Lib.hid hv5
  have hsw5 := rowAt_lt hs5
  clear hs5 hr5 hf5 hv5 hT5 HG4 HS4 HR4 HO4 HB4' HF4
  go_wp2_with fail
  refine (rfields_ok rg p sg c l5' (if s.self = 0 then barW s else []) r e5' s.f.l s.f.n _ 10 w5 HR5.out HG5.out HS5.out (Nat.le_trans hl5' (Nat.le_trans hl4 hlen)) HF2.out (by rw [Sta.get10]; rfl) hpr hrs HF5.out).mono ?_
  rintro x w6 ⟨rfl, A1, k1, c1, H1, l5, e5, hs6, hrf1, hr6, hf6, hv6, hk1, hl56, hT6⟩
  rw [Sta.set10 _ A1 k1 c1 (reF s.f.l H1)] at hs6
  obtain ⟨T5, hT5⟩ : ∃ T5 : Sta, T5 = { { { sta0 with self := v0, nn := v1, clk := v2, dec := v3, frz := v4 } with p := q5 } with f := ⟨A1, k1, c1, reF s.f.l H1⟩ } := ⟨_, rfl⟩
  have hs6' : rowAt w6 sg = some (T5.cells, 30) := by rw [hT5]; exact hs6
  have HG6' := Lib.hid (hT6.row (show rg ≠ sg by omega) (show rg ≠ p by omega) HG5.out)
  have HO6' := Lib.hid (hT6.row (show w.heap.size ≠ sg by omega) (show w.heap.size ≠ p by omega) HO5.out)
  have HRF6' := Lib.hid (hrf1.mono HB5'.out.size)
  have HB6' : Hid (Below w.heap.size w w6) := Lib.hid (HB5'.out.trans (hT6.2.1.mono (by omega)))
  have HS6' := Lib.hid hs6'
  have HR6' := Lib.hid hr6
  have HF6' := Lib.hid hf6
  have hl5 : l5.length ≤ 70368744170000 := Nat.le_trans hl56 (Nat.le_trans hl5' (Nat.le_trans hl4 hlen))
  have HV5 : Hid (e5 = 0 → k1 = s.f.n ∧ T5 = { sta0 with self := s.self, nn := s.nn, clk := s.clk, dec := s.dec, frz := s.frz, p := s.p, f := ⟨A1, s.f.n, c1, reF s.f.l H1⟩ }) := Lib.hid fun he => by
    obtain ⟨g1, g2⟩ := hv6 he
    obtain ⟨g3, g4⟩ := HVP.out g1
    obtain ⟨_, g6⟩ := HV4.out g3
    injection g6 with i0 g6
    injection g6 with i1 g6
    injection g6 with i2 g6
    injection g6 with i3 g6
    injection g6 with i4 _
    subst g2 g4 i0 i1 i2 i3 i4
    exact ⟨rfl, hT5⟩
  have HT5J : Hid (T5.bn = 0 ∧ T5.bst = 0 ∧ T5.bnum = 0 ∧ T5.bep = 0 ∧ T5.bp = pl0 ∧ T5.due = 0 ∧ T5.ack = 0 ∧ T5.told = 0 ∧ T5.j = fs0 ∧ T5.m = fs0) := Lib.hid (by rw [hT5]; exact ⟨rfl, rfl, rfl, rfl, rfl, rfl, rfl, rfl, rfl, rfl⟩)
  have hz6 := fun i => cell_of_rowAt hs6' i
  have hf6z := frozen_of_rowAt hs6'
  have hsw6 := rowAt_lt hs6'
  clear hs6 hs6' hr6 hf6 hv6 hT6 HG5 HS5 HR5 HO5 HB5' HF5 HVP HV4 hrf1 hT5 HNU HPB HPN HF2
  by_cases hv0 : T5.self = 0
  · have g0 : (T5.self == 0) = true := by simp [hv0]
    obtain ⟨sb, hsb⟩ : ∃ sb : Sta, (∀ x ∈ [sb.bst, sb.bnum, sb.bep, sb.due, sb.ack, sb.told], isB x = true) ∧ (isB sb.bp.k = true ∧ isB sb.bp.a = true ∧ isB sb.bp.b = true) ∧ (sb.bp.n.length ≤ 8 ∧ sb.bp.o.length ≤ 8) ∧ fldsB sb.j.n sb.j.l = true ∧ fldsB sb.m.n sb.m.l = true ∧ FedE c l5 (barW sb) r e5 ∧ (e5 = 0 → sb = s ∧ s.self = 0) := by
      rcases HF6'.out with ⟨he, hfd⟩ | ⟨hc, he⟩
      · have h0 : s.self = 0 := by have := (HV5.out he).2; rw [this] at hv0; exact hv0
        rw [if_pos h0] at hfd
        have hl := HL3.out h0
        obtain ⟨q1, q2, q3⟩ := led_parts hl
        exact ⟨s, (led_nums hl).1, maybe_isB q1, maybe_names q1, q2, q3, .inl ⟨he, hfd⟩, fun _ => ⟨rfl, h0⟩⟩
      · exact ⟨sta0, by intro x hx; simp [sta0] at hx; subst hx; decide, ⟨by decide, by decide, by decide⟩, ⟨by decide, by decide⟩, rfl, rfl, .inr ⟨hc, he⟩, fun h => by omega⟩
    obtain ⟨hb1, hb2, hb3, hb4, hb5, hfb, hsbe⟩ := hsb
    have HB1 := Lib.hid hb1
    have HB2 := Lib.hid hb2
    have HB3 := Lib.hid hb3
    have HB4 := Lib.hid hb4
    have HB5 := Lib.hid hb5
    have HF6 := Lib.hid (show FedE c l5 (catB [sb.bst, sb.bnum, sb.bep, sb.due, sb.ack, sb.told] ++ (planW sb.bp ++ fieldsW sb.j ++ fieldsW sb.m)) r e5 by simpa only [barW, List.append_assoc] using hfb)
    have HSB := Lib.hid hsbe
    clear hb1 hb2 hb3 hb4 hb5 hfb hsbe HF6' hv0 HL4
    go_upto_region 9 with fail
    obtain ⟨T6, hT6⟩ : ∃ T6 : Sta, T6 = { T5 with bn := T5.nn } := ⟨_, rfl⟩
    have hon := Only.setCell (p := sg) (i := 11) (w := w6) (.int .i64 T5.nn)
    have hs6 : rowAt (w6.setCell ⟨sg, 11, none⟩ (.int .i64 T5.nn)) sg = some (T6.cells, 30) := by rw [hT6]; exact row_set_same HS6'.out (Sta.set11 _ _)
    have HT6 := Lib.hid hT6
    have HJ6 : Hid (T6.j = fs0 ∧ T6.m = fs0) := Lib.hid (by rw [hT6]; exact ⟨HT5J.out.2.2.2.2.2.2.2.2.1, HT5J.out.2.2.2.2.2.2.2.2.2⟩)
    have HS6 := Lib.hid hs6
    have HG6 := Lib.hid (hon.row (show rg ≠ sg by omega) HG6'.out)
    have HO6 := Lib.hid (hon.row (show w.heap.size ≠ sg by omega) HO6'.out)
    have HRF6 := Lib.hid (HRF6'.out.only hon HS6'.out (by decide) (by decide))
    have HR6 : Hid (Rd (w6.setCell ⟨sg, 11, none⟩ (.int .i64 T5.nn)) p l5 e5) := Lib.hid (HR6'.out.below (B := sg) hon.2.1 (by omega))
    have HB6 : Hid (Below w.heap.size w (w6.setCell ⟨sg, 11, none⟩ (.int .i64 T5.nn))) := Lib.hid (HB6'.out.trans (hon.2.1.mono (by omega)))
    clear hT6 hs6 hon HT5J HS6' HG6' HO6' HRF6' HR6' HB6' hz6 hf6z hsw6
    generalize w6.setCell ⟨sg, 11, none⟩ (.int .i64 T5.nn) = W6 at *
    refine wp_region_late_drew (lt := []) (S := fun w' : World => True) (by kernel_rfl) trivial (fun hS => ?_)
    have hbd : Below W6.heap.size W6 W6.drew := (Below.refl _ _).drew
    have HR7 := Lib.hid (HR6.out.below hbd HR6.out.lt)
    have HG7 := Lib.hid (rowKeep hbd HG6.out)
    have HS7 := Lib.hid (rowKeep hbd HS6.out)
    have HO7 := Lib.hid (rowKeep hbd HO6.out)
    have HRF7 := Lib.hid (HRF6.out.below hbd)
    have HB7 := Lib.hid (HB6.out.trans (hbd.mono HB6.out.size))
    have hsw7 := rowAt_lt HS7.out
    clear hbd HR6 HG6 HS6 HO6 HRF6 HB6
    generalize W6.drew = W7 at *
    have hal : ∀ o, Below W7.heap.size W7 (W7.alloc o) := fun o => (Below.refl _ _).alloc (Nat.le_refl _) _
    refine late_take (i := 0) (lt := []) (rd := [0, 1, 2, 3, 4, 5, 6, 7, 8, 9, 10, 11, 12, 13, 14, 15, 16, 17, 18]) (by simp only [List.getElem?_toArray, List.getElem?_cons_succ, List.getElem?_cons_zero]; rfl) (by decide +kernel) (by decide +kernel) (by decide +kernel) (by decide +kernel) (by decide +kernel) (by exact fun _ _ _ _ h => h) hS (by rfl) ?_
    apply Exists.intro
    refine ⟨fun w' hSw => ?_, ?_⟩
    · go_simp
      with_reducible rfl
    (try simp only [act_put, act_put_none, List.set_cons_zero, List.set_cons_succ])
    refine late_take (i := 1) (lt := []) (rd := [0, 1, 2, 3, 4, 5, 6, 7, 8, 9, 10, 11, 12, 13, 14, 15, 16, 17, 18]) (by simp only [List.getElem?_toArray, List.getElem?_cons_succ, List.getElem?_cons_zero]; rfl) (by decide +kernel) (by decide +kernel) (by decide +kernel) (by decide +kernel) (by decide +kernel) (by exact fun _ _ _ _ h => h) hS (by rfl) ?_
    apply Exists.intro
    refine ⟨fun w' hSw => ?_, ?_⟩
    · go_simp
      with_reducible rfl
    (try simp only [act_put, act_put_none, List.set_cons_zero, List.set_cons_succ])
    refine late_take (i := 2) (lt := []) (rd := [0, 1, 2, 3, 4, 5, 6, 7, 8, 9, 10, 11, 12, 13, 14, 15, 16, 17, 18]) (by simp only [List.getElem?_toArray, List.getElem?_cons_succ, List.getElem?_cons_zero]; rfl) (by decide +kernel) (by decide +kernel) (by decide +kernel) (by decide +kernel) (by decide +kernel) (by exact fun _ _ _ _ h => h) hS (by rfl) ?_
    apply Exists.intro
    refine ⟨fun w' hSw => ?_, ?_⟩
    · go_simp
      with_reducible rfl
    (try simp only [act_put, act_put_none, List.set_cons_zero, List.set_cons_succ])
    refine late_take (i := 3) (lt := []) (rd := [0, 1, 2, 3, 4, 5, 6, 7, 8, 9, 10, 11, 12, 13, 14, 15, 16, 17, 18]) (by simp only [List.getElem?_toArray, List.getElem?_cons_succ, List.getElem?_cons_zero]; rfl) (by decide +kernel) (by decide +kernel) (by decide +kernel) (by decide +kernel) (by decide +kernel) (by exact fun _ _ _ _ h => h) hS (by rfl) ?_
    apply Exists.intro
    refine ⟨fun w' hSw => ?_, ?_⟩
    · go_simp
      with_reducible rfl
    (try simp only [act_put, act_put_none, List.set_cons_zero, List.set_cons_succ])
    refine late_take (i := 4) (lt := []) (rd := [0, 1, 2, 3, 4, 5, 6, 7, 8, 9, 10, 11, 12, 13, 14, 15, 16, 17, 18]) (by simp only [List.getElem?_toArray, List.getElem?_cons_succ, List.getElem?_cons_zero]; rfl) (by decide +kernel) (by decide +kernel) (by decide +kernel) (by decide +kernel) (by decide +kernel) (by exact fun _ _ _ _ h => h) hS (by rfl) ?_
    apply Exists.intro
    refine ⟨fun w' hSw => ?_, ?_⟩
    · go_simp
      with_reducible rfl
    (try simp only [act_put, act_put_none, List.set_cons_zero, List.set_cons_succ])
    refine late_take (i := 5) (lt := []) (rd := [0, 1, 2, 3, 4, 5, 6, 7, 8, 9, 10, 11, 12, 13, 14, 15, 16, 17, 18]) (by simp only [List.getElem?_toArray, List.getElem?_cons_succ, List.getElem?_cons_zero]; rfl) (by decide +kernel) (by decide +kernel) (by decide +kernel) (by decide +kernel) (by decide +kernel) (by exact fun _ _ _ _ h => h) hS (by rfl) ?_
    apply Exists.intro
    refine ⟨fun w' hSw => ?_, ?_⟩
    · go_simp
      with_reducible rfl
    (try simp only [act_put, act_put_none, List.set_cons_zero, List.set_cons_succ])
    refine late_take (i := 6) (lt := []) (rd := [0, 1, 2, 3, 4, 5, 6, 7, 8, 9, 10, 11, 12, 13, 14, 15, 16, 17, 18]) (by simp only [List.getElem?_toArray, List.getElem?_cons_succ, List.getElem?_cons_zero]; rfl) (by decide +kernel) (by decide +kernel) (by decide +kernel) (by decide +kernel) (by decide +kernel) (by exact fun _ _ _ _ h => h) hS (by rfl) ?_
    apply Exists.intro
    refine ⟨fun w' hSw => ?_, ?_⟩
    · go_simp
      with_reducible rfl
    (try simp only [act_put, act_put_none, List.set_cons_zero, List.set_cons_succ])
    refine late_take (i := 7) (lt := []) (rd := [0, 1, 2, 3, 4, 5, 6, 7, 8, 9, 10, 11, 12, 13, 14, 15, 16, 17, 18]) (by simp only [List.getElem?_toArray, List.getElem?_cons_succ, List.getElem?_cons_zero]; rfl) (by decide +kernel) (by decide +kernel) (by decide +kernel) (by decide +kernel) (by decide +kernel) (by exact fun _ _ _ _ h => h) hS (by rfl) ?_
    apply Exists.intro
    refine ⟨fun w' hSw => ?_, ?_⟩
    · go_simp
      with_reducible rfl
    (try simp only [act_put, act_put_none, List.set_cons_zero, List.set_cons_succ])
    refine late_take (i := 8) (lt := []) (rd := [0, 1, 2, 3, 4, 5, 6, 7, 8, 9, 10, 11, 12, 13, 14, 15, 16, 17, 18]) (by simp only [List.getElem?_toArray, List.getElem?_cons_succ, List.getElem?_cons_zero]; rfl) (by decide +kernel) (by decide +kernel) (by decide +kernel) (by decide +kernel) (by decide +kernel) (by exact fun _ _ _ _ h => h) hS (by rfl) ?_
    apply Exists.intro
    refine ⟨fun w' hSw => ?_, ?_⟩
    · go_simp
      with_reducible rfl
    (try simp only [act_put, act_put_none, List.set_cons_zero, List.set_cons_succ])
    refine late_take (i := 9) (lt := []) (rd := [0, 1, 2, 3, 4, 5, 6, 7, 8, 9, 10, 11, 12, 13, 14, 15, 16, 17, 18]) (by simp only [List.getElem?_toArray, List.getElem?_cons_succ, List.getElem?_cons_zero]; rfl) (by decide +kernel) (by decide +kernel) (by decide +kernel) (by decide +kernel) (by decide +kernel) (by exact fun _ _ _ _ h => h) hS (by rfl) ?_
    apply Exists.intro
    refine ⟨fun w' hSw => ?_, ?_⟩
    · go_simp
      with_reducible rfl
    (try simp only [act_put, act_put_none, List.set_cons_zero, List.set_cons_succ])
    refine late_take (i := 10) (lt := []) (rd := [0, 1, 2, 3, 4, 5, 6, 7, 8, 9, 10, 11, 12, 13, 14, 15, 16, 17, 18]) (by simp only [List.getElem?_toArray, List.getElem?_cons_succ, List.getElem?_cons_zero]; rfl) (by decide +kernel) (by decide +kernel) (by decide +kernel) (by decide +kernel) (by decide +kernel) (by exact fun _ _ _ _ h => h) hS (by rfl) ?_
    apply Exists.intro
    refine ⟨fun w' hSw => ?_, ?_⟩
    · go_simp
      with_reducible rfl
    (try simp only [act_put, act_put_none, List.set_cons_zero, List.set_cons_succ])
    refine late_take (i := 11) (lt := []) (rd := [0, 1, 2, 3, 4, 5, 6, 7, 8, 9, 10, 11, 12, 13, 14, 15, 16, 17, 18]) (by simp only [List.getElem?_toArray, List.getElem?_cons_succ, List.getElem?_cons_zero]; rfl) (by decide +kernel) (by decide +kernel) (by decide +kernel) (by decide +kernel) (by decide +kernel) (by exact fun _ _ _ _ h => h) hS (by rfl) ?_
    apply Exists.intro
    refine ⟨fun w' hSw => ?_, ?_⟩
    · go_simp
      with_reducible rfl
    (try simp only [act_put, act_put_none, List.set_cons_zero, List.set_cons_succ])
    refine late_take (i := 12) (lt := []) (rd := [0, 1, 2, 3, 4, 5, 6, 7, 8, 9, 10, 11, 12, 13, 14, 15, 16, 17, 18]) (by simp only [List.getElem?_toArray, List.getElem?_cons_succ, List.getElem?_cons_zero]; rfl) (by decide +kernel) (by decide +kernel) (by decide +kernel) (by decide +kernel) (by decide +kernel) (by exact fun _ _ _ _ h => h) hS (by rfl) ?_
    apply Exists.intro
    refine ⟨fun w' hSw => ?_, ?_⟩
    · go_simp
      with_reducible rfl
    (try simp only [act_put, act_put_none, List.set_cons_zero, List.set_cons_succ])
    refine late_take (i := 13) (lt := []) (rd := [0, 1, 2, 3, 4, 5, 6, 7, 8, 9, 10, 11, 12, 13, 14, 15, 16, 17, 18]) (by simp only [List.getElem?_toArray, List.getElem?_cons_succ, List.getElem?_cons_zero]; rfl) (by decide +kernel) (by decide +kernel) (by decide +kernel) (by decide +kernel) (by decide +kernel) (by exact fun _ _ _ _ h => h) hS (by rfl) ?_
    apply Exists.intro
    refine ⟨fun w' hSw => ?_, ?_⟩
    · go_simp
      with_reducible rfl
    (try simp only [act_put, act_put_none, List.set_cons_zero, List.set_cons_succ])
    refine late_take (i := 14) (lt := []) (rd := [0, 1, 2, 3, 4, 5, 6, 7, 8, 9, 10, 11, 12, 13, 14, 15, 16, 17, 18]) (by simp only [List.getElem?_toArray, List.getElem?_cons_succ, List.getElem?_cons_zero]; rfl) (by decide +kernel) (by decide +kernel) (by decide +kernel) (by decide +kernel) (by decide +kernel) (by exact fun _ _ _ _ h => h) hS (by rfl) ?_
    apply Exists.intro
    refine ⟨fun w' hSw => ?_, ?_⟩
    · go_simp
      with_reducible rfl
    (try simp only [act_put, act_put_none, List.set_cons_zero, List.set_cons_succ])
    refine late_take (i := 15) (lt := []) (rd := [0, 1, 2, 3, 4, 5, 6, 7, 8, 9, 10, 11, 12, 13, 14, 15, 16, 17, 18]) (by simp only [List.getElem?_toArray, List.getElem?_cons_succ, List.getElem?_cons_zero]; rfl) (by decide +kernel) (by decide +kernel) (by decide +kernel) (by decide +kernel) (by decide +kernel) (by exact fun _ _ _ _ h => h) hS (by rfl) ?_
    apply Exists.intro
    refine ⟨fun w' hSw => ?_, ?_⟩
    · go_simp
      with_reducible rfl
    (try simp only [act_put, act_put_none, List.set_cons_zero, List.set_cons_succ])
    refine late_take (i := 16) (lt := []) (rd := [0, 1, 2, 3, 4, 5, 6, 7, 8, 9, 10, 11, 12, 13, 14, 15, 16, 17, 18]) (by simp only [List.getElem?_toArray, List.getElem?_cons_succ, List.getElem?_cons_zero]; rfl) (by decide +kernel) (by decide +kernel) (by decide +kernel) (by decide +kernel) (by decide +kernel) (by exact fun _ _ _ _ h => h) hS (by rfl) ?_
    apply Exists.intro
    refine ⟨fun w' hSw => ?_, ?_⟩
    · go_simp
      with_reducible rfl
    (try simp only [act_put, act_put_none, List.set_cons_zero, List.set_cons_succ])
    refine late_take (i := 17) (lt := []) (rd := [0, 1, 2, 3, 4, 5, 6, 7, 8, 9, 10, 11, 12, 13, 14, 15, 16, 17, 18]) (by simp only [List.getElem?_toArray, List.getElem?_cons_succ, List.getElem?_cons_zero]; rfl) (by decide +kernel) (by decide +kernel) (by decide +kernel) (by decide +kernel) (by decide +kernel) (by exact fun _ _ _ _ h => h) hS (by rfl) ?_
    apply Exists.intro
    refine ⟨fun w' hSw => ?_, ?_⟩
    · go_simp
      with_reducible rfl
    (try simp only [act_put, act_put_none, List.set_cons_zero, List.set_cons_succ])
    refine late_take (i := 18) (lt := []) (rd := [0, 1, 2, 3, 4, 5, 6, 7, 8, 9, 10, 11, 12, 13, 14, 15, 16, 17, 18]) (by simp only [List.getElem?_toArray, List.getElem?_cons_succ, List.getElem?_cons_zero]; rfl) (by decide +kernel) (by decide +kernel) (by decide +kernel) (by decide +kernel) (by decide +kernel) (by exact fun _ _ _ _ h => h) hS (by rfl) ?_
    apply Exists.intro
    refine ⟨fun w' hSw => ?_, ?_⟩
    · go_simp
      with_reducible rfl
    (try simp only [act_put, act_put_none, List.set_cons_zero, List.set_cons_succ])
    refine wpAnyR_ready (rs := [19]) (by decide +kernel) (by simp) ?_
    refine AllReadyR.cons (i := 19) (by simp only [List.getElem?_toArray, List.getElem?_cons_succ, List.getElem?_cons_zero]; rfl) (fun K hK => ?_) ?_
    · go_simp
      refine hK.out _ _ trivial (fun hS2 => ?_)
      clear hK K hS2
      (try simp only [act_put, act_put_none, List.set_cons_zero, List.set_cons_succ])
      refine wpAnyR_ready (rs := [20]) (by decide +kernel) (by simp) ?_
      refine AllReadyR.cons (i := 20) (by simp only [List.getElem?_toArray, List.getElem?_cons_succ, List.getElem?_cons_zero]; rfl) (fun K hK => ?_) ?_
      · go_simp
        go_at_call 28
        refine (rnums_ok rg p sg W7.heap.size 6 c l5 (planW sb.bp ++ fieldsW sb.j ++ fieldsW sb.m) r e5 [sb.bst, sb.bnum, sb.bep, sb.due, sb.ack, sb.told] T6.cells [12, 13, 14, 20, 21, 22] _ (HR7.out.below (hal _) HR7.out.lt) (rowKeep (hal _) HG7.out) (rowKeep (hal _) HS7.out) ?_ rfl hl5 rfl HB1.out ?_ hpr hrs (by omega) (by omega) (by simp) HF6.out).mono ?_
        · intro k hk
          rw [cell_of_rowAt (rowAt_alloc_at _ _ _ _ rfl)]
          rcases lt_six hk with rfl | rfl | rfl | rfl | rfl | rfl <;> rfl
        · intro i hi; rw [Sta.size]; simp at hi; omega
        rintro x w8 ⟨rfl, vs, l8, e8, hvs, hs8, hr8, hf8, hv8, hl8, ht8⟩
        go_simp
        refine hK.out _ _ trivial (fun hS2 => ?_)
        clear hK K hS2
        (try simp only [act_put, act_put_none, List.set_cons_zero, List.set_cons_succ])
        refine wpAnyR_done (by decide +kernel) ?_ _
        obtain ⟨u0, u1, u2, u3, u4, u5, rfl⟩ := list_six hvs
        rw [setZ_six] at hs8
        have hT8 : Two sg p W7 w8 := (Two.of_below (hal _) (by omega)).trans ht8
        have HG8 := Lib.hid (hT8.row (show rg ≠ sg by omega) (show rg ≠ p by omega) HG7.out)
        have HO8 := Lib.hid (hT8.row (show w.heap.size ≠ sg by omega) (show w.heap.size ≠ p by omega) HO7.out)
        have HRF8 := Lib.hid (HRF7.out.two hT8 HS7.out (rd_row HR7.out).choose_spec (by decide) (by decide) (by decide) (by decide))
        have HB8 : Hid (Below w.heap.size w w8) := Lib.hid (HB7.out.trans (hT8.2.1.mono (by omega)))
        have HS8 := Lib.hid hs8
        have HR8 := Lib.hid hr8
        have HF8 := Lib.hid (show FedE c l8 (planW sb.bp ++ (fieldsW sb.j ++ fieldsW sb.m)) r e8 by simpa only [List.append_assoc] using hf8)
        have HV8 := Lib.hid hv8
        have hsw8 := rowAt_lt hs8
        clear hs8 hr8 hf8 hv8 ht8 hT8 hal HG7 HS7 HR7 HO7 HRF7 HB7 HF6
        go_wp2_with fail
        refine (rplan_ok rg p sg c l8 (fieldsW sb.j ++ fieldsW sb.m) r e8 sb.bp _ 15 w8 HR8.out HG8.out HS8.out (Nat.le_trans hl8 hl5) HB2.out HB3.out (by rw [Sta.size]; decide) hpr hrs HF8.out).mono ?_
        rintro x w9 ⟨rfl, q9, l9, e9, hs9, hr9, hf9, hv9, hl9, hT9⟩
        rw [setPl15] at hs9
        have HG9 := Lib.hid (hT9.row (show rg ≠ sg by omega) (show rg ≠ p by omega) HG8.out)
        have HO9 := Lib.hid (hT9.row (show w.heap.size ≠ sg by omega) (show w.heap.size ≠ p by omega) HO8.out)
        have HRF9 := Lib.hid (HRF8.out.two hT9 HS8.out (rd_row HR8.out).choose_spec (by decide) (by decide) (by decide) (by decide))
        have HB9 : Hid (Below w.heap.size w w9) := Lib.hid (HB8.out.trans (hT9.2.1.mono (by omega)))
        have HS9 := Lib.hid hs9
        have HR9 := Lib.hid hr9
        have HF9 := Lib.hid (show FedE c l9 (numB sb.j.n ++ (fldsF 3 sb.j.l 0 sb.j.n ++ fieldsW sb.m)) r e9 by simpa only [fieldsW, fldsW_F, List.append_assoc] using hf9)
        have HV9 := Lib.hid hv9
        have hsw9 := rowAt_lt hs9
        clear hs9 hr9 hf9 hv9 hT9 HG8 HS8 HR8 HO8 HRF8 HB8 HF8
        go_wp2_with fail
        refine (rfields_ok rg p sg c l9 (fieldsW sb.m) r e9 sb.j.l sb.j.n _ 23 w9 HR9.out HG9.out HS9.out (Nat.le_trans hl9 (Nat.le_trans hl8 hl5)) HB4.out (by rw [Sta.get23]; show some (Value.slice T6.j.A T6.j.n T6.j.c) = some (.slice none 0 0); rw [HJ6.out.1]; rfl) hpr hrs HF9.out).mono ?_
        rintro x w10 ⟨rfl, A2, k2, c2, H2, l10, e10, hs10, hrf2, hr10, hf10, hv10, hk2, hl10, hT10⟩
        rw [Sta.set23 _ A2 k2 c2 (reF sb.j.l H2)] at hs10
        have HG10 := Lib.hid (hT10.row (show rg ≠ sg by omega) (show rg ≠ p by omega) HG9.out)
        have HO10 := Lib.hid (hT10.row (show w.heap.size ≠ sg by omega) (show w.heap.size ≠ p by omega) HO9.out)
        have HRF10 := Lib.hid (HRF9.out.two hT10 HS9.out (rd_row HR9.out).choose_spec (by decide) (by decide) (by decide) (by decide))
        have HRJ10 := Lib.hid (hrf2.mono HB9.out.size)
        have HB10 : Hid (Below w.heap.size w w10) := Lib.hid (HB9.out.trans (hT10.2.1.mono (by omega)))
        have HS10 := Lib.hid hs10
        have HR10 := Lib.hid hr10
        have HF10 := Lib.hid (show FedE c l10 (numB sb.m.n ++ (fldsF 3 sb.m.l 0 sb.m.n ++ [])) r e10 by simpa only [fieldsW, fldsW_F, List.append_nil] using hf10)
        have HV10 := Lib.hid hv10
        have hsw10 := rowAt_lt hs10
        clear hs10 hr10 hf10 hv10 hT10 HG9 HS9 HR9 HO9 HRF9 HB9 HF9 hrf2
        go_wp2_with fail
        refine (rfields_ok rg p sg c l10 [] r e10 sb.m.l sb.m.n _ 24 w10 HR10.out HG10.out HS10.out (Nat.le_trans hl10 (Nat.le_trans hl9 (Nat.le_trans hl8 hl5))) HB5.out (by rw [Sta.get24]; show some (Value.slice T6.m.A T6.m.n T6.m.c) = some (.slice none 0 0); rw [HJ6.out.2]; rfl) hpr hrs HF10.out).mono ?_
        rintro x w11 ⟨rfl, A3, k3, c3, H3, l11, e11, hs11, hrf3, hr11, hf11, hv11, hk3, hl11, hT11⟩
        rw [Sta.set24 _ A3 k3 c3 (reF sb.m.l H3)] at hs11
        have HGE := Lib.hid (hT11.row (show rg ≠ sg by omega) (show rg ≠ p by omega) HG10.out)
        have HOE := Lib.hid (hT11.row (show w.heap.size ≠ sg by omega) (show w.heap.size ≠ p by omega) HO10.out)
        have hrfA := HRF10.out.two hT11 HS10.out (rd_row HR10.out).choose_spec (by decide) (by decide) (by decide) (by decide)
        have hrfB := HRJ10.out.two hT11 HS10.out (rd_row HR10.out).choose_spec (by decide) (by decide) (by decide) (by decide)
        have hrfC := hrf3.mono HB10.out.size
        have HBE : Hid (Below w.heap.size w w11) := Lib.hid (HB10.out.trans (hT11.2.1.mono (by omega)))
        have HRE := Lib.hid hr11
        have HFE := Lib.hid hf11
        obtain ⟨TT, hTT⟩ : ∃ TT : Sta, TT = { { { { T6 with bst := u0, bnum := u1, bep := u2, due := u3, ack := u4, told := u5 } with bp := q9 } with j := ⟨A2, k2, c2, reF sb.j.l H2⟩ } with m := ⟨A3, k3, c3, reF sb.m.l H3⟩ } := ⟨_, rfl⟩
        have HSE : Hid (rowAt w11 sg = some (TT.cells, 30)) := Lib.hid (by rw [hTT]; exact hs11)
        have HTE : Hid (e11 = 0 → ∃ t, TT.cells = t.cells ∧ DecOf w11 w.heap.size s t) := Lib.hid (fun he => by
          obtain ⟨g1, g2⟩ := hv11 he
          obtain ⟨g3, g4⟩ := HV10.out g1
          obtain ⟨g5, g6⟩ := HV9.out g3
          obtain ⟨g7, g8⟩ := HV8.out g5
          obtain ⟨g9, g10⟩ := HSB.out g7
          obtain ⟨g11, g12⟩ := HV5.out g7
          subst g9
          injection g8 with i0 g8
          injection g8 with i1 g8
          injection g8 with i2 g8
          injection g8 with i3 g8
          injection g8 with i4 g8
          injection g8 with i5 _
          subst g2 g4 g6 i0 i1 i2 i3 i4 i5 g11
          refine ⟨reS sb A1 c1 H1 A2 c2 H2 A3 c3 H3, ?_, A1, c1, H1, A2, c2, H2, A3, c3, H3, rfl, hrfA, hrfB, hrfC⟩
          have hbn := (led_nums (HL3.out g10)).2
          rw [hTT, HT6.out, g12]
          unfold Sta.cells reS
          dsimp only
          rw [hbn])
        have HZ := Lib.hid trivial
        clear hs11 hr11 hf11 hv11 hT11 HG10 HS10 HR10 HO10 HRF10 HRJ10 HB10 HF10 hrf3 hrfA hrfB hrfC HV8 HV9 HV10 HSB HV5 hTT HT6
        clear HZ
        rcases feed_end HFE.out with ⟨hc, rfl, _⟩ | ⟨hc, rfl, hrn, hend⟩ | ⟨hc, rfl, hrn, hend⟩
        · have HCC := Lib.hid hc
          have hoe := HOE.out
          clear hc
          go_wp2_with fail
          refine (why_ok HRE.out HGE.out).mono ?_
          rintro x _ ⟨rfl, rfl⟩
          go_wp2_with fail
          refine ret_ct (u := .int .i64 3) (by rfl) (by with_unfolding_all rfl) (by with_unfolding_all rfl) (by rfl) (load_sta_row (rowAt_setRow_same _ HOE.out)) ?_
          exact ⟨below_setRow' HBE.out (Nat.le_refl _) _, fun _ => rfl, fun h => (by rw [HCC.out] at h; cases h), fun h => (by rw [HCC.out] at h; cases h)⟩
        · have HCC := Lib.hid hc
          have HRN := Lib.hid hrn
          have HEND := Lib.hid hend
          clear hc hrn hend
          go_wp2_with fail
          refine (why_ok HRE.out HGE.out).mono ?_
          rintro x _ ⟨rfl, rfl⟩
          have c0 : w11.cell? ⟨rg, 0, none⟩ = some (.pointer (some ⟨p, 0, none⟩)) := by rw [cell_of_rowAt HGE.out]; rfl
          go_wp2_with fail
          refine (end_any HRE.out).mono ?_
          rintro x _ ⟨rfl, rfl⟩
          rw [HEND.out]
          have hoe := HOE.out
          go_wp2_with fail
          refine ret_ct (u := .int .i64 5) (by rfl) (by with_unfolding_all rfl) (by with_unfolding_all rfl) (by rfl) (load_sta_row (rowAt_setRow_same _ HOE.out)) ?_
          exact ⟨below_setRow' HBE.out (Nat.le_refl _) _, fun h => (by rw [HCC.out] at h; cases h), fun _ _ => rfl, fun _ h => absurd h HRN.out⟩
        · have HCC := Lib.hid hc
          have HRN := Lib.hid hrn
          have HEND := Lib.hid hend
          obtain ⟨t, htc, hdo⟩ := HTE.out rfl
          have HTC := Lib.hid htc
          have HDO := Lib.hid hdo
          have HRT := Lib.hid (show rightS t = true by obtain ⟨_, _, _, _, _, _, _, _, _, rfl, _⟩ := hdo; rw [reS_right]; exact HRM.out)
          have HSO := Lib.hid (hdo.ok HBG.out)
          have HJN : Hid (t.j.n ≤ 1000000 ∧ t.m.n ≤ 1000000) := Lib.hid (by obtain ⟨_, _, _, _, _, _, _, _, _, rfl, _⟩ := hdo; exact HJM.out)
          have hse := HSE.out
          have hge := HGE.out
          rw [htc] at hse
          have hswe := rowAt_lt hse
          clear hc hrn hend htc hdo HSE HTE
          go_wp2_with fail
          refine (why_ok HRE.out HGE.out).mono ?_
          rintro x _ ⟨rfl, rfl⟩
          have c0 : w11.cell? ⟨rg, 0, none⟩ = some (.pointer (some ⟨p, 0, none⟩)) := by rw [cell_of_rowAt hge]; rfl
          go_wp2_with fail
          refine (end_any HRE.out).mono ?_
          rintro x _ ⟨rfl, rfl⟩
          rw [HEND.out]
          go_upto_region 16 with fail
          refine region_seq ?_
          repeat (go_big_quiet_step ((first | (go_at_call 9; exact quiet_call (by simp) (sright_is HRT.out (HSO.out.below (Later.below _)) HJN.out.1 HJN.out.2)))))
          refine wpQuiet_nil ?_
          intro wz hbz
          have hsz := rowKeep hbz hse
          have hoz := rowKeep hbz HOE.out
          have hdz := HDO.out.below hbz
          have HBZ := Lib.hid (HBE.out.trans (hbz.mono HBE.out.size))
          clear hbz hse hge c0
          go_wp2_with fail
          refine ret_ct (u := .int .i64 0) (by rfl) (by with_unfolding_all rfl) (by with_unfolding_all rfl) (by rfl) (load_sta_row (rowAt_setRow_same _ hoz)) ?_
          exact ⟨below_setRow' HBZ.out (Nat.le_refl _) _, fun h => (by rw [HCC.out] at h; cases h), fun _ h => absurd HRN.out h, fun _ _ => ⟨t, rfl, hdz.only (Only.setRow _) hoz (by decide) (by decide)⟩⟩
      exact AllReadyR.nil
    exact AllReadyR.nil
  · have g0 : (T5.self == 0) = false := by simp [hv0]
    have HFE : Hid (FedE c l5 [] r e5) := Lib.hid (by
      rcases HF6'.out with ⟨he, hfd⟩ | ⟨hc, he⟩
      · have h0 : ¬ s.self = 0 := by have := (HV5.out he).2; rw [this] at hv0; exact hv0
        rw [if_neg h0] at hfd
        exact .inl ⟨he, hfd⟩
      · exact .inr ⟨hc, he⟩)
    have HTE : Hid (e5 = 0 → ∃ t, T5.cells = t.cells ∧ DecOf w6 w.heap.size s t) := Lib.hid (fun he => by
      obtain ⟨g1, g2⟩ := HV5.out he
      have h0 : ¬ s.self = 0 := by rw [g2] at hv0; exact hv0
      have hn := HL4.out h0
      simp only [noBar, Bool.and_eq_true, beq_iff_eq] at hn
      obtain ⟨⟨⟨⟨⟨⟨⟨⟨n1, n2⟩, n3⟩, n4⟩, n5⟩, n6⟩, n7⟩, n8⟩, n9⟩ := hn
      have n9 := zeroPl_is n9
      have nj : s.j.n = 0 := by omega
      have nm : s.m.n = 0 := by omega
      subst g1
      have hrj : RF w6 w.heap.size s.j.l s.j.n none 0 (fun _ => (none, 0)) := by rw [nj]; exact RF.nil _ _ _
      have hrm : RF w6 w.heap.size s.m.l s.m.n none 0 (fun _ => (none, 0)) := by rw [nm]; exact RF.nil _ _ _
      refine ⟨reS s A1 c1 H1 none 0 (fun _ => (none, 0)) none 0 (fun _ => (none, 0)), ?_, A1, c1, H1, none, 0, _, none, 0, _, rfl, HRF6'.out, hrj, hrm⟩
      rw [g2]
      unfold Sta.cells reS FS.val sta0 fs0
      dsimp only
      rw [n2, n3, n4, n5, n6, n7, n8, n9, nj, nm])
    have HGE := HG6'
    have HOE := HO6'
    have HBE := HB6'
    have HRE := HR6'
    have HSE := HS6'
    have HZ := Lib.hid trivial
    clear HF6' HV5 HT5J HL3 HL4 HRF6' hv0 HG6' HO6' HB6' HR6' HS6'
    clear HZ
    rcases feed_end HFE.out with ⟨hc, rfl, _⟩ | ⟨hc, rfl, hrn, hend⟩ | ⟨hc, rfl, hrn, hend⟩
    · have HCC := Lib.hid hc
      have hoe := HOE.out
      clear hc
      go_wp2_with fail
      refine (why_ok HRE.out HGE.out).mono ?_
      rintro x _ ⟨rfl, rfl⟩
      go_wp2_with fail
      refine ret_ct (u := .int .i64 3) (by rfl) (by with_unfolding_all rfl) (by with_unfolding_all rfl) (by rfl) (load_sta_row (rowAt_setRow_same _ HOE.out)) ?_
      exact ⟨below_setRow' HBE.out (Nat.le_refl _) _, fun _ => rfl, fun h => (by rw [HCC.out] at h; cases h), fun h => (by rw [HCC.out] at h; cases h)⟩
    · have HCC := Lib.hid hc
      have HRN := Lib.hid hrn
      have HEND := Lib.hid hend
      clear hc hrn hend
      go_wp2_with fail
      refine (why_ok HRE.out HGE.out).mono ?_
      rintro x _ ⟨rfl, rfl⟩
      have c0 : w6.cell? ⟨rg, 0, none⟩ = some (.pointer (some ⟨p, 0, none⟩)) := by rw [cell_of_rowAt HGE.out]; rfl
      go_wp2_with fail
      refine (end_any HRE.out).mono ?_
      rintro x _ ⟨rfl, rfl⟩
      rw [HEND.out]
      have hoe := HOE.out
      go_wp2_with fail
      refine ret_ct (u := .int .i64 5) (by rfl) (by with_unfolding_all rfl) (by with_unfolding_all rfl) (by rfl) (load_sta_row (rowAt_setRow_same _ HOE.out)) ?_
      exact ⟨below_setRow' HBE.out (Nat.le_refl _) _, fun h => (by rw [HCC.out] at h; cases h), fun _ _ => rfl, fun _ h => absurd h HRN.out⟩
    · have HCC := Lib.hid hc
      have HRN := Lib.hid hrn
      have HEND := Lib.hid hend
      obtain ⟨t, htc, hdo⟩ := HTE.out rfl
      have HTC := Lib.hid htc
      have HDO := Lib.hid hdo
      have HRT := Lib.hid (show rightS t = true by obtain ⟨_, _, _, _, _, _, _, _, _, rfl, _⟩ := hdo; rw [reS_right]; exact HRM.out)
      have HSO := Lib.hid (hdo.ok HBG.out)
      have HJN : Hid (t.j.n ≤ 1000000 ∧ t.m.n ≤ 1000000) := Lib.hid (by obtain ⟨_, _, _, _, _, _, _, _, _, rfl, _⟩ := hdo; exact HJM.out)
      have hse := HSE.out
      have hge := HGE.out
      rw [htc] at hse
      have hswe := rowAt_lt hse
      clear hc hrn hend htc hdo HSE HTE
      go_wp2_with fail
      refine (why_ok HRE.out HGE.out).mono ?_
      rintro x _ ⟨rfl, rfl⟩
      have c0 : w6.cell? ⟨rg, 0, none⟩ = some (.pointer (some ⟨p, 0, none⟩)) := by rw [cell_of_rowAt hge]; rfl
      go_wp2_with fail
      refine (end_any HRE.out).mono ?_
      rintro x _ ⟨rfl, rfl⟩
      rw [HEND.out]
      go_upto_region 16 with fail
      refine region_seq ?_
      repeat (go_big_quiet_step ((first | (go_at_call 9; exact quiet_call (by simp) (sright_is HRT.out (HSO.out.below (Later.below _)) HJN.out.1 HJN.out.2)))))
      refine wpQuiet_nil ?_
      intro wz hbz
      have hsz := rowKeep hbz hse
      have hoz := rowKeep hbz HOE.out
      have hdz := HDO.out.below hbz
      have HBZ := Lib.hid (HBE.out.trans (hbz.mono HBE.out.size))
      clear hbz hse hge c0
      go_wp2_with fail
      refine ret_ct (u := .int .i64 0) (by rfl) (by with_unfolding_all rfl) (by with_unfolding_all rfl) (by rfl) (load_sta_row (rowAt_setRow_same _ hoz)) ?_
      exact ⟨below_setRow' HBZ.out (Nat.le_refl _) _, fun h => (by rw [HCC.out] at h; cases h), fun _ h => absurd HRN.out h, fun _ _ => ⟨t, rfl, hdz.only (Only.setRow _) hoz (by decide) (by decide)⟩⟩
end Go.Proofs.YtinhaipnmmgplaaGreat
