/-
  Layer 14 (message): numbers put behind bytes, by a closure.
-/
import Derived.Test.YtlocoieknabiaaaGreatZMsg1
namespace Go.Proofs.YtlocoieknabiaaaGreat
set_option maxRecDepth 20000
open Go.RowKit
set_option linter.unusedSimpArgs false
attribute [local go_sem] rowCells rowAt_drewN get_ints getE_ints set_ints size_ints rowAt_alloc rowAt_drew setRow_alloc setRow_drewN setRow_drew setCell_alloc setCell_drewN splice_upd splice_put splice_all load_vec_cut load_vecs_cut load_rights_cut load_counter store_vec store_rights store_counter eql_vec neq_vec index_vec eql_rights neq_rights eql_counter index_vecs cut_ints sub_zero
attribute [local go_sem ↓] xload_vec xstore_vec xalloc_vec xeql_vec xneq_vec xindex_vec xbuild_vec0 xload_rights xstore_rights xalloc_rights xeql_rights xneq_rights xbuild_rights0 xload_vecs xindex_vecs xload_counter xstore_counter xalloc_counter xbuild_counter0 xeql_counter xbuild_counter3
attribute [local go_sem] rowAt_setRow rowAt_setCell load_vec_cut_later load_rights_later load_counter_later Later.cell Later.frozen build3_ints
attribute [local go_sem ↓] xload_field xstore_field xalloc_field xload_lock
attribute [local go_sem] load_field load_field_later store_field load_counter_cut load_lock_cut load_lock_later Fld.size Fld.get0 Fld.get1 Fld.get2 Fld.get586 Fld.getE0 Fld.getE1 Fld.getE2 Fld.getE586 Fld.cut_cnt Fld.cut_lock Fld.cut_all Fld.splice_all strT_size

/-- Block p holds a slice of these bytes. -/
def PB (w : World) (p B : Nat) (l : List UInt8) : Prop := ∃ A c, rowAt w p = some (#[.slice A l.length c], 60) ∧ IsBy w A l ∧ (A = none → c = 0) ∧ (∀ x, A = some x → x.block ≠ p ∧ B ≤ x.block) ∧ l.length ≤ c
theorem PB.set {w : World} {p B : Nat} {r : List UInt8} {A : Option Addr} {c : Nat} {v0 : Value} (hr : rowAt w p = some (#[v0], 60)) (hI : IsBy w A r) (hn : A = none → c = 0) (hb : ∀ x, A = some x → x.block ≠ p ∧ B ≤ x.block) (hc : r.length ≤ c) :
    PB (w.setCell ⟨p, 0, none⟩ (.slice A r.length c)) p B r := by
  refine ⟨A, c, ?_, fun i hi => ?_, hn, hb, hc⟩
  · rw [rowAt_setCell, if_pos rfl, hr]; rfl
  · obtain ⟨b, o, h1, h2⟩ := hI i hi
    exact ⟨b, o, h1, Only.cell (Only.setCell _) (hb _ h1).1 h2⟩
set_option maxHeartbeats 2000000 in
theorem put_any (g p n B : Nat) (L : List Int) (l : List UInt8) (w : World) (hg : g ≠ p) (hn : n = L.length) (hL : ∀ k, k < L.length → w.cell? ⟨g, k, none⟩ = some (.int .i64 (L.getD k 0))) (hlen : l.length + 6 * L.length ≤ 70368744177664) (hp : PB w p B l) (hB : B ≤ w.heap.size) :
    Calls Tryz.prog 33 #[.slice (some ⟨g, 0, none⟩) n n, .pointer (some ⟨p, 0, none⟩)] w fun e w' => e = .returned (.tuple #[]) ∧ PB w' p B (l ++ catB L) ∧ Only p w w' := by
  subst hn
  have HL := Lib.hid hL
  have HP := Lib.hid hp
  clear hL hp
  go_enter Tryz.func33, Tryz.ntmps33
  go_wp2_with fail
  go_loopw [7] (fun i w' => ∃ k : Nat, k ≤ L.length ∧ i = .int .i64 k ∧ PB w' p B (l ++ catB (L.take k)) ∧ Only p w w') (fun i _ => L.length - (intOf i).toNat)
  case atStart => exact ⟨0, Nat.zero_le _, rfl, by simpa [catB] using HP.out, Only.refl _ _⟩
  case round =>
    rename_i wr
    obtain ⟨k, hk, rfl, hpb, ho⟩ := hrel
    have HO := Lib.hid ho
    have HPB := Lib.hid hpb
    clear hpb ho
    by_cases hlt : k < L.length
    · have hc := HO.out.cell hg (HL.out k hlt)
      have hlk : (l ++ catB (L.take k)).length ≤ 70368744177664 := by
        have := catB_len (L.take k)
        rw [List.length_append]
        have h2 : (L.take k).length ≤ L.length := by simp; omega
        omega
      have HT : Hid (l ++ catB (L.take (k + 1)) = (l ++ catB (L.take k)) ++ numB (L.getD k 0)) := Lib.hid (by rw [catB_take hlt, ← List.append_assoc])
      have hpb := HPB.out
      obtain ⟨X, hX⟩ : ∃ X, l ++ catB (L.take k) = X := ⟨_, rfl⟩
      obtain ⟨x, hx⟩ : ∃ x, L.getD k 0 = x := ⟨_, rfl⟩
      rw [hx] at hc
      rw [hX, hx] at HT
      rw [hX] at hpb hlk
      obtain ⟨A, c, hr, hI, hN, hBB, hC⟩ := hpb
      have hc2 : wr.cell? ⟨p, 0, none⟩ = some (.slice A X.length c) := by rw [cell_of_rowAt hr]; rfl
      have HR := Lib.hid hr
      have HI := Lib.hid hI
      have HN := Lib.hid hN
      clear hr hI hN hBB hC HPB hX hx
      go_wp2_with fail
      refine (number_any A c X x _ HI.out HN.out hlk).mono ?_
      rintro e w1 ⟨v, rfl, hown, hb⟩
      obtain ⟨A', c', rfl, i1, i2, i3, i4⟩ := hown.isBy
      have hr1 := rowKeep hb HR.out
      have hf1 := frozen_of_rowAt hr1 0
      have hc3 : w1.cell? ⟨p, 0, none⟩ = some (.slice A X.length c) := by rw [cell_of_rowAt hr1]; rfl
      have hpl := rowAt_lt HR.out
      have HW1 : Hid (Only p w (w1.setCell ⟨p, 0, none⟩ (.slice A' (X ++ numB x).length c')) ∧ PB (w1.setCell ⟨p, 0, none⟩ (.slice A' (X ++ numB x).length c')) p B (X ++ numB x)) :=
        Lib.hid ⟨(HO.out.trans (Only.of_below hb (Nat.le_of_lt hpl))).trans (Only.setCell _), PB.set hr1 i1 i2 (fun x hx => by have := (i4 x hx).1; have := HO.out.1; omega) i3⟩
      clear hown hb i1 i2 i3 i4 hr1 HI HN HR
      go_wp2_with fail
      go_roundw
      case rel => exact ⟨k + 1, by omega, by go_num, by rw [HT.out, ← List.length_append]; exact HW1.out.2, by rw [← List.length_append]; exact HW1.out.1⟩
      case measure => simp [intOf]; omega
    · have hkk : k = L.length := by omega
      subst hkk
      have HE : Hid (PB wr p B (l ++ catB L)) := Lib.hid (by simpa using HPB.out)
      clear HPB
      go_wp2_with fail
      refine bodyPost_end (v := .tuple #[]) (by simp [results, show Tryz.f33.results = #[] from rfl]) rfl ?_
      exact ⟨rfl, HE.out, HO.out⟩

/-! The bytes of a want. -/
def wantB : List UInt8 := [10, 0, 2, 6, 0, 0, 0]
theorem wantB_is : catB [5, 0, 1, 3, 0, 0, 0] = wantB := by
  simp only [catB]
  rw [numB, show zig 5 = 10 by decide, uB_less (by decide), numB, show zig 0 = 0 by decide, uB_less (by decide), numB, show zig 1 = 2 by decide, uB_less (by decide), numB, show zig 3 = 6 by decide, uB_less (by decide)]
  rfl
set_option maxHeartbeats 2000000 in
theorem encode_want (w : World) : Calls Tryz.prog 20 #[.agg (msgC 5 0 1 3 0)] w fun e w' => ∃ A c, e = .returned (.tuple #[.slice A 7 c, .int .i64 0]) ∧ IsBy w' A wantB ∧ (A = none → c = 0) ∧ (∀ x, A = some x → w.heap.size ≤ x.block) ∧ Below w.heap.size w w' := by
  unfold msgC
  go_enter Tryz.func20, Tryz.ntmps20
  go_wp2_with fail
  refine (right_want _).mono ?_
  rintro e w1 ⟨rfl, hb1⟩
  have r1 : rowAt w1 w.heap.size = some (msgC 5 0 1 3 0, 34) := rowKeep hb1 (rowAt_alloc_at _ _ _ _ rfl)
  have HB1 := Lib.hid (bthen (below_allocS (Below.refl _ _) _) hb1)
  clear hb1
  have n1 := rowAt_lt r1
  have k0 : w1.cell? ⟨w.heap.size, 0, none⟩ = some (.int .i64 5) := by rw [cell_of_rowAt r1]; rfl
  have k1 : w1.cell? ⟨w.heap.size, 1, none⟩ = some (.int .i64 0) := by rw [cell_of_rowAt r1]; rfl
  have k2 : w1.cell? ⟨w.heap.size, 2, none⟩ = some (.int .i64 1) := by rw [cell_of_rowAt r1]; rfl
  have k3 : w1.cell? ⟨w.heap.size, 3, none⟩ = some (.int .i64 3) := by rw [cell_of_rowAt r1]; rfl
  have k4 : w1.cell? ⟨w.heap.size, 4, none⟩ = some (.int .i64 0) := by rw [cell_of_rowAt r1]; rfl
  have k5 : w1.cell? ⟨w.heap.size, 5, none⟩ = some (.bool false) := by rw [cell_of_rowAt r1]; rfl
  have k6 : w1.cell? ⟨w.heap.size, 6, none⟩ = some (.slice none 0 0) := by rw [cell_of_rowAt r1]; rfl
  have hmf : ∀ (fn : Fn) (first cap : Array Value) (w : World), (Instr.makeFunc fn first cap).run Tryz.prog w = .ok (.func fn first cap) w := fun _ _ _ _ => rfl
  have hq : ∀ W : World, W.heap.size = w1.heap.size + 1 → rowAt W w1.heap.size = some (#[.slice none 0 0], 60) → PB (W.alloc (.cells #[.int .i64 5, .int .i64 0, .int .i64 1, .int .i64 3, .int .i64 0, .int .i64 0, .int .i64 0] 3)) w1.heap.size w.heap.size [] := fun W _ hr =>
    ⟨none, 0, rowPast hr, IsBy.nil _ _, fun _ => rfl, fun x hx => (by cases hx), Nat.le_refl _⟩
  have hq2 : ∀ W : World, W.heap.size = w1.heap.size + 1 → ∀ k, k < [5, 0, 1, 3, 0, 0, (0 : Int)].length → (W.alloc (.cells #[.int .i64 5, .int .i64 0, .int .i64 1, .int .i64 3, .int .i64 0, .int .i64 0, .int .i64 0] 3)).cell? ⟨w1.heap.size + 1, k, none⟩ = some (.int .i64 ([5, 0, 1, 3, 0, 0, (0 : Int)].getD k 0)) := fun W hW k hk => by
    rw [cell_of_rowAt (rowAt_alloc_at _ _ _ _ hW.symm)]
    match k, hk with
    | 0, _ => rfl
    | 1, _ => rfl
    | 2, _ => rfl
    | 3, _ => rfl
    | 4, _ => rfl
    | 5, _ => rfl
    | 6, _ => rfl
  have Q1 := Lib.hid hq
  have Q2 := Lib.hid hq2
  clear hq hq2
  go_wp2_with fail
  refine (put_any (w1.heap.size + 1) w1.heap.size 7 w.heap.size [5, 0, 1, 3, 0, 0, 0] [] _ (by omega) rfl (Q2.out _ (by simp)) (by decide) (Q1.out _ (by simp) (rowAt_alloc_at _ _ _ _ rfl)) (by simp; omega)).mono ?_
  rintro e w2 ⟨rfl, hpb, ho⟩
  rw [List.nil_append, wantB_is] at hpb
  obtain ⟨A, c, hr, hI, hN, hB, hC⟩ := hpb
  have s1 : rowAt w2 w.heap.size = some (msgC 5 0 1 3 0, 34) := ho.row (Nat.ne_of_lt n1) (rowPast (rowPast r1))
  have c2 : w2.cell? ⟨w1.heap.size, 0, none⟩ = some (.slice A 7 c) := by rw [cell_of_rowAt hr]; rfl
  have HB2 : Hid (Below w.heap.size w w2) := Lib.hid ((below_allocS (below_allocS HB1.out _) _).trans (ho.2.1.mono (Nat.le_of_lt n1)))
  have HI := Lib.hid hI
  have HN := Lib.hid hN
  have HC := Lib.hid (fun x hx => (hB x hx).2)
  clear ho hr hI hN hC hB r1 k0 k1 k2 k3 k4 k5 k6 HB1 Q1 Q2
  have k0 : w2.cell? ⟨w.heap.size, 0, none⟩ = some (.int .i64 5) := by rw [cell_of_rowAt s1]; rfl
  have k6 : w2.cell? ⟨w.heap.size, 6, none⟩ = some (.slice none 0 0) := by rw [cell_of_rowAt s1]; rfl
  clear s1
  go_wp2_with fail
  go_loopw [37] (fun i w' => i = .int .i64 0 ∧ w' = w2) (fun _ _ => 0)
  case atStart => exact ⟨rfl, rfl⟩
  case round =>
    obtain ⟨rfl, rfl⟩ := hrel
    go_wp2_with fail
    go_ret2
    exact ⟨A, c, rfl, HI.out, HN.out, HC.out, HB2.out⟩
end Go.Proofs.YtlocoieknabiaaaGreat

/-
  Layer 14 (message): the want's bytes are read.
-/
namespace Go.Proofs.YtlocoieknabiaaaGreat
set_option maxRecDepth 20000
open Go.RowKit
set_option linter.unusedSimpArgs false
attribute [local go_sem] rowCells rowAt_drewN get_ints getE_ints set_ints size_ints rowAt_alloc rowAt_drew setRow_alloc setRow_drewN setRow_drew setCell_alloc setCell_drewN splice_upd splice_put splice_all load_vec_cut load_vecs_cut load_rights_cut load_counter store_vec store_rights store_counter eql_vec neq_vec index_vec eql_rights neq_rights eql_counter index_vecs cut_ints sub_zero
attribute [local go_sem ↓] xload_vec xstore_vec xalloc_vec xeql_vec xneq_vec xindex_vec xbuild_vec0 xload_rights xstore_rights xalloc_rights xeql_rights xneq_rights xbuild_rights0 xload_vecs xindex_vecs xload_counter xstore_counter xalloc_counter xbuild_counter0 xeql_counter xbuild_counter3
attribute [local go_sem] rowAt_setRow rowAt_setCell load_vec_cut_later load_rights_later load_counter_later Later.cell Later.frozen build3_ints
attribute [local go_sem ↓] xload_field xstore_field xalloc_field xload_lock
attribute [local go_sem] load_field load_field_later store_field load_counter_cut load_lock_cut load_lock_later Fld.size Fld.get0 Fld.get1 Fld.get2 Fld.get586 Fld.getE0 Fld.getE1 Fld.getE2 Fld.getE586 Fld.cut_cnt Fld.cut_lock Fld.cut_all Fld.splice_all strT_size
def ptrsC (q : Nat) : Array Value := #[.pointer (some ⟨q, 0, none⟩), .pointer (some ⟨q, 1, none⟩), .pointer (some ⟨q, 2, none⟩), .pointer (some ⟨q, 3, none⟩), .pointer (some ⟨q, 4, none⟩)]
def msgK (k : Nat) : Array Value := msgC (if 0 < k then 5 else 0) 0 (if 2 < k then 1 else 0) (if 3 < k then 3 else 0) 0
theorem new_len {A : Option Addr} {c n : Nat} {l : List UInt8} {w : World} (hl : IsBy w A l) (hA : A = none → c = 0) (hlen : l.length ≤ 70368744177664) (hn : n = l.length) :
    Calls Tryz.prog 39 #[.slice A n c] w fun e w' => ∃ p, e = .returned (.pointer (some ⟨p, 0, none⟩)) ∧ Rd w' p l 0 ∧ w.heap.size ≤ p ∧ Below w.heap.size w w' := by
  subst hn
  exact new_any A c l w hl hA hlen
theorem fields_nil (p : Nat) (v : Int) (w : World) (h : Rd w p [0] 0) : Calls Tryz.prog 42 #[.pointer (some ⟨p, 0, none⟩), .int .i64 v] w fun e w' => e = .returned (.tuple #[.slice none 0 0, .int .i64 0]) ∧ Rd w' p [] 0 ∧ Only p w w' := by
  have HR := Lib.hid h
  clear h
  go_enter Tryz.func42, Tryz.ntmps42
  go_wp2_with fail
  refine (count_only (n := 0) (m := 4) (r := []) HR.out (by decide) (by decide +kernel) (by decide) (by decide)).mono ?_
  rintro e w1 ⟨rfl, hr, ho⟩
  have HR1 := Lib.hid hr
  have HO := Lib.hid ho
  clear hr ho HR
  go_wp2_with fail
  go_loopw [6, 14] (fun v i w' => v = .slice none 0 0 ∧ i = .int .i64 0 ∧ w' = w1) (fun _ _ _ => 0)
  case atStart => exact ⟨rfl, rfl, rfl⟩
  case round =>
    obtain ⟨rfl, rfl, rfl⟩ := hrel
    go_wp2_with (go_at_call 59; refine (err_any HR1.out).mono ?_; rintro e w' ⟨rfl, rfl⟩)
    go_ret2
    exact ⟨rfl, HR1.out, HO.out⟩
theorem set12 {w : World} {g : Nat} {a0 a1 a2 a3 a4 a5 a6 a7 a8 a9 a10 a11 v0 v1 v2 v3 v4 v5 v6 v7 v8 v9 v10 v11 : Value} (h : rowAt w g = some (#[a0, a1, a2, a3, a4, a5, a6, a7, a8, a9, a10, a11], 34)) : rowAt ((((((((((((w.setCell ⟨g, 0, none⟩ v0).setCell ⟨g, 1, none⟩ v1).setCell ⟨g, 2, none⟩ v2).setCell ⟨g, 3, none⟩ v3).setCell ⟨g, 4, none⟩ v4).setCell ⟨g, 5, none⟩ v5).setCell ⟨g, 6, none⟩ v6).setCell ⟨g, 7, none⟩ v7).setCell ⟨g, 8, none⟩ v8).setCell ⟨g, 9, none⟩ v9).setCell ⟨g, 10, none⟩ v10).setCell ⟨g, 11, none⟩ v11) g = some (#[v0, v1, v2, v3, v4, v5, v6, v7, v8, v9, v10, v11], 34) := by
  simp only [rowAt_setCell, if_true, h, Option.map_some, List.setIfInBounds_toArray, List.set_cons_succ, List.set_cons_zero]
theorem load_msg_row {w : World} {g : Nat} {c : Array Value} {t : TypeId} (h : rowAt w g = some (c, t)) (hc : c.size = 12) : loadAgg Tryz.prog w 34 (.pointer (some ⟨g, 0, none⟩)) = .ok (.value (.agg c)) w := by
  rw [loadAgg_row (n := 12) Tryz.underlying34 rfl (by kernel_rfl) (by rw [h]; rfl) (by simp [rowCells, h, hc])]
  congr 3
  simp [rowCells, h, ← hc]
set_option maxHeartbeats 1000000 in
theorem decode_want (A : Option Addr) (c : Nat) (w : World) (hI : IsBy w A wantB) (hN : A = none → c = 0) : Calls Tryz.prog 23 #[.slice A 7 c] w fun e w' => e = .returned (.tuple #[.agg (msgC 5 0 1 3 0), .int .i64 0]) ∧ Below w.heap.size w w' := by
  have HI := Lib.hid (fun o => hI.alloc o)
  clear hI
  go_enter Tryz.func23, Tryz.ntmps23
  go_wp2_with fail
  refine (new_len (HI.out _) hN (by decide) (by decide)).mono ?_
  rintro e w1 ⟨p, rfl, hr, hp, hb⟩
  have r0 : rowAt w1 w.heap.size = some (msgK 0, 34) := rowKeep hb (rowAt_alloc_at _ _ _ _ rfl)
  have hp1 : w.heap.size < p := by have := hp; simp at this; omega
  have hp2 := hr.lt
  have HR := Lib.hid hr
  have HB1 := Lib.hid (bthen (below_allocS (Below.refl _ _) _) hb)
  clear hr hb hp
  have hq1 : w.heap.size ≠ w1.heap.size := by omega
  have S0 : ∀ W : World, W = (w1.alloc (.cells (msgK 0) 34)).alloc (.cells (ptrsC w1.heap.size) 94) → Rd W p (wantB.drop 0) 0 ∧ rowAt W w1.heap.size = some (msgK 0, 34) ∧ rowAt W (w1.heap.size + 1) = some (ptrsC w1.heap.size, 94) ∧ rowAt W w.heap.size = some (msgK 0, 34) ∧ Below w.heap.size w W := by
    rintro W rfl
    refine ⟨HR.out.below (B := w1.heap.size) (((Below.refl _ _).alloc (Nat.le_refl _) _).alloc (by simp) _) hp2, rowPast (rowAt_alloc_at _ _ _ _ rfl), rowAt_alloc_at _ _ _ _ (by simp), rowPast (rowPast r0), below_allocS (below_allocS HB1.out _) _⟩
  have HS0 := Lib.hid S0
  clear S0
  go_wp2_with fail
  go_loopw [20] (fun i w' => ∃ k : Nat, k ≤ 5 ∧ i = .int .i64 k ∧ Rd w' p (wantB.drop k) 0 ∧ rowAt w' w1.heap.size = some (msgK k, 34) ∧ rowAt w' (w1.heap.size + 1) = some (ptrsC w1.heap.size, 94) ∧ rowAt w' w.heap.size = some (msgK 0, 34) ∧ Below w.heap.size w w') (fun i _ => 5 - (intOf i).toNat)
  case atStart => exact ⟨0, by omega, rfl, HS0.out _ rfl⟩
  case round =>
    rename_i wr
    obtain ⟨k, hk, rfl, hr, s1, s2, s3, hb⟩ := hrel
    have HRr := Lib.hid hr
    have HBr := Lib.hid hb
    clear hr hb HS0 HR HB1 r0
    have hk2 : k = 0 ∨ k = 1 ∨ k = 2 ∨ k = 3 ∨ k = 4 ∨ k = 5 := by omega
    clear hk
    rcases hk2 with rfl | rfl | rfl | rfl | rfl | rfl
    · have c1 : wr.cell? ⟨w1.heap.size + 1, 0, none⟩ = some (.pointer (some ⟨w1.heap.size, 0, none⟩)) := by rw [cell_of_rowAt s2]; rfl
      go_wp2_with fail
      refine (rnum_iso (n := 5) (e' := 0) (l' := wantB.drop 1) HRr.out (by decide) (by decide +kernel)).mono ?_
      rintro e w2 ⟨rfl, hr, ho⟩
      have t1 := ho.row (by omega : w1.heap.size ≠ p) s1
      have t2 := ho.row (by omega : w1.heap.size + 1 ≠ p) s2
      have t3 := ho.row (by omega : w.heap.size ≠ p) s3
      have f1 := frozen_of_rowAt t1 0
      have g1 : w2.cell? ⟨w1.heap.size, 0, none⟩ = some (.int .i64 0) := by rw [cell_of_rowAt t1]; rfl
      have HW : Hid (Rd (w2.setCell ⟨w1.heap.size, 0, none⟩ (.int .i64 5)) p (wantB.drop 1) 0 ∧ rowAt (w2.setCell ⟨w1.heap.size, 0, none⟩ (.int .i64 5)) w1.heap.size = some (msgK 1, 34) ∧ rowAt (w2.setCell ⟨w1.heap.size, 0, none⟩ (.int .i64 5)) (w1.heap.size + 1) = some (ptrsC w1.heap.size, 94) ∧ rowAt (w2.setCell ⟨w1.heap.size, 0, none⟩ (.int .i64 5)) w.heap.size = some (msgK 0, 34) ∧ Below w.heap.size w (w2.setCell ⟨w1.heap.size, 0, none⟩ (.int .i64 5))) :=
        Lib.hid ⟨hr.below (B := w1.heap.size) (below_setCell' (Below.refl _ _) (Nat.le_refl _)) hp2, by rw [rowAt_setCell, if_pos rfl, t1]; rfl, by rw [rowAt_setCell, if_neg (by omega)]; exact t2, by rw [rowAt_setCell, if_neg hq1]; exact t3, below_setCell' (HBr.out.trans (ho.2.1.mono (by omega))) (by omega)⟩
      clear hr ho t1 t2 t3 s1 s2 s3 c1 HBr HRr
      go_wp2_with fail
      go_roundw
      case rel => exact ⟨1, by omega, by go_num, HW.out⟩
      case measure => simp [intOf]
    · have c1 : wr.cell? ⟨w1.heap.size + 1, 1, none⟩ = some (.pointer (some ⟨w1.heap.size, 1, none⟩)) := by rw [cell_of_rowAt s2]; rfl
      go_wp2_with fail
      refine (rnum_iso (n := 0) (e' := 0) (l' := wantB.drop 2) HRr.out (by decide) (by decide +kernel)).mono ?_
      rintro e w2 ⟨rfl, hr, ho⟩
      have t1 := ho.row (by omega : w1.heap.size ≠ p) s1
      have t2 := ho.row (by omega : w1.heap.size + 1 ≠ p) s2
      have t3 := ho.row (by omega : w.heap.size ≠ p) s3
      have f1 := frozen_of_rowAt t1 1
      have g1 : w2.cell? ⟨w1.heap.size, 1, none⟩ = some (.int .i64 0) := by rw [cell_of_rowAt t1]; rfl
      have HW : Hid (Rd (w2.setCell ⟨w1.heap.size, 1, none⟩ (.int .i64 0)) p (wantB.drop 2) 0 ∧ rowAt (w2.setCell ⟨w1.heap.size, 1, none⟩ (.int .i64 0)) w1.heap.size = some (msgK 2, 34) ∧ rowAt (w2.setCell ⟨w1.heap.size, 1, none⟩ (.int .i64 0)) (w1.heap.size + 1) = some (ptrsC w1.heap.size, 94) ∧ rowAt (w2.setCell ⟨w1.heap.size, 1, none⟩ (.int .i64 0)) w.heap.size = some (msgK 0, 34) ∧ Below w.heap.size w (w2.setCell ⟨w1.heap.size, 1, none⟩ (.int .i64 0))) :=
        Lib.hid ⟨hr.below (B := w1.heap.size) (below_setCell' (Below.refl _ _) (Nat.le_refl _)) hp2, by rw [rowAt_setCell, if_pos rfl, t1]; rfl, by rw [rowAt_setCell, if_neg (by omega)]; exact t2, by rw [rowAt_setCell, if_neg hq1]; exact t3, below_setCell' (HBr.out.trans (ho.2.1.mono (by omega))) (by omega)⟩
      clear hr ho t1 t2 t3 s1 s2 s3 c1 HBr HRr
      go_wp2_with fail
      go_roundw
      case rel => exact ⟨2, by omega, by go_num, HW.out⟩
      case measure => simp [intOf]
    · have c1 : wr.cell? ⟨w1.heap.size + 1, 2, none⟩ = some (.pointer (some ⟨w1.heap.size, 2, none⟩)) := by rw [cell_of_rowAt s2]; rfl
      go_wp2_with fail
      refine (rnum_iso (n := 1) (e' := 0) (l' := wantB.drop 3) HRr.out (by decide) (by decide +kernel)).mono ?_
      rintro e w2 ⟨rfl, hr, ho⟩
      have t1 := ho.row (by omega : w1.heap.size ≠ p) s1
      have t2 := ho.row (by omega : w1.heap.size + 1 ≠ p) s2
      have t3 := ho.row (by omega : w.heap.size ≠ p) s3
      have f1 := frozen_of_rowAt t1 2
      have g1 : w2.cell? ⟨w1.heap.size, 2, none⟩ = some (.int .i64 0) := by rw [cell_of_rowAt t1]; rfl
      have HW : Hid (Rd (w2.setCell ⟨w1.heap.size, 2, none⟩ (.int .i64 1)) p (wantB.drop 3) 0 ∧ rowAt (w2.setCell ⟨w1.heap.size, 2, none⟩ (.int .i64 1)) w1.heap.size = some (msgK 3, 34) ∧ rowAt (w2.setCell ⟨w1.heap.size, 2, none⟩ (.int .i64 1)) (w1.heap.size + 1) = some (ptrsC w1.heap.size, 94) ∧ rowAt (w2.setCell ⟨w1.heap.size, 2, none⟩ (.int .i64 1)) w.heap.size = some (msgK 0, 34) ∧ Below w.heap.size w (w2.setCell ⟨w1.heap.size, 2, none⟩ (.int .i64 1))) :=
        Lib.hid ⟨hr.below (B := w1.heap.size) (below_setCell' (Below.refl _ _) (Nat.le_refl _)) hp2, by rw [rowAt_setCell, if_pos rfl, t1]; rfl, by rw [rowAt_setCell, if_neg (by omega)]; exact t2, by rw [rowAt_setCell, if_neg hq1]; exact t3, below_setCell' (HBr.out.trans (ho.2.1.mono (by omega))) (by omega)⟩
      clear hr ho t1 t2 t3 s1 s2 s3 c1 HBr HRr
      go_wp2_with fail
      go_roundw
      case rel => exact ⟨3, by omega, by go_num, HW.out⟩
      case measure => simp [intOf]
    · have c1 : wr.cell? ⟨w1.heap.size + 1, 3, none⟩ = some (.pointer (some ⟨w1.heap.size, 3, none⟩)) := by rw [cell_of_rowAt s2]; rfl
      go_wp2_with fail
      refine (rnum_iso (n := 3) (e' := 0) (l' := wantB.drop 4) HRr.out (by decide) (by decide +kernel)).mono ?_
      rintro e w2 ⟨rfl, hr, ho⟩
      have t1 := ho.row (by omega : w1.heap.size ≠ p) s1
      have t2 := ho.row (by omega : w1.heap.size + 1 ≠ p) s2
      have t3 := ho.row (by omega : w.heap.size ≠ p) s3
      have f1 := frozen_of_rowAt t1 3
      have g1 : w2.cell? ⟨w1.heap.size, 3, none⟩ = some (.int .i64 0) := by rw [cell_of_rowAt t1]; rfl
      have HW : Hid (Rd (w2.setCell ⟨w1.heap.size, 3, none⟩ (.int .i64 3)) p (wantB.drop 4) 0 ∧ rowAt (w2.setCell ⟨w1.heap.size, 3, none⟩ (.int .i64 3)) w1.heap.size = some (msgK 4, 34) ∧ rowAt (w2.setCell ⟨w1.heap.size, 3, none⟩ (.int .i64 3)) (w1.heap.size + 1) = some (ptrsC w1.heap.size, 94) ∧ rowAt (w2.setCell ⟨w1.heap.size, 3, none⟩ (.int .i64 3)) w.heap.size = some (msgK 0, 34) ∧ Below w.heap.size w (w2.setCell ⟨w1.heap.size, 3, none⟩ (.int .i64 3))) :=
        Lib.hid ⟨hr.below (B := w1.heap.size) (below_setCell' (Below.refl _ _) (Nat.le_refl _)) hp2, by rw [rowAt_setCell, if_pos rfl, t1]; rfl, by rw [rowAt_setCell, if_neg (by omega)]; exact t2, by rw [rowAt_setCell, if_neg hq1]; exact t3, below_setCell' (HBr.out.trans (ho.2.1.mono (by omega))) (by omega)⟩
      clear hr ho t1 t2 t3 s1 s2 s3 c1 HBr HRr
      go_wp2_with fail
      go_roundw
      case rel => exact ⟨4, by omega, by go_num, HW.out⟩
      case measure => simp [intOf]
    · have c1 : wr.cell? ⟨w1.heap.size + 1, 4, none⟩ = some (.pointer (some ⟨w1.heap.size, 4, none⟩)) := by rw [cell_of_rowAt s2]; rfl
      go_wp2_with fail
      refine (rnum_iso (n := 0) (e' := 0) (l' := wantB.drop 5) HRr.out (by decide) (by decide +kernel)).mono ?_
      rintro e w2 ⟨rfl, hr, ho⟩
      have t1 := ho.row (by omega : w1.heap.size ≠ p) s1
      have t2 := ho.row (by omega : w1.heap.size + 1 ≠ p) s2
      have t3 := ho.row (by omega : w.heap.size ≠ p) s3
      have f1 := frozen_of_rowAt t1 4
      have g1 : w2.cell? ⟨w1.heap.size, 4, none⟩ = some (.int .i64 0) := by rw [cell_of_rowAt t1]; rfl
      have HW : Hid (Rd (w2.setCell ⟨w1.heap.size, 4, none⟩ (.int .i64 0)) p (wantB.drop 5) 0 ∧ rowAt (w2.setCell ⟨w1.heap.size, 4, none⟩ (.int .i64 0)) w1.heap.size = some (msgK 5, 34) ∧ rowAt (w2.setCell ⟨w1.heap.size, 4, none⟩ (.int .i64 0)) (w1.heap.size + 1) = some (ptrsC w1.heap.size, 94) ∧ rowAt (w2.setCell ⟨w1.heap.size, 4, none⟩ (.int .i64 0)) w.heap.size = some (msgK 0, 34) ∧ Below w.heap.size w (w2.setCell ⟨w1.heap.size, 4, none⟩ (.int .i64 0))) :=
        Lib.hid ⟨hr.below (B := w1.heap.size) (below_setCell' (Below.refl _ _) (Nat.le_refl _)) hp2, by rw [rowAt_setCell, if_pos rfl, t1]; rfl, by rw [rowAt_setCell, if_neg (by omega)]; exact t2, by rw [rowAt_setCell, if_neg hq1]; exact t3, below_setCell' (HBr.out.trans (ho.2.1.mono (by omega))) (by omega)⟩
      clear hr ho t1 t2 t3 s1 s2 s3 c1 HBr HRr
      go_wp2_with fail
      go_roundw
      case rel => exact ⟨5, by omega, by go_num, HW.out⟩
      case measure => simp [intOf]
    · go_wp2_with fail
      refine (count_only (n := 0) (m := 1) (r := [0]) HRr.out (by decide) (by decide +kernel) (by decide) (by decide)).mono ?_
      rintro e w2 ⟨rfl, hr, ho⟩
      have t1 := ho.row (by omega : w1.heap.size ≠ p) s1
      have t3 := ho.row (by omega : w.heap.size ≠ p) s3
      have f1 := frozen_of_rowAt t1 5
      have g1 : w2.cell? ⟨w1.heap.size, 5, none⟩ = some (.bool false) := by rw [cell_of_rowAt t1]; rfl
      have HW : Hid (Rd (w2.setCell ⟨w1.heap.size, 5, none⟩ (.bool false)) p [0] 0 ∧ rowAt (w2.setCell ⟨w1.heap.size, 5, none⟩ (.bool false)) w1.heap.size = some (msgK 5, 34) ∧ rowAt (w2.setCell ⟨w1.heap.size, 5, none⟩ (.bool false)) w.heap.size = some (msgK 0, 34) ∧ Below w.heap.size w (w2.setCell ⟨w1.heap.size, 5, none⟩ (.bool false))) :=
        Lib.hid ⟨hr.below (B := w1.heap.size) (below_setCell' (Below.refl _ _) (Nat.le_refl _)) hp2, by rw [rowAt_setCell, if_pos rfl, t1]; rfl, by rw [rowAt_setCell, if_neg hq1]; exact t3, below_setCell' (HBr.out.trans (ho.2.1.mono (by omega))) (by omega)⟩
      clear hr ho t1 t3 s1 s2 s3 HBr HRr
      obtain ⟨W2, hW2⟩ : ∃ W2, w2.setCell ⟨w1.heap.size, 5, none⟩ (.bool false) = W2 := ⟨_, rfl⟩
      rw [hW2] at HW
      obtain ⟨hr, t1, t3, hb⟩ := HW.out
      have HR2 := Lib.hid hr
      have HB2 := Lib.hid hb
      have g3 : W2.cell? ⟨w1.heap.size, 3, none⟩ = some (.int .i64 3) := by rw [cell_of_rowAt t1]; rfl
      clear HW hr hb
      go_wp2_with fail
      refine (fields_nil p 3 W2 HR2.out).mono ?_
      rintro e w3 ⟨rfl, hr, ho⟩
      have t4 := ho.row (by omega : w1.heap.size ≠ p) t1
      have t5 := ho.row (by omega : w.heap.size ≠ p) t3
      have f3 := frozen_of_rowAt t4 6
      have g4 : w3.cell? ⟨w1.heap.size, 6, none⟩ = some (.slice none 0 0) := by rw [cell_of_rowAt t4]; rfl
      have HW : Hid (Rd (w3.setCell ⟨w1.heap.size, 6, none⟩ (.slice none 0 0)) p [] 0 ∧ rowAt (w3.setCell ⟨w1.heap.size, 6, none⟩ (.slice none 0 0)) w1.heap.size = some (msgC 5 0 1 3 0, 34) ∧ rowAt (w3.setCell ⟨w1.heap.size, 6, none⟩ (.slice none 0 0)) w.heap.size = some (msgK 0, 34) ∧ Below w.heap.size w (w3.setCell ⟨w1.heap.size, 6, none⟩ (.slice none 0 0))) :=
        Lib.hid ⟨hr.below (B := w1.heap.size) (below_setCell' (Below.refl _ _) (Nat.le_refl _)) hp2, by rw [rowAt_setCell, if_pos rfl, t4]; rfl, by rw [rowAt_setCell, if_neg hq1]; exact t5, below_setCell' (HB2.out.trans (ho.2.1.mono (by omega))) (by omega)⟩
      clear hr ho t4 t5 t1 t3 HR2 HB2 g3 hW2 f1 g1
      obtain ⟨W3, hW3⟩ : ∃ W3, w3.setCell ⟨w1.heap.size, 6, none⟩ (.slice none 0 0) = W3 := ⟨_, rfl⟩
      rw [hW3] at HW
      obtain ⟨hr, t1, t3, hb⟩ := HW.out
      have HR3 := Lib.hid hr
      have HB3 := Lib.hid hb
      have n1 := rowAt_lt t1
      have g0 : W3.cell? ⟨w1.heap.size, 0, none⟩ = some (.int .i64 5) := by rw [cell_of_rowAt t1]; rfl
      have g1 : W3.cell? ⟨w1.heap.size, 1, none⟩ = some (.int .i64 0) := by rw [cell_of_rowAt t1]; rfl
      have g2 : W3.cell? ⟨w1.heap.size, 2, none⟩ = some (.int .i64 1) := by rw [cell_of_rowAt t1]; rfl
      have g3 : W3.cell? ⟨w1.heap.size, 3, none⟩ = some (.int .i64 3) := by rw [cell_of_rowAt t1]; rfl
      have g4 : W3.cell? ⟨w1.heap.size, 4, none⟩ = some (.int .i64 0) := by rw [cell_of_rowAt t1]; rfl
      have g5 : W3.cell? ⟨w1.heap.size, 5, none⟩ = some (.bool false) := by rw [cell_of_rowAt t1]; rfl
      have g6 : W3.cell? ⟨w1.heap.size, 6, none⟩ = some (.slice none 0 0) := by rw [cell_of_rowAt t1]; rfl
      have g7 : W3.cell? ⟨w1.heap.size, 7, none⟩ = some (.int .i64 0) := by rw [cell_of_rowAt t1]; rfl
      have g8 : W3.cell? ⟨w1.heap.size, 8, none⟩ = some (.string ByteArray.empty) := by rw [cell_of_rowAt t1]; rfl
      have g9 : W3.cell? ⟨w1.heap.size, 9, none⟩ = some (.string ByteArray.empty) := by rw [cell_of_rowAt t1]; rfl
      have g10 : W3.cell? ⟨w1.heap.size, 10, none⟩ = some (.int .i64 0) := by rw [cell_of_rowAt t1]; rfl
      have g11 : W3.cell? ⟨w1.heap.size, 11, none⟩ = some (.int .i64 0) := by rw [cell_of_rowAt t1]; rfl
      clear HW hr hb
      go_wp2_with (go_at_call 44; refine (end_is (n := 0) HR3.out (by decide)).mono ?_; rintro e w' ⟨rfl, rfl⟩)
      refine (right_want W3).mono ?_
      rintro e w5 ⟨rfl, hb⟩
      have u1 := rowKeep hb t1
      have u3 := rowKeep hb t3
      have HB5 := Lib.hid (bthen HB3.out hb)
      clear hb t1 t3 HB3 HR3 g0 g1 g2 g3 g4 g5 g6 g7 g8 g9 g10 g11 n1 hW3
      have e0 : w5.cell? ⟨w1.heap.size, 0, none⟩ = some (.int .i64 5) := by rw [cell_of_rowAt u1]; rfl
      have e1 : w5.cell? ⟨w1.heap.size, 1, none⟩ = some (.int .i64 0) := by rw [cell_of_rowAt u1]; rfl
      have e2 : w5.cell? ⟨w1.heap.size, 2, none⟩ = some (.int .i64 1) := by rw [cell_of_rowAt u1]; rfl
      have e3 : w5.cell? ⟨w1.heap.size, 3, none⟩ = some (.int .i64 3) := by rw [cell_of_rowAt u1]; rfl
      have e4 : w5.cell? ⟨w1.heap.size, 4, none⟩ = some (.int .i64 0) := by rw [cell_of_rowAt u1]; rfl
      have e5 : w5.cell? ⟨w1.heap.size, 5, none⟩ = some (.bool false) := by rw [cell_of_rowAt u1]; rfl
      have e6 : w5.cell? ⟨w1.heap.size, 6, none⟩ = some (.slice none 0 0) := by rw [cell_of_rowAt u1]; rfl
      have e7 : w5.cell? ⟨w1.heap.size, 7, none⟩ = some (.int .i64 0) := by rw [cell_of_rowAt u1]; rfl
      have e8 : w5.cell? ⟨w1.heap.size, 8, none⟩ = some (.string ByteArray.empty) := by rw [cell_of_rowAt u1]; rfl
      have e9 : w5.cell? ⟨w1.heap.size, 9, none⟩ = some (.string ByteArray.empty) := by rw [cell_of_rowAt u1]; rfl
      have e10 : w5.cell? ⟨w1.heap.size, 10, none⟩ = some (.int .i64 0) := by rw [cell_of_rowAt u1]; rfl
      have e11 : w5.cell? ⟨w1.heap.size, 11, none⟩ = some (.int .i64 0) := by rw [cell_of_rowAt u1]; rfl
      have z0 : w5.cell? ⟨w.heap.size, 0, none⟩ = some (.int .i64 0) := by rw [cell_of_rowAt u3]; rfl
      have z1 : w5.cell? ⟨w.heap.size, 1, none⟩ = some (.int .i64 0) := by rw [cell_of_rowAt u3]; rfl
      have z2 : w5.cell? ⟨w.heap.size, 2, none⟩ = some (.int .i64 0) := by rw [cell_of_rowAt u3]; rfl
      have z3 : w5.cell? ⟨w.heap.size, 3, none⟩ = some (.int .i64 0) := by rw [cell_of_rowAt u3]; rfl
      have z4 : w5.cell? ⟨w.heap.size, 4, none⟩ = some (.int .i64 0) := by rw [cell_of_rowAt u3]; rfl
      have z5 : w5.cell? ⟨w.heap.size, 5, none⟩ = some (.bool false) := by rw [cell_of_rowAt u3]; rfl
      have z6 : w5.cell? ⟨w.heap.size, 6, none⟩ = some (.slice none 0 0) := by rw [cell_of_rowAt u3]; rfl
      have z7 : w5.cell? ⟨w.heap.size, 7, none⟩ = some (.int .i64 0) := by rw [cell_of_rowAt u3]; rfl
      have z8 : w5.cell? ⟨w.heap.size, 8, none⟩ = some (.string ByteArray.empty) := by rw [cell_of_rowAt u3]; rfl
      have z9 : w5.cell? ⟨w.heap.size, 9, none⟩ = some (.string ByteArray.empty) := by rw [cell_of_rowAt u3]; rfl
      have z10 : w5.cell? ⟨w.heap.size, 10, none⟩ = some (.int .i64 0) := by rw [cell_of_rowAt u3]; rfl
      have z11 : w5.cell? ⟨w.heap.size, 11, none⟩ = some (.int .i64 0) := by rw [cell_of_rowAt u3]; rfl
      have zz := frozen_of_rowAt u3
      go_wp2_with fail
      have hfin := set12 (v0 := .int .i64 5) (v1 := .int .i64 0) (v2 := .int .i64 1) (v3 := .int .i64 3) (v4 := .int .i64 0) (v5 := .bool false) (v6 := .slice none 0 0) (v7 := .int .i64 0) (v8 := .string ByteArray.empty) (v9 := .string ByteArray.empty) (v10 := .int .i64 0) (v11 := .int .i64 0) u3
      have hl := load_msg_row hfin rfl
      refine ret_ct (v := .agg (msgC 5 0 1 3 0)) (u := .int .i64 0) (by rfl) (by with_unfolding_all rfl) (by with_unfolding_all rfl) (by rfl) hl ?_
      refine ⟨rfl, ?_⟩
      iterate 12 refine below_setCell' ?_ (Nat.le_refl _)
      exact HB5.out
end Go.Proofs.YtlocoieknabiaaaGreat
