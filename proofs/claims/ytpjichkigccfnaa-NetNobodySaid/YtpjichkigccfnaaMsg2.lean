/-
  Layer 14 (message): numbers put behind bytes, by a closure.
-/
import Derived.Test.YtpjichkigccfnaaMsg1
namespace Go.Proofs.Ytpjichkigccfnaa
set_option maxRecDepth 20000
open Go.RowKit
set_option linter.unusedSimpArgs false
attribute [local go_sem] rowCells rowAt_drewN get_ints getE_ints set_ints size_ints rowAt_alloc rowAt_drew setRow_alloc setRow_drewN setRow_drew setCell_alloc setCell_drewN splice_upd splice_put splice_all load_vec_cut load_vecs_cut load_rights_cut load_counter store_vec store_rights store_counter eql_vec neq_vec index_vec eql_rights neq_rights eql_counter index_vecs cut_ints sub_zero
attribute [local go_sem ↓] xload_vec xstore_vec xalloc_vec xeql_vec xneq_vec xindex_vec xbuild_vec0 xload_rights xstore_rights xalloc_rights xeql_rights xneq_rights xbuild_rights0 xload_vecs xindex_vecs xload_counter xstore_counter xalloc_counter xbuild_counter0 xeql_counter xbuild_counter3
attribute [local go_sem] rowAt_setRow rowAt_setCell load_vec_cut_later load_rights_later load_counter_later Later.cell Later.frozen build3_ints
attribute [local go_sem ↓] xload_field xstore_field xalloc_field xload_lock
attribute [local go_sem] load_field load_field_later store_field load_counter_cut load_lock_cut load_lock_later Fld.size Fld.get0 Fld.get1 Fld.get2 Fld.get586 Fld.getE0 Fld.getE1 Fld.getE2 Fld.getE586 Fld.cut_cnt Fld.cut_lock Fld.cut_all Fld.splice_all strT_size

/-- Block p holds a slice of these bytes. -/
def PB (w : World) (p B : Nat) (l : List UInt8) : Prop := ∃ A c, rowAt w p = some (#[.slice A l.length c], 29) ∧ IsBy w A l ∧ (A = none → c = 0) ∧ (∀ x, A = some x → x.block ≠ p ∧ B ≤ x.block) ∧ l.length ≤ c
theorem PB.set {w : World} {p B : Nat} {r : List UInt8} {A : Option Addr} {c : Nat} {v0 : Value} (hr : rowAt w p = some (#[v0], 29)) (hI : IsBy w A r) (hn : A = none → c = 0) (hb : ∀ x, A = some x → x.block ≠ p ∧ B ≤ x.block) (hc : r.length ≤ c) :
    PB (w.setCell ⟨p, 0, none⟩ (.slice A r.length c)) p B r := by
  refine ⟨A, c, ?_, fun i hi => ?_, hn, hb, hc⟩
  · rw [rowAt_setCell, if_pos rfl, hr]; rfl
  · obtain ⟨b, o, h1, h2⟩ := hI i hi
    exact ⟨b, o, h1, Only.cell (Only.setCell _) (hb _ h1).1 h2⟩
set_option maxHeartbeats 2000000 in
theorem put_any (g p n B : Nat) (L : List Int) (l : List UInt8) (w : World) (hg : g ≠ p) (hn : n = L.length) (hL : ∀ k, k < L.length → w.cell? ⟨g, k, none⟩ = some (.int .i64 (L.getD k 0))) (hlen : l.length + 6 * L.length ≤ 70368744177664) (hp : PB w p B l) (hB : B ≤ w.heap.size) :
    Calls Try.prog 31 #[.slice (some ⟨g, 0, none⟩) n n, .pointer (some ⟨p, 0, none⟩)] w fun e w' => e = .returned (.tuple #[]) ∧ PB w' p B (l ++ catB L) ∧ Only p w w' := by
  subst hn
  have HL := Lib.hid hL
  have HP := Lib.hid hp
  clear hL hp
  go_enter Try.func31, Try.ntmps31
  go_wp2_with fail
  go_loopw [7] (fun i w' => ∃ k : Nat, k ≤ L.length ∧ i = .int .i64 k ∧ PB w' p B (l ++ catB (L.take k)) ∧ Only p w w') (fun i _ => L.length - (intOf i).toNat)
  case atStart => exact ⟨0, Nat.zero_le _, rfl, by simpa [catB] using HP.out, Only.refl _ _⟩
  case round =>
    rename_i wr
    obtain ⟨k, hk, rfl, hpb, ho⟩ := hrel
    have HO := Lib.hid ho
    have HPB := Lib.hid hpb
    clear hpb ho
    by_cases hlt : k < L.length
    · have hc := HO.out.cell hg (HL.out k hlt)
      have hlk : (l ++ catB (L.take k)).length ≤ 70368744177664 := by
        have := catB_len (L.take k)
        rw [List.length_append]
        have h2 : (L.take k).length ≤ L.length := by simp; omega
        omega
      have HT : Hid (l ++ catB (L.take (k + 1)) = (l ++ catB (L.take k)) ++ numB (L.getD k 0)) := Lib.hid (by rw [catB_take hlt, ← List.append_assoc])
      have hpb := HPB.out
      obtain ⟨X, hX⟩ : ∃ X, l ++ catB (L.take k) = X := ⟨_, rfl⟩
      obtain ⟨x, hx⟩ : ∃ x, L.getD k 0 = x := ⟨_, rfl⟩
      rw [hx] at hc
      rw [hX, hx] at HT
      rw [hX] at hpb hlk
      obtain ⟨A, c, hr, hI, hN, hBB, hC⟩ := hpb
      have hc2 : wr.cell? ⟨p, 0, none⟩ = some (.slice A X.length c) := by rw [cell_of_rowAt hr]; rfl
      have HR := Lib.hid hr
      have HI := Lib.hid hI
      have HN := Lib.hid hN
      clear hr hI hN hBB hC HPB hX hx
      go_wp2_with fail
      refine (number_any A c X x _ HI.out HN.out hlk).mono ?_
      rintro e w1 ⟨v, rfl, hown, hb⟩
      obtain ⟨A', c', rfl, i1, i2, i3, i4⟩ := hown.isBy
      have hr1 := rowKeep hb HR.out
      have hf1 := frozen_of_rowAt hr1 0
      have hc3 : w1.cell? ⟨p, 0, none⟩ = some (.slice A X.length c) := by rw [cell_of_rowAt hr1]; rfl
      have hpl := rowAt_lt HR.out
      have HW1 : Hid (Only p w (w1.setCell ⟨p, 0, none⟩ (.slice A' (X ++ numB x).length c')) ∧ PB (w1.setCell ⟨p, 0, none⟩ (.slice A' (X ++ numB x).length c')) p B (X ++ numB x)) :=
        Lib.hid ⟨(HO.out.trans (Only.of_below hb (Nat.le_of_lt hpl))).trans (Only.setCell _), PB.set hr1 i1 i2 (fun x hx => by have := (i4 x hx).1; have := HO.out.1; omega) i3⟩
      clear hown hb i1 i2 i3 i4 hr1 HI HN HR
      go_wp2_with fail
      go_roundw
      case rel => exact ⟨k + 1, by omega, by go_num, by rw [HT.out, ← List.length_append]; exact HW1.out.2, by rw [← List.length_append]; exact HW1.out.1⟩
      case measure => simp [intOf]; omega
    · have hkk : k = L.length := by omega
      subst hkk
      have HE : Hid (PB wr p B (l ++ catB L)) := Lib.hid (by simpa using HPB.out)
      clear HPB
      go_wp2_with fail
      refine bodyPost_end (v := .tuple #[]) (by simp [results, show Try.f31.results = #[] from rfl]) rfl ?_
      exact ⟨rfl, HE.out, HO.out⟩

/-! The bytes of a want. -/
def wantB : List UInt8 := [10, 0, 2, 6, 0, 0, 0]
theorem wantB_is : catB [5, 0, 1, 3, 0, 0, 0] = wantB := by
  simp only [catB]
  rw [numB, show zig 5 = 10 by decide, uB_less (by decide), numB, show zig 0 = 0 by decide, uB_less (by decide), numB, show zig 1 = 2 by decide, uB_less (by decide), numB, show zig 3 = 6 by decide, uB_less (by decide)]
  rfl
set_option maxHeartbeats 2000000 in
theorem encode_want (w : World) : Calls Try.prog 13 #[.agg (msgC 5 0 1 3 0)] w fun e w' => ∃ A c, e = .returned (.tuple #[.slice A 7 c, .int .i64 0]) ∧ IsBy w' A wantB ∧ (A = none → c = 0) ∧ (∀ x, A = some x → w.heap.size ≤ x.block) ∧ Below w.heap.size w w' := by
  unfold msgC
  go_enter Try.func13, Try.ntmps13
  go_wp2_with fail
  refine (right_want _).mono ?_
  rintro e w1 ⟨rfl, hb1⟩
  have r1 : rowAt w1 w.heap.size = some (msgC 5 0 1 3 0, 26) := rowKeep hb1 (rowAt_alloc_at _ _ _ _ rfl)
  have HB1 := Lib.hid (bthen (below_allocS (Below.refl _ _) _) hb1)
  clear hb1
  have n1 := rowAt_lt r1
  have k0 : w1.cell? ⟨w.heap.size, 0, none⟩ = some (.int .i64 5) := by rw [cell_of_rowAt r1]; rfl
  have k1 : w1.cell? ⟨w.heap.size, 1, none⟩ = some (.int .i64 0) := by rw [cell_of_rowAt r1]; rfl
  have k2 : w1.cell? ⟨w.heap.size, 2, none⟩ = some (.int .i64 1) := by rw [cell_of_rowAt r1]; rfl
  have k3 : w1.cell? ⟨w.heap.size, 3, none⟩ = some (.int .i64 3) := by rw [cell_of_rowAt r1]; rfl
  have k4 : w1.cell? ⟨w.heap.size, 4, none⟩ = some (.int .i64 0) := by rw [cell_of_rowAt r1]; rfl
  have k5 : w1.cell? ⟨w.heap.size, 5, none⟩ = some (.bool false) := by rw [cell_of_rowAt r1]; rfl
  have k6 : w1.cell? ⟨w.heap.size, 6, none⟩ = some (.slice none 0 0) := by rw [cell_of_rowAt r1]; rfl
  have hmf : ∀ (fn : Fn) (first cap : Array Value) (w : World), (Instr.makeFunc fn first cap).run Try.prog w = .ok (.func fn first cap) w := fun _ _ _ _ => rfl
  have hq : ∀ W : World, W.heap.size = w1.heap.size + 1 → rowAt W w1.heap.size = some (#[.slice none 0 0], 29) → PB (W.alloc (.cells #[.int .i64 5, .int .i64 0, .int .i64 1, .int .i64 3, .int .i64 0, .int .i64 0, .int .i64 0] 3)) w1.heap.size w.heap.size [] := fun W _ hr =>
    ⟨none, 0, rowPast hr, IsBy.nil _ _, fun _ => rfl, fun x hx => (by cases hx), Nat.le_refl _⟩
  have hq2 : ∀ W : World, W.heap.size = w1.heap.size + 1 → ∀ k, k < [5, 0, 1, 3, 0, 0, (0 : Int)].length → (W.alloc (.cells #[.int .i64 5, .int .i64 0, .int .i64 1, .int .i64 3, .int .i64 0, .int .i64 0, .int .i64 0] 3)).cell? ⟨w1.heap.size + 1, k, none⟩ = some (.int .i64 ([5, 0, 1, 3, 0, 0, (0 : Int)].getD k 0)) := fun W hW k hk => by
    rw [cell_of_rowAt (rowAt_alloc_at _ _ _ _ hW.symm)]
    match k, hk with
    | 0, _ => rfl
    | 1, _ => rfl
    | 2, _ => rfl
    | 3, _ => rfl
    | 4, _ => rfl
    | 5, _ => rfl
    | 6, _ => rfl
  have Q1 := Lib.hid hq
  have Q2 := Lib.hid hq2
  clear hq hq2
  go_wp2_with fail
  refine (put_any (w1.heap.size + 1) w1.heap.size 7 w.heap.size [5, 0, 1, 3, 0, 0, 0] [] _ (by omega) rfl (Q2.out _ (by simp)) (by decide) (Q1.out _ (by simp) (rowAt_alloc_at _ _ _ _ rfl)) (by simp; omega)).mono ?_
  rintro e w2 ⟨rfl, hpb, ho⟩
  rw [List.nil_append, wantB_is] at hpb
  obtain ⟨A, c, hr, hI, hN, hB, hC⟩ := hpb
  have s1 : rowAt w2 w.heap.size = some (msgC 5 0 1 3 0, 26) := ho.row (Nat.ne_of_lt n1) (rowPast (rowPast r1))
  have c2 : w2.cell? ⟨w1.heap.size, 0, none⟩ = some (.slice A 7 c) := by rw [cell_of_rowAt hr]; rfl
  have HB2 : Hid (Below w.heap.size w w2) := Lib.hid ((below_allocS (below_allocS HB1.out _) _).trans (ho.2.1.mono (Nat.le_of_lt n1)))
  have HI := Lib.hid hI
  have HN := Lib.hid hN
  have HC := Lib.hid (fun x hx => (hB x hx).2)
  clear ho hr hI hN hC hB r1 k0 k1 k2 k3 k4 k5 k6 HB1 Q1 Q2
  have k0 : w2.cell? ⟨w.heap.size, 0, none⟩ = some (.int .i64 5) := by rw [cell_of_rowAt s1]; rfl
  have k6 : w2.cell? ⟨w.heap.size, 6, none⟩ = some (.slice none 0 0) := by rw [cell_of_rowAt s1]; rfl
  clear s1
  go_wp2_with fail
  go_loopw [37] (fun i w' => i = .int .i64 0 ∧ w' = w2) (fun _ _ => 0)
  case atStart => exact ⟨rfl, rfl⟩
  case round =>
    obtain ⟨rfl, rfl⟩ := hrel
    go_wp2_with fail
    go_ret2
    exact ⟨A, c, rfl, HI.out, HN.out, HC.out, HB2.out⟩
end Go.Proofs.Ytpjichkigccfnaa
