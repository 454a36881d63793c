/-
  Layer 17 (state): the writer's numbers, and plans.
-/
import Derived.Test.YtinhaipnmmgplaaGreatZGO
import Derived.Test.YtinhaipnmmgplaaGreatZGQ
import Derived.Test.YtinhaipnmmgplaaGreatZMEnc
namespace Go.Proofs.YtinhaipnmmgplaaGreat
set_option maxRecDepth 20000
open Go.RowKit
set_option linter.unusedSimpArgs false
set_option linter.unusedVariables false
attribute [local go_sem] rowCells rowAt_drewN get_ints getE_ints set_ints size_ints rowAt_alloc rowAt_drew setRow_alloc setRow_drewN setRow_drew setCell_alloc setCell_drewN splice_upd splice_put splice_all load_vec_cut load_vecs_cut load_rights_cut load_counter store_vec store_rights store_counter eql_vec neq_vec index_vec eql_rights neq_rights eql_counter index_vecs cut_ints sub_zero
attribute [local go_sem ↓] xload_vec xstore_vec xalloc_vec xeql_vec xneq_vec xindex_vec xbuild_vec0 xload_rights xstore_rights xalloc_rights xeql_rights xneq_rights xbuild_rights0 xload_vecs xindex_vecs xload_counter xstore_counter xalloc_counter xbuild_counter0 xeql_counter xbuild_counter3
attribute [local go_sem] rowAt_setRow rowAt_setCell load_vec_cut_later load_rights_later load_counter_later Later.cell Later.frozen build3_ints
attribute [local go_sem ↓] xload_field xstore_field xalloc_field xload_lock
attribute [local go_sem] load_field load_field_later store_field load_counter_cut load_lock_cut load_lock_later Fld.size Fld.get0 Fld.get1 Fld.get2 Fld.get586 Fld.getE0 Fld.getE1 Fld.getE2 Fld.getE586 Fld.cut_cnt Fld.cut_lock Fld.cut_all Fld.splice_all strT_size

attribute [local go_sem ↓] xload_hold xstore_hold xalloc_hold
attribute [local go_sem] load_hold load_hold_later store_hold
attribute [local go_sem ↓] xbuild_lock0 xeql_lock xneq_lock xneq_counter
attribute [local go_sem] eql_lock neq_lock neq_counter

attribute [local go_sem] zero_field
attribute [local go_sem] resC_size resC_all resC_splice resC_set0 resC_set1 Fld.set2 Fld.set586
attribute [local go_sem ↓] xbuildS_field
attribute [local go_sem] buildSF_agg
attribute [local go_sem ↓] xstore_sta xload_sta xalloc_sta xbuild_sta0 xstore_bar xload_bar xalloc_bar xbuild_bar0 xstore_plan xload_plan xalloc_plan xbuild_plan0
attribute [local go_sem] load_sta load_sta_later store_sta load_bar load_bar_later store_bar load_plan load_plan_later store_plan
attribute [local go_sem] Sta.size Sta.bsize Pl.size Sta.cut_all Sta.cut_p Sta.cut_bar Sta.cut_bp Sta.bcut_all Sta.bcut_p Pl.cut_all Sta.splice_all Sta.bsplice_all Pl.splice_all Sta.splice_bar
attribute [local go_sem] Sta.get0 Sta.getE0 Sta.set0 Sta.get1 Sta.getE1 Sta.set1 Sta.get2 Sta.getE2 Sta.set2 Sta.get3 Sta.getE3 Sta.set3 Sta.get4 Sta.getE4 Sta.set4 Sta.get5 Sta.getE5 Sta.set5 Sta.get6 Sta.getE6 Sta.set6 Sta.get7 Sta.getE7 Sta.set7 Sta.get8 Sta.getE8 Sta.set8 Sta.get9 Sta.getE9 Sta.set9 Sta.get10 Sta.getE10 Sta.set10 Sta.get11 Sta.getE11 Sta.set11 Sta.get12 Sta.getE12 Sta.set12 Sta.get13 Sta.getE13 Sta.set13 Sta.get14 Sta.getE14 Sta.set14 Sta.get15 Sta.getE15 Sta.set15 Sta.get16 Sta.getE16 Sta.set16 Sta.get17 Sta.getE17 Sta.set17 Sta.get18 Sta.getE18 Sta.set18 Sta.get19 Sta.getE19 Sta.set19 Sta.get20 Sta.getE20 Sta.set20 Sta.get21 Sta.getE21 Sta.set21 Sta.get22 Sta.getE22 Sta.set22 Sta.get23 Sta.getE23 Sta.set23 Sta.get24 Sta.getE24 Sta.set24
attribute [local go_sem] Sta.bget0 Sta.bgetE0 Sta.bget1 Sta.bgetE1 Sta.bget2 Sta.bgetE2 Sta.bget3 Sta.bgetE3 Sta.bget4 Sta.bgetE4 Sta.bget5 Sta.bgetE5 Sta.bget6 Sta.bgetE6 Sta.bget7 Sta.bgetE7 Sta.bget8 Sta.bgetE8 Sta.bget9 Sta.bgetE9 Sta.bget10 Sta.bgetE10 Sta.bget11 Sta.bgetE11 Sta.bget12 Sta.bgetE12 Sta.bget13 Sta.bgetE13 Pl.get0 Pl.getE0 Pl.get1 Pl.getE1 Pl.get2 Pl.getE2 Pl.get3 Pl.getE3 Pl.get4 Pl.getE4
/-- Block p holds a writer with these bytes. -/
def WB (w : World) (p B : Nat) (l : List UInt8) : Prop := ∃ A c, rowAt w p = some (#[.slice A l.length c], 68) ∧ IsBy w A l ∧ (A = none → c = 0) ∧ (∀ x, A = some x → x.block ≠ p ∧ B ≤ x.block) ∧ l.length ≤ c
theorem WB.set {w : World} {p B : Nat} {r : List UInt8} {A : Option Addr} {c : Nat} {v0 : Value} (hr : rowAt w p = some (#[v0], 68)) (hI : IsBy w A r) (hn : A = none → c = 0) (hb : ∀ x, A = some x → x.block ≠ p ∧ B ≤ x.block) (hc : r.length ≤ c) :
    WB (w.setCell ⟨p, 0, none⟩ (.slice A r.length c)) p B r := by
  refine ⟨A, c, ?_, fun i hi => ?_, hn, hb, hc⟩
  · rw [rowAt_setCell, if_pos rfl, hr]; rfl
  · obtain ⟨b, o, h1, h2⟩ := hI i hi
    exact ⟨b, o, h1, Only.cell (Only.setCell _) (hb _ h1).1 h2⟩
theorem WB.alloc {w : World} {p B : Nat} {l : List UInt8} (h : WB w p B l) (o : Obj) : WB (w.alloc o) p B l := by
  obtain ⟨A, c, h1, h2, h3, h4, h5⟩ := h
  exact ⟨A, c, rowPast h1, h2.alloc o, h3, h4, h5⟩
theorem WB.below {w w' : World} {p B : Nat} {l : List UInt8} (h : WB w p B l) (hb : Below w.heap.size w w') : WB w' p B l := by
  obtain ⟨A, c, h1, h2, h3, h4, h5⟩ := h
  exact ⟨A, c, rowKeep hb h1, h2.below hb, h3, h4, h5⟩
theorem WB.empty {w : World} {p B : Nat} (h : rowAt w p = some (#[.slice none 0 0], 68)) : WB w p B [] := ⟨none, 0, h, IsBy.nil _ _, fun _ => rfl, fun _ h => (by cases h), Nat.le_refl _⟩
set_option maxHeartbeats 2000000 in
theorem wnums_ok (g p n B : Nat) (L : List Int) (l : List UInt8) (w : World) (hg : g ≠ p) (hn : n = L.length) (hL : ∀ k, k < L.length → w.cell? ⟨g, k, none⟩ = some (.int .i64 (L.getD k 0))) (hlen : l.length + 6 * L.length ≤ 70368744177664) (hp : WB w p B l) (hB : B ≤ w.heap.size) :
    Calls Tryz.prog 24 #[.pointer (some ⟨p, 0, none⟩), .slice (some ⟨g, 0, none⟩) n n] w fun e w' => e = .returned (.tuple #[]) ∧ WB w' p B (l ++ catB L) ∧ Only p w w' := by
  subst hn
  have HL := Lib.hid hL
  have HP := Lib.hid hp
  clear hL hp
  go_enter Tryz.func24, Tryz.ntmps24
  go_wp2_with fail
  go_loopw [8] (fun i w' => ∃ k : Nat, k ≤ L.length ∧ i = .int .i64 k ∧ WB w' p B (l ++ catB (L.take k)) ∧ Only p w w') (fun i _ => L.length - (intOf i).toNat)
  case atStart => exact ⟨0, Nat.zero_le _, rfl, by simpa [catB] using HP.out, Only.refl _ _⟩
  case round =>
    rename_i wr
    obtain ⟨k, hk, rfl, hpb, ho⟩ := hrel
    have HO := Lib.hid ho
    have HPB := Lib.hid hpb
    clear hpb ho
    by_cases hlt : k < L.length
    · have hc := HO.out.cell hg (HL.out k hlt)
      have hlk : (l ++ catB (L.take k)).length ≤ 70368744177664 := by
        have := catB_len (L.take k)
        rw [List.length_append]
        have h2 : (L.take k).length ≤ L.length := by simp; omega
        omega
      have HT : Hid (l ++ catB (L.take (k + 1)) = (l ++ catB (L.take k)) ++ numB (L.getD k 0)) := Lib.hid (by rw [catB_take hlt, ← List.append_assoc])
      have hpb := HPB.out
      obtain ⟨X, hX⟩ : ∃ X, l ++ catB (L.take k) = X := ⟨_, rfl⟩
      obtain ⟨x, hx⟩ : ∃ x, L.getD k 0 = x := ⟨_, rfl⟩
      rw [hx] at hc
      rw [hX, hx] at HT
      rw [hX] at hpb hlk
      obtain ⟨A, c, hr, hI, hN, hBB, hC⟩ := hpb
      have hc2 : wr.cell? ⟨p, 0, none⟩ = some (.slice A X.length c) := by rw [cell_of_rowAt hr]; rfl
      have HR := Lib.hid hr
      have HI := Lib.hid hI
      have HN := Lib.hid hN
      clear hr hI hN hBB hC HPB hX hx
      go_wp2_with fail
      refine (number_any A c X x _ HI.out HN.out hlk).mono ?_
      rintro e w1 ⟨v, rfl, hown, hb⟩
      obtain ⟨A', c', rfl, i1, i2, i3, i4⟩ := hown.isBy
      have hr1 := rowKeep hb HR.out
      have hf1 := frozen_of_rowAt hr1 0
      have hc3 : w1.cell? ⟨p, 0, none⟩ = some (.slice A X.length c) := by rw [cell_of_rowAt hr1]; rfl
      have hpl := rowAt_lt HR.out
      have HW1 : Hid (Only p w (w1.setCell ⟨p, 0, none⟩ (.slice A' (X ++ numB x).length c')) ∧ WB (w1.setCell ⟨p, 0, none⟩ (.slice A' (X ++ numB x).length c')) p B (X ++ numB x)) :=
        Lib.hid ⟨(HO.out.trans (Only.of_below hb (Nat.le_of_lt hpl))).trans (Only.setCell _), WB.set hr1 i1 i2 (fun x hx => by have := (i4 x hx).1; have := HO.out.1; omega) i3⟩
      clear hown hb i1 i2 i3 i4 hr1 HI HN HR
      go_wp2_with fail
      go_roundw
      case rel => exact ⟨k + 1, by omega, by go_num, by rw [HT.out, ← List.length_append]; exact HW1.out.2, by rw [← List.length_append]; exact HW1.out.1⟩
      case measure => simp [intOf]; omega
    · have hkk : k = L.length := by omega
      subst hkk
      have HE : Hid (WB wr p B (l ++ catB L)) := Lib.hid (by simpa using HPB.out)
      clear HPB
      go_wp2_with fail
      refine bodyPost_end (v := .tuple #[]) (by simp [results, show Tryz.f24.results = #[] from rfl]) rfl ?_
      exact ⟨rfl, HE.out, HO.out⟩

/-! The bytes of a want. -/
/-- The bytes of a plan. -/
def planW (q : Pl) : List UInt8 := catB [q.k, q.a, q.b] ++ (numB q.n.length ++ q.n) ++ (numB q.o.length ++ q.o)
set_option maxHeartbeats 4000000 in
theorem wplan_ok (p B : Nat) (q : Pl) (l : List UInt8) (w : World) (h : WB w p B l) (hB : B ≤ w.heap.size) (hqn : q.n.length ≤ 70368744177000) (hqo : q.o.length ≤ 70368744177000) (hlen : l.length + 100 + q.n.length ≤ 70368744170000) :
    Calls Tryz.prog 25 #[.pointer (some ⟨p, 0, none⟩), .agg q.cells] w fun e w' => e = .returned (.tuple #[]) ∧ WB w' p B (l ++ planW q) ∧ Only p w w' := by
  have HP := Lib.hid h
  have hpw : p < w.heap.size := by obtain ⟨_, _, h, _⟩ := h; exact rowAt_lt h
  clear h
  go_enter Tryz.func25, Tryz.ntmps25
  go_wp2_with fail
  refine (wnums_ok (w.heap.size + 1) p 3 B [q.k, q.a, q.b] l _ (by omega) rfl (cells_list (w.alloc (.cells q.cells 25)) _ _ rfl (by simp)) (by simp only [List.length_cons, List.length_nil]; omega) ((HP.out.alloc _).alloc _) (by simp; omega)).mono ?_
  rintro e W1 ⟨rfl, hpb, ho⟩
  have hr4 : rowAt W1 w.heap.size = some (q.cells, 25) := ho.row (by omega) (rowPast (rowAt_alloc_at _ _ _ _ rfl))
  have HON : Hid (Only p w W1) := Lib.hid ((Only.of_below (below_allocS (below_allocS (Below.refl _ _) _) _) (Nat.le_of_lt hpw)).trans ho)
  have HMW : Hid (l ++ planW q = l ++ catB [q.k, q.a, q.b] ++ (numB q.n.length ++ q.n) ++ (numB q.o.length ++ q.o)) := Lib.hid (by unfold planW; simp only [List.append_assoc])
  have hx : (l ++ catB [q.k, q.a, q.b]).length ≤ 70368744177000 := by
    have h2 := catB_len [q.k, q.a, q.b]
    simp only [List.length_cons, List.length_nil] at h2
    rw [List.length_append]; omega
  have hx2 : (l ++ catB [q.k, q.a, q.b] ++ (numB q.n.length ++ q.n)).length ≤ 70368744177000 := by
    have h2 := catB_len [q.k, q.a, q.b]
    have := numB_len q.n.length
    simp only [List.length_cons, List.length_nil] at h2
    simp only [List.length_append]; omega
  obtain ⟨X, hX⟩ : ∃ X, l ++ catB [q.k, q.a, q.b] = X := ⟨_, rfl⟩
  rw [hX] at hpb hx hx2 HMW
  clear hX ho HP
  obtain ⟨A0, c0, q1, q2, q3, q4, q5⟩ := hpb
  have HN0 := Lib.hid q3
  have hW1s : p < W1.heap.size := rowAt_lt q1
  have hBW : B ≤ W1.heap.size := by have := HON.out.1; omega
  clear q3 q4 q5
  obtain ⟨g, hg⟩ : ∃ g, w.heap.size = g := ⟨_, rfl⟩
  rw [hg] at hr4
  go_upto_region 2 with fail
  clear hg
  refine wp_region_late_drew (lt := [11, 12, 13]) (S := fun w' : World => rowAt w' p = some (#[.slice A0 X.length c0], 68) ∧ rowAt w' g = some (q.cells, 25) ∧ Hid (Below W1.heap.size W1 w')) (by kernel_rfl) ⟨q1, hr4, Lib.hid ((Below.refl _ _).drew)⟩ (fun hS => ?_)
  have HI0 := Lib.hid (q2.below (Below.refl W1.heap.size W1).drew)
  clear q2
  generalize W1.drew = W7 at *
  refine late_take (i := 0) (lt := [11, 12, 13]) (rd := [0, 1, 2, 3, 4, 5, 6, 8, 9]) (by simp only [List.getElem?_toArray, List.getElem?_cons_succ, List.getElem?_cons_zero]; rfl) (by decide +kernel) (by decide +kernel) (by decide +kernel) (by decide +kernel) (by decide +kernel) (by exact fun _ _ _ _ h => h) hS (by rfl) ?_
  apply Exists.intro
  refine ⟨fun w' hSw => ?_, ?_⟩
  · go_simp
    with_reducible rfl
  (try simp only [act_put, act_put_none, List.set_cons_zero, List.set_cons_succ])
  refine late_take (i := 1) (lt := [11, 12, 13]) (rd := [0, 1, 2, 3, 4, 5, 6, 8, 9]) (by simp only [List.getElem?_toArray, List.getElem?_cons_succ, List.getElem?_cons_zero]; rfl) (by decide +kernel) (by decide +kernel) (by decide +kernel) (by decide +kernel) (by decide +kernel) (by exact fun _ _ _ _ h => h) hS (by rfl) ?_
  apply Exists.intro
  refine ⟨fun w' hSw => ?_, ?_⟩
  · go_simp
    with_reducible rfl
  (try simp only [act_put, act_put_none, List.set_cons_zero, List.set_cons_succ])
  refine late_take (i := 2) (lt := [11, 12, 13]) (rd := [0, 1, 2, 3, 4, 5, 6, 8, 9]) (by simp only [List.getElem?_toArray, List.getElem?_cons_succ, List.getElem?_cons_zero]; rfl) (by decide +kernel) (by decide +kernel) (by decide +kernel) (by decide +kernel) (by decide +kernel) (by exact fun _ _ _ _ h => h) hS (by rfl) ?_
  apply Exists.intro
  refine ⟨fun w' hSw => ?_, ?_⟩
  · go_simp
    with_reducible rfl
  (try simp only [act_put, act_put_none, List.set_cons_zero, List.set_cons_succ])
  refine late_take (i := 3) (lt := [11, 12, 13]) (rd := [0, 1, 2, 3, 4, 5, 6, 8, 9]) (by simp only [List.getElem?_toArray, List.getElem?_cons_succ, List.getElem?_cons_zero]; rfl) (by decide +kernel) (by decide +kernel) (by decide +kernel) (by decide +kernel) (by decide +kernel) (by exact fun _ _ _ _ h => h) hS (by rfl) ?_
  apply Exists.intro
  refine ⟨fun w' hSw => ?_, ?_⟩
  · go_simp
    with_reducible rfl
  (try simp only [act_put, act_put_none, List.set_cons_zero, List.set_cons_succ])
  refine late_take (i := 4) (lt := [11, 12, 13]) (rd := [0, 1, 2, 3, 4, 5, 6, 8, 9]) (by simp only [List.getElem?_toArray, List.getElem?_cons_succ, List.getElem?_cons_zero]; rfl) (by decide +kernel) (by decide +kernel) (by decide +kernel) (by decide +kernel) (by decide +kernel) (by exact fun _ _ _ _ h => h) hS (by rfl) ?_
  apply Exists.intro
  refine ⟨fun w' hSw => ?_, ?_⟩
  · have q1 : w'.cell? ⟨p, 0, none⟩ = some (.slice A0 X.length c0) := by rw [cell_of_rowAt hSw.1]; rfl
    go_simp
    with_reducible rfl
  (try simp only [act_put, act_put_none, List.set_cons_zero, List.set_cons_succ])
  refine late_take (i := 5) (lt := [11, 12, 13]) (rd := [0, 1, 2, 3, 4, 5, 6, 8, 9]) (by simp only [List.getElem?_toArray, List.getElem?_cons_succ, List.getElem?_cons_zero]; rfl) (by decide +kernel) (by decide +kernel) (by decide +kernel) (by decide +kernel) (by decide +kernel) (by exact fun _ _ _ _ h => h) hS (by rfl) ?_
  apply Exists.intro
  refine ⟨fun w' hSw => ?_, ?_⟩
  · go_simp
    with_reducible rfl
  (try simp only [act_put, act_put_none, List.set_cons_zero, List.set_cons_succ])
  refine late_take (i := 6) (lt := [11, 12, 13]) (rd := [0, 1, 2, 3, 4, 5, 6, 8, 9]) (by simp only [List.getElem?_toArray, List.getElem?_cons_succ, List.getElem?_cons_zero]; rfl) (by decide +kernel) (by decide +kernel) (by decide +kernel) (by decide +kernel) (by decide +kernel) (by exact fun _ _ _ _ h => h) hS (by rfl) ?_
  apply Exists.intro
  refine ⟨fun w' hSw => ?_, ?_⟩
  · have q1 : w'.cell? ⟨g, 1, none⟩ = some (.string (strT q.n)) := by rw [cell_of_rowAt hSw.2.1, Pl.get1]
    go_simp
    with_reducible rfl
  (try simp only [act_put, act_put_none, List.set_cons_zero, List.set_cons_succ])
  refine late_take (i := 8) (lt := [11, 12, 13]) (rd := [0, 1, 2, 3, 4, 5, 6, 8, 9]) (by simp only [List.getElem?_toArray, List.getElem?_cons_succ, List.getElem?_cons_zero]; rfl) (by decide +kernel) (by decide +kernel) (by decide +kernel) (by decide +kernel) (by decide +kernel) (by exact fun _ _ _ _ h => h) hS (by rfl) ?_
  apply Exists.intro
  refine ⟨fun w' hSw => ?_, ?_⟩
  · go_simp
    with_reducible rfl
  (try simp only [act_put, act_put_none, List.set_cons_zero, List.set_cons_succ])
  refine late_take (i := 9) (lt := [11, 12, 13]) (rd := [0, 1, 2, 3, 4, 5, 6, 8, 9]) (by simp only [List.getElem?_toArray, List.getElem?_cons_succ, List.getElem?_cons_zero]; rfl) (by decide +kernel) (by decide +kernel) (by decide +kernel) (by decide +kernel) (by decide +kernel) (by exact fun _ _ _ _ h => h) hS (by rfl) ?_
  apply Exists.intro
  refine ⟨fun w' hSw => ?_, ?_⟩
  · have q1 : w'.cell? ⟨g, 2, none⟩ = some (.string (strT q.o)) := by rw [cell_of_rowAt hSw.2.1, Pl.get2]
    go_simp
    with_reducible rfl
  (try simp only [act_put, act_put_none, List.set_cons_zero, List.set_cons_succ])
  refine wpAnyR_ready (rs := [7]) (by decide +kernel) (by simp) ?_
  refine AllReadyR.cons (i := 7) (by simp only [List.getElem?_toArray, List.getElem?_cons_succ, List.getElem?_cons_zero]; rfl) (fun K hK => ?_) ?_
  · go_simp
    go_at_call 46
    refine (text_at A0 c0 X q.n W7 HI0.out HN0.out hx hqn rfl).mono ?_
    rintro e w6 ⟨va, rfl, hown, hb⟩
    generalize hY1 : X ++ (numB q.n.length ++ q.n) = Y1 at hown HMW hx2
    clear hY1
    obtain ⟨A1, c1, rfl, i1, i2, _, _⟩ := hown.isBy
    have HI1 := Lib.hid i1
    have HN1 := Lib.hid i2
    clear hown i1 i2
    go_simp
    refine hK.out _ _ ⟨rowKeep hb hS.1, rowKeep hb hS.2.1, Lib.hid (bthen hS.2.2.out hb)⟩ (fun hS2 => ?_)
    clear hS hK K hb
    have hS := hS2
    clear hS2
    (try simp only [act_put, act_put_none, List.set_cons_zero, List.set_cons_succ])
    refine wpAnyR_ready (rs := [10]) (by decide +kernel) (by simp) ?_
    refine AllReadyR.cons (i := 10) (by simp only [List.getElem?_toArray, List.getElem?_cons_succ, List.getElem?_cons_zero]; rfl) (fun K hK => ?_) ?_
    · go_simp
      go_at_call 46
      refine (text_at A1 c1 Y1 q.o w6 HI1.out HN1.out hx2 hqo rfl).mono ?_
      rintro e w7 ⟨vb, rfl, hown, hb⟩
      generalize hY2 : Y1 ++ (numB q.o.length ++ q.o) = Y2 at hown HMW
      clear hY2
      obtain ⟨A2, c2, rfl, i1, i2, i3, i4⟩ := hown.isBy
      have HI2 := Lib.hid i1
      have HN2 := Lib.hid i2
      have HC2 := Lib.hid i3
      have hs6 := hS.2.2.out.size
      have hg6 := rowAt_lt hS.1
      have HX2 : Hid (∀ x, A2 = some x → x.block ≠ p ∧ B ≤ x.block) := Lib.hid (fun x hx => by have := (i4 x hx).1; omega)
      clear hown i1 i2 i3 i4
      go_simp
      refine hK.out _ _ ⟨rowKeep hb hS.1, rowKeep hb hS.2.1, Lib.hid (bthen hS.2.2.out hb)⟩ (fun hS2 => ?_)
      clear hS hK K hb
      have hS := hS2
      clear hS2
      (try simp only [act_put, act_put_none, List.set_cons_zero, List.set_cons_succ])
      refine wpAnyR_ready (rs := [11]) (by decide +kernel) (by simp) ?_
      refine AllReadyR.last (i := 11) (by simp only [List.getElem?_toArray, List.getElem?_cons_succ, List.getElem?_cons_zero]; rfl) (by decide) (fun K hK => ?_) ?_
      · go_simp
        refine hK.out _ _ ?_
        clear hK K
        (try simp only [act_put, act_put_none, List.set_cons_zero, List.set_cons_succ])
        refine wpAnyR_ready (rs := [12]) (by decide +kernel) (by simp) ?_
        refine AllReadyR.last (i := 12) (by simp only [List.getElem?_toArray, List.getElem?_cons_succ, List.getElem?_cons_zero]; rfl) (by decide) (fun K hK => ?_) ?_
        · go_simp
          refine hK.out _ _ ?_
          clear hK K
          (try simp only [act_put, act_put_none, List.set_cons_zero, List.set_cons_succ])
          refine wpAnyR_ready (rs := [13]) (by decide +kernel) (by simp) ?_
          refine AllReadyR.last (i := 13) (by simp only [List.getElem?_toArray, List.getElem?_cons_succ, List.getElem?_cons_zero]; rfl) (by decide) (fun K hK => ?_) ?_
          · have fz := frozen_of_rowAt hS.1 0
            have z1 : w7.cell? ⟨p, 0, none⟩ = some (.slice A0 X.length c0) := by rw [cell_of_rowAt hS.1]; rfl
            go_simp
            refine hK.out _ _ ?_
            clear hK K
            (try simp only [act_put, act_put_none, List.set_cons_zero, List.set_cons_succ])
            refine wpAnyR_done (by decide +kernel) ?_ _
            go_wp2_with fail
            refine bodyPost_end (v := .tuple #[]) (by simp [results, show Tryz.f25.results = #[] from rfl]) rfl ?_
            exact ⟨rfl, by rw [HMW.out]; exact WB.set hS.1 HI2.out HN2.out HX2.out HC2.out, (HON.out.trans (Only.of_below hS.2.2.out (Nat.le_of_lt hW1s))).trans (Only.setCell _)⟩
          exact AllReadyR.nil
        exact AllReadyR.nil
      exact AllReadyR.nil
    exact AllReadyR.nil
  exact AllReadyR.nil
end Go.Proofs.YtinhaipnmmgplaaGreat

/-
  Layer 17 (state): the writer's fields.
-/
namespace Go.Proofs.YtinhaipnmmgplaaGreat
set_option maxRecDepth 20000
open Go.RowKit
set_option linter.unusedSimpArgs false
set_option linter.unusedVariables false
attribute [local go_sem] rowCells rowAt_drewN get_ints getE_ints set_ints size_ints rowAt_alloc rowAt_drew setRow_alloc setRow_drewN setRow_drew setCell_alloc setCell_drewN splice_upd splice_put splice_all load_vec_cut load_vecs_cut load_rights_cut load_counter store_vec store_rights store_counter eql_vec neq_vec index_vec eql_rights neq_rights eql_counter index_vecs cut_ints sub_zero
attribute [local go_sem ↓] xload_vec xstore_vec xalloc_vec xeql_vec xneq_vec xindex_vec xbuild_vec0 xload_rights xstore_rights xalloc_rights xeql_rights xneq_rights xbuild_rights0 xload_vecs xindex_vecs xload_counter xstore_counter xalloc_counter xbuild_counter0 xeql_counter xbuild_counter3
attribute [local go_sem] rowAt_setRow rowAt_setCell load_vec_cut_later load_rights_later load_counter_later Later.cell Later.frozen build3_ints
attribute [local go_sem ↓] xload_field xstore_field xalloc_field xload_lock
attribute [local go_sem] load_field load_field_later store_field load_counter_cut load_lock_cut load_lock_later Fld.size Fld.get0 Fld.get1 Fld.get2 Fld.get586 Fld.getE0 Fld.getE1 Fld.getE2 Fld.getE586 Fld.cut_cnt Fld.cut_lock Fld.cut_all Fld.splice_all strT_size

attribute [local go_sem ↓] xload_hold xstore_hold xalloc_hold
attribute [local go_sem] load_hold load_hold_later store_hold
attribute [local go_sem ↓] xbuild_lock0 xeql_lock xneq_lock xneq_counter
attribute [local go_sem] eql_lock neq_lock neq_counter

attribute [local go_sem] zero_field
attribute [local go_sem] resC_size resC_all resC_splice resC_set0 resC_set1 Fld.set2 Fld.set586
attribute [local go_sem ↓] xbuildS_field
attribute [local go_sem] buildSF_agg
attribute [local go_sem ↓] xstore_sta xload_sta xalloc_sta xbuild_sta0 xstore_bar xload_bar xalloc_bar xbuild_bar0 xstore_plan xload_plan xalloc_plan xbuild_plan0
attribute [local go_sem] load_sta load_sta_later store_sta load_bar load_bar_later store_bar load_plan load_plan_later store_plan
attribute [local go_sem] Sta.size Sta.bsize Pl.size Sta.cut_all Sta.cut_p Sta.cut_bar Sta.cut_bp Sta.bcut_all Sta.bcut_p Pl.cut_all Sta.splice_all Sta.bsplice_all Pl.splice_all Sta.splice_bar
attribute [local go_sem] Sta.get0 Sta.getE0 Sta.set0 Sta.get1 Sta.getE1 Sta.set1 Sta.get2 Sta.getE2 Sta.set2 Sta.get3 Sta.getE3 Sta.set3 Sta.get4 Sta.getE4 Sta.set4 Sta.get5 Sta.getE5 Sta.set5 Sta.get6 Sta.getE6 Sta.set6 Sta.get7 Sta.getE7 Sta.set7 Sta.get8 Sta.getE8 Sta.set8 Sta.get9 Sta.getE9 Sta.set9 Sta.get10 Sta.getE10 Sta.set10 Sta.get11 Sta.getE11 Sta.set11 Sta.get12 Sta.getE12 Sta.set12 Sta.get13 Sta.getE13 Sta.set13 Sta.get14 Sta.getE14 Sta.set14 Sta.get15 Sta.getE15 Sta.set15 Sta.get16 Sta.getE16 Sta.set16 Sta.get17 Sta.getE17 Sta.set17 Sta.get18 Sta.getE18 Sta.set18 Sta.get19 Sta.getE19 Sta.set19 Sta.get20 Sta.getE20 Sta.set20 Sta.get21 Sta.getE21 Sta.set21 Sta.get22 Sta.getE22 Sta.set22 Sta.get23 Sta.getE23 Sta.set23 Sta.get24 Sta.getE24 Sta.set24
attribute [local go_sem] Sta.bget0 Sta.bgetE0 Sta.bget1 Sta.bgetE1 Sta.bget2 Sta.bgetE2 Sta.bget3 Sta.bgetE3 Sta.bget4 Sta.bgetE4 Sta.bget5 Sta.bgetE5 Sta.bget6 Sta.bgetE6 Sta.bget7 Sta.bgetE7 Sta.bget8 Sta.bgetE8 Sta.bget9 Sta.bgetE9 Sta.bget10 Sta.bgetE10 Sta.bget11 Sta.bgetE11 Sta.bget12 Sta.bgetE12 Sta.bget13 Sta.bgetE13 Pl.get0 Pl.getE0 Pl.get1 Pl.getE1 Pl.get2 Pl.getE2 Pl.get3 Pl.getE3 Pl.get4 Pl.getE4

theorem say3 {F : Fld} (h : rightF F = true) : sayB 3 F = true := by
  unfold sayB saysB
  rw [h]
  simp [isV]
theorem fldsB_right {n : Nat} {L : Nat → Fld} (h : fldsB n L = true) : n ≤ 4 ∧ ∀ i, i < n → rightF (L i) = true := by
  simp only [fldsB, Bool.and_eq_true, decide_eq_true_eq] at h
  refine ⟨h.2, fun i hi => ?_⟩
  have h1 := List.all_eq_true.1 h.1 i (List.mem_range.2 hi)
  cases i <;> simp_all [fldAt]
/-- The bytes of fields. -/
def fieldsW (F : FS) : List UInt8 := numB F.n ++ fldsW 3 F.l F.n
theorem fieldsW_len {F : FS} (h : fldsB F.n F.l = true) : (fieldsW F).length ≤ 30000 := by
  obtain ⟨h1, h2⟩ := fldsB_right h
  have h3 := numB_len F.n
  have h4 := fldsW_len (v := 3) (L := F.l) F.n h2
  unfold fieldsW
  rw [List.length_append]
  omega
set_option maxHeartbeats 4000000 in
theorem wfields_ok (p B : Nat) (F : FS) (l : List UInt8) {w0 : World} (w : World) (h : WB w p B l) (hB : B ≤ w.heap.size) (hF : FSOk w0 F) (hb0 : Below w0.heap.size w0 w) (hp0 : w0.heap.size ≤ p) (hs : fldsB F.n F.l = true) (hlen : l.length ≤ 1000000000) :
    Calls Tryz.prog 26 #[.pointer (some ⟨p, 0, none⟩), .slice F.A F.n F.c] w fun e w' => e = .returned (.tuple #[]) ∧ WB w' p B (l ++ fieldsW F) ∧ Only p w w' := by
  have HP := Lib.hid h
  have hpw : p < w.heap.size := by obtain ⟨_, _, h, _⟩ := h; exact rowAt_lt h
  obtain ⟨hn4, hrt⟩ := fldsB_right hs
  have HRT := Lib.hid hrt
  have HFI := Lib.hid hF.is
  have HB0 := Lib.hid hb0
  obtain ⟨A, n, c, L⟩ := F
  dsimp only at *
  have HE : Hid (fieldsW ⟨A, n, c, L⟩ = numB n ++ fldsW 3 L n) := Lib.hid rfl
  obtain ⟨FW, hFW⟩ : ∃ FW, fieldsW ⟨A, n, c, L⟩ = FW := ⟨_, rfl⟩
  rw [hFW] at HE ⊢
  clear h hF hb0 hs hrt hFW
  go_enter Tryz.func26, Tryz.ntmps26
  go_wp2_with fail
  refine (wnums_ok w.heap.size p 1 B [(n : Int)] l _ (by omega) rfl (cells_list w _ _ rfl rfl) (by simp only [List.length_cons, List.length_nil]; omega) (HP.out.alloc _) (by simp; omega)).mono ?_
  rintro e w1 ⟨rfl, hpb, ho⟩
  have HP1 : Hid (WB w1 p B (l ++ numB n ++ fldsW 3 L 0)) := Lib.hid (by rw [fldsW, List.append_nil]; simpa [catB] using hpb)
  have HO1 : Hid (Only p w w1) := Lib.hid ((Only.of_below (below_allocS (Below.refl _ _) _) (Nat.le_of_lt hpw)).trans ho)
  clear hpb ho HP
  go_wp2_with fail
  go_loopw [15] (fun i w' => ∃ k : Nat, k ≤ n ∧ i = .int .i64 k ∧ WB w' p B (l ++ numB n ++ fldsW 3 L k) ∧ Only p w w') (fun i _ => n - (intOf i).toNat)
  case atStart => exact ⟨0, Nat.zero_le _, rfl, HP1.out, HO1.out⟩
  case round =>
    rename World => wr
    obtain ⟨k, hk, rfl, hpb, ho⟩ := hrel
    have HPB := Lib.hid hpb
    have HO := Lib.hid ho
    have hXL : (l ++ numB n ++ fldsW 3 L k).length ≤ 70368744170000 := by
      have h1 := numB_len n
      have h2 := fldsW_len (v := 3) (L := L) k fun i hi => HRT.out i (by omega)
      simp only [List.length_append]; omega
    have HXL := Lib.hid (Nat.le_trans hXL (show 70368744170000 ≤ 70368744177000 by decide))
    clear HP1 HO1 hXL
    have hpr : p < wr.heap.size := Nat.lt_of_lt_of_le hpw ho.1
    by_cases hlt : k < n
    · have hb : Below w0.heap.size w0 wr := HB0.out.trans (ho.2.1.mono hp0)
      obtain ⟨b, o, hA, hlb, hnm, hl⟩ := (HFI.out.below hb).at_ hlt
      have hl1 := hl wr (Below.refl _ _)
      have HK := Lib.hid ((HFI.out.below hb).ok k hlt)
      have HS : Hid (l ++ numB n ++ fldsW 3 L (k + 1) = (l ++ numB n ++ fldsW 3 L k) ++ txtW (fldW 3 (L k))) := Lib.hid (by rw [fldsW]; simp only [List.append_assoc])
      have HSK := Lib.hid (say3 (HRT.out k hlt))
      have HTL := Lib.hid (Nat.le_trans (fldW_len (v := 3) (HRT.out k hlt)) (show 5000 ≤ 70368744177000 by decide))
      generalize L k = G at *
      rw [hA]
      clear hl hb hA hnm hpb ho
      go_wp2_with fail
      refine (wencode_ok 3 G _ HSK.out (HK.out.below ((Below.refl _ _).alloc (Nat.le_refl _) _))).mono ?_
      rintro e w4 ⟨u4, rfl, hown, hb⟩
      obtain ⟨A4, c4, rfl, i1, i2, i3, i4⟩ := hown.isBy
      have hb4 := bthen (below_allocS (Below.refl _ _) _) hb
      have hp4' := HPB.out.below hb4
      have HON4 := Lib.hid (HO.out.trans (Only.of_below hb4 (Nat.le_of_lt hpr)))
      have HI4 := Lib.hid i1
      generalize hX : l ++ numB n ++ fldsW 3 L k = X at *
      have HX := Lib.hid hX
      obtain ⟨A0, c0, hrp, j1, j2, j3, j4⟩ := hp4'
      have HRP := Lib.hid hrp
      have HJ1 := Lib.hid j1
      have HN0 := Lib.hid j2
      have hp4 : p < w4.heap.size := rowAt_lt hrp
      have hB4 : B ≤ w4.heap.size := by have := HON4.out.1; omega
      clear hown hb i1 i2 i3 i4 hb4 hX hrp j1 j2 j3 j4 HPB HO hl1 HK HSK
      go_upto_region 5 with fail
      refine wp_region_late_drew (lt := [8, 9, 10]) (S := fun w' : World => rowAt w' p = some (#[.slice A0 X.length c0], 68) ∧ Hid (Below w4.heap.size w4 w')) (by kernel_rfl) ⟨HRP.out, Lib.hid ((Below.refl _ _).drew)⟩ (fun hS => ?_)
      have HI0 := Lib.hid (HJ1.out.below (Below.refl w4.heap.size w4).drew)
      clear HJ1
      generalize w4.drew = W7 at *
      refine late_take (i := 0) (lt := [8, 9, 10]) (rd := [0, 1, 2, 3, 4, 5, 6]) (by simp only [List.getElem?_toArray, List.getElem?_cons_succ, List.getElem?_cons_zero]; rfl) (by decide +kernel) (by decide +kernel) (by decide +kernel) (by decide +kernel) (by decide +kernel) (by exact fun _ _ _ _ h => h) hS (by rfl) ?_
      apply Exists.intro
      refine ⟨fun w' hSw => ?_, ?_⟩
      · go_simp
        with_reducible rfl
      (try simp only [act_put, act_put_none, List.set_cons_zero, List.set_cons_succ])
      refine late_take (i := 1) (lt := [8, 9, 10]) (rd := [0, 1, 2, 3, 4, 5, 6]) (by simp only [List.getElem?_toArray, List.getElem?_cons_succ, List.getElem?_cons_zero]; rfl) (by decide +kernel) (by decide +kernel) (by decide +kernel) (by decide +kernel) (by decide +kernel) (by exact fun _ _ _ _ h => h) hS (by rfl) ?_
      apply Exists.intro
      refine ⟨fun w' hSw => ?_, ?_⟩
      · go_simp
        with_reducible rfl
      (try simp only [act_put, act_put_none, List.set_cons_zero, List.set_cons_succ])
      refine late_take (i := 2) (lt := [8, 9, 10]) (rd := [0, 1, 2, 3, 4, 5, 6]) (by simp only [List.getElem?_toArray, List.getElem?_cons_succ, List.getElem?_cons_zero]; rfl) (by decide +kernel) (by decide +kernel) (by decide +kernel) (by decide +kernel) (by decide +kernel) (by exact fun _ _ _ _ h => h) hS (by rfl) ?_
      apply Exists.intro
      refine ⟨fun w' hSw => ?_, ?_⟩
      · go_simp
        with_reducible rfl
      (try simp only [act_put, act_put_none, List.set_cons_zero, List.set_cons_succ])
      refine late_take (i := 3) (lt := [8, 9, 10]) (rd := [0, 1, 2, 3, 4, 5, 6]) (by simp only [List.getElem?_toArray, List.getElem?_cons_succ, List.getElem?_cons_zero]; rfl) (by decide +kernel) (by decide +kernel) (by decide +kernel) (by decide +kernel) (by decide +kernel) (by exact fun _ _ _ _ h => h) hS (by rfl) ?_
      apply Exists.intro
      refine ⟨fun w' hSw => ?_, ?_⟩
      · go_simp
        with_reducible rfl
      (try simp only [act_put, act_put_none, List.set_cons_zero, List.set_cons_succ])
      refine late_take (i := 4) (lt := [8, 9, 10]) (rd := [0, 1, 2, 3, 4, 5, 6]) (by simp only [List.getElem?_toArray, List.getElem?_cons_succ, List.getElem?_cons_zero]; rfl) (by decide +kernel) (by decide +kernel) (by decide +kernel) (by decide +kernel) (by decide +kernel) (by exact fun _ _ _ _ h => h) hS (by rfl) ?_
      apply Exists.intro
      refine ⟨fun w' hSw => ?_, ?_⟩
      · have q1 : w'.cell? ⟨p, 0, none⟩ = some (.slice A0 X.length c0) := by rw [cell_of_rowAt hSw.1]; rfl
        go_simp
        with_reducible rfl
      (try simp only [act_put, act_put_none, List.set_cons_zero, List.set_cons_succ])
      refine late_take (i := 5) (lt := [8, 9, 10]) (rd := [0, 1, 2, 3, 4, 5, 6]) (by simp only [List.getElem?_toArray, List.getElem?_cons_succ, List.getElem?_cons_zero]; rfl) (by decide +kernel) (by decide +kernel) (by decide +kernel) (by decide +kernel) (by decide +kernel) (by exact fun _ _ _ _ h => h) hS (by rfl) ?_
      apply Exists.intro
      refine ⟨fun w' hSw => ?_, ?_⟩
      · go_simp
        with_reducible rfl
      (try simp only [act_put, act_put_none, List.set_cons_zero, List.set_cons_succ])
      refine late_take (i := 6) (lt := [8, 9, 10]) (rd := [0, 1, 2, 3, 4, 5, 6]) (by simp only [List.getElem?_toArray, List.getElem?_cons_succ, List.getElem?_cons_zero]; rfl) (by decide +kernel) (by decide +kernel) (by decide +kernel) (by decide +kernel) (by decide +kernel) (by exact fun _ _ _ _ h => h) hS (by rfl) ?_
      apply Exists.intro
      refine ⟨fun w' hSw => ?_, ?_⟩
      · have hcv : (convert 39 9 (.slice A4 (fldW 3 G).length c4)).run Tryz.prog w' = .ok (.string (strB (fldW 3 G))) w' := conv_bytes (HI4.out.below hSw.2.out)
        go_simp
        with_reducible rfl
      (try simp only [act_put, act_put_none, List.set_cons_zero, List.set_cons_succ])
      refine wpAnyR_ready (rs := [7]) (by decide +kernel) (by simp) ?_
      refine AllReadyR.cons (i := 7) (by simp only [List.getElem?_toArray, List.getElem?_cons_succ, List.getElem?_cons_zero]; rfl) (fun K hK => ?_) ?_
      · go_simp
        go_at_call 46
        refine (text_any A0 c0 X (fldW 3 G) _ HI0.out HN0.out HXL.out HTL.out).mono ?_
        rintro e w6 ⟨va, rfl, hown, hb⟩
        generalize hY1 : X ++ (numB (fldW 3 G).length ++ fldW 3 G) = Y1 at *
        have HY := Lib.hid hY1
        clear hY1
        obtain ⟨A2, c2, rfl, i1, i2, i3, i4⟩ := hown.isBy
        have HI2 := Lib.hid i1
        have HN2 := Lib.hid i2
        have HC2 := Lib.hid i3
        have hs6 := hS.2.out.size
        have hg6 := rowAt_lt hS.1
        have HX2 : Hid (∀ x, A2 = some x → x.block ≠ p ∧ B ≤ x.block) := Lib.hid (fun x hx => by have := (i4 x hx).1; omega)
        clear hown i1 i2 i3 i4
        go_simp
        refine hK.out _ _ ⟨rowKeep hb hS.1, Lib.hid (bthen hS.2.out hb)⟩ (fun hS2 => ?_)
        clear hS hK K hb
        have hS := hS2
        clear hS2
        (try simp only [act_put, act_put_none, List.set_cons_zero, List.set_cons_succ])
        refine wpAnyR_ready (rs := [8]) (by decide +kernel) (by simp) ?_
        refine AllReadyR.last (i := 8) (by simp only [List.getElem?_toArray, List.getElem?_cons_succ, List.getElem?_cons_zero]; rfl) (by decide) (fun K hK => ?_) ?_
        · go_simp
          refine hK.out _ _ ?_
          clear hK K
          (try simp only [act_put, act_put_none, List.set_cons_zero, List.set_cons_succ])
          refine wpAnyR_ready (rs := [9]) (by decide +kernel) (by simp) ?_
          refine AllReadyR.last (i := 9) (by simp only [List.getElem?_toArray, List.getElem?_cons_succ, List.getElem?_cons_zero]; rfl) (by decide) (fun K hK => ?_) ?_
          · go_simp
            refine hK.out _ _ ?_
            clear hK K
            (try simp only [act_put, act_put_none, List.set_cons_zero, List.set_cons_succ])
            refine wpAnyR_ready (rs := [10]) (by decide +kernel) (by simp) ?_
            refine AllReadyR.last (i := 10) (by simp only [List.getElem?_toArray, List.getElem?_cons_succ, List.getElem?_cons_zero]; rfl) (by decide) (fun K hK => ?_) ?_
            · have fz := frozen_of_rowAt hS.1 0
              have z1 : w6.cell? ⟨p, 0, none⟩ = some (.slice A0 X.length c0) := by rw [cell_of_rowAt hS.1]; rfl
              go_simp
              refine hK.out _ _ ?_
              clear hK K
              (try simp only [act_put, act_put_none, List.set_cons_zero, List.set_cons_succ])
              refine wpAnyR_done (by decide +kernel) ?_ _
              have HFW : Hid (WB (w6.setCell ⟨p, 0, none⟩ (.slice A2 Y1.length c2)) p B Y1 ∧ Only p w (w6.setCell ⟨p, 0, none⟩ (.slice A2 Y1.length c2))) := Lib.hid ⟨WB.set hS.1 HI2.out HN2.out HX2.out HC2.out, (HON4.out.trans (Only.of_below hS.2.out (Nat.le_of_lt hp4))).trans (Only.setCell _)⟩
              clear HI2 HN2 HX2 HC2 hS
              go_wp2_with fail
              go_roundw
              case rel => exact ⟨k + 1, by omega, by go_num, by rw [HS.out, txtW, HY.out]; exact HFW.out.1, HFW.out.2⟩
              case measure => simp [intOf]; omega
            exact AllReadyR.nil
          exact AllReadyR.nil
        exact AllReadyR.nil
      exact AllReadyR.nil
    · obtain rfl : k = n := by omega
      have HFN : Hid (WB wr p B (l ++ FW)) := Lib.hid (by rw [HE.out, ← List.append_assoc]; exact hpb)
      clear hpb ho HPB
      go_wp2_with fail
      refine bodyPost_end (v := .tuple #[]) (by simp [results, show Tryz.f26.results = #[] from rfl]) rfl ?_
      exact ⟨rfl, HFN.out, HO.out⟩
end Go.Proofs.YtinhaipnmmgplaaGreat

/-
  Layer 17 (state): Encode.
-/
namespace Go.Proofs.YtinhaipnmmgplaaGreat
set_option maxRecDepth 20000
open Go.RowKit
set_option linter.unusedSimpArgs false
set_option linter.unusedVariables false
attribute [local go_sem] rowCells rowAt_drewN get_ints getE_ints set_ints size_ints rowAt_alloc rowAt_drew setRow_alloc setRow_drewN setRow_drew setCell_alloc setCell_drewN splice_upd splice_put splice_all load_vec_cut load_vecs_cut load_rights_cut load_counter store_vec store_rights store_counter eql_vec neq_vec index_vec eql_rights neq_rights eql_counter index_vecs cut_ints sub_zero
attribute [local go_sem ↓] xload_vec xstore_vec xalloc_vec xeql_vec xneq_vec xindex_vec xbuild_vec0 xload_rights xstore_rights xalloc_rights xeql_rights xneq_rights xbuild_rights0 xload_vecs xindex_vecs xload_counter xstore_counter xalloc_counter xbuild_counter0 xeql_counter xbuild_counter3
attribute [local go_sem] rowAt_setRow rowAt_setCell load_vec_cut_later load_rights_later load_counter_later Later.cell Later.frozen build3_ints
attribute [local go_sem ↓] xload_field xstore_field xalloc_field xload_lock
attribute [local go_sem] load_field load_field_later store_field load_counter_cut load_lock_cut load_lock_later Fld.size Fld.get0 Fld.get1 Fld.get2 Fld.get586 Fld.getE0 Fld.getE1 Fld.getE2 Fld.getE586 Fld.cut_cnt Fld.cut_lock Fld.cut_all Fld.splice_all strT_size

attribute [local go_sem ↓] xload_hold xstore_hold xalloc_hold
attribute [local go_sem] load_hold load_hold_later store_hold
attribute [local go_sem ↓] xbuild_lock0 xeql_lock xneq_lock xneq_counter
attribute [local go_sem] eql_lock neq_lock neq_counter

attribute [local go_sem] zero_field
attribute [local go_sem] resC_size resC_all resC_splice resC_set0 resC_set1 Fld.set2 Fld.set586
attribute [local go_sem ↓] xbuildS_field
attribute [local go_sem] buildSF_agg
attribute [local go_sem ↓] xstore_sta xload_sta xalloc_sta xbuild_sta0 xstore_bar xload_bar xalloc_bar xbuild_bar0 xstore_plan xload_plan xalloc_plan xbuild_plan0
attribute [local go_sem] load_sta load_sta_later store_sta load_bar load_bar_later store_bar load_plan load_plan_later store_plan
attribute [local go_sem] Sta.size Sta.bsize Pl.size Sta.cut_all Sta.cut_p Sta.cut_bar Sta.cut_bp Sta.bcut_all Sta.bcut_p Pl.cut_all Sta.splice_all Sta.bsplice_all Pl.splice_all Sta.splice_bar
attribute [local go_sem] Sta.get0 Sta.getE0 Sta.set0 Sta.get1 Sta.getE1 Sta.set1 Sta.get2 Sta.getE2 Sta.set2 Sta.get3 Sta.getE3 Sta.set3 Sta.get4 Sta.getE4 Sta.set4 Sta.get5 Sta.getE5 Sta.set5 Sta.get6 Sta.getE6 Sta.set6 Sta.get7 Sta.getE7 Sta.set7 Sta.get8 Sta.getE8 Sta.set8 Sta.get9 Sta.getE9 Sta.set9 Sta.get10 Sta.getE10 Sta.set10 Sta.get11 Sta.getE11 Sta.set11 Sta.get12 Sta.getE12 Sta.set12 Sta.get13 Sta.getE13 Sta.set13 Sta.get14 Sta.getE14 Sta.set14 Sta.get15 Sta.getE15 Sta.set15 Sta.get16 Sta.getE16 Sta.set16 Sta.get17 Sta.getE17 Sta.set17 Sta.get18 Sta.getE18 Sta.set18 Sta.get19 Sta.getE19 Sta.set19 Sta.get20 Sta.getE20 Sta.set20 Sta.get21 Sta.getE21 Sta.set21 Sta.get22 Sta.getE22 Sta.set22 Sta.get23 Sta.getE23 Sta.set23 Sta.get24 Sta.getE24 Sta.set24
attribute [local go_sem] Sta.bget0 Sta.bgetE0 Sta.bget1 Sta.bgetE1 Sta.bget2 Sta.bgetE2 Sta.bget3 Sta.bgetE3 Sta.bget4 Sta.bgetE4 Sta.bget5 Sta.bgetE5 Sta.bget6 Sta.bgetE6 Sta.bget7 Sta.bgetE7 Sta.bget8 Sta.bgetE8 Sta.bget9 Sta.bgetE9 Sta.bget10 Sta.bgetE10 Sta.bget11 Sta.bgetE11 Sta.bget12 Sta.bgetE12 Sta.bget13 Sta.bgetE13 Pl.get0 Pl.getE0 Pl.get1 Pl.getE1 Pl.get2 Pl.getE2 Pl.get3 Pl.getE3 Pl.get4 Pl.getE4

def barW (s : Sta) : List UInt8 := catB [s.bst, s.bnum, s.bep, s.due, s.ack, s.told] ++ planW s.bp ++ fieldsW s.j ++ fieldsW s.m
/-- The bytes of a state. -/
def staW (s : Sta) : List UInt8 := catB [s.self, s.nn, s.clk, s.dec, s.frz] ++ planW s.p ++ fieldsW s.f ++ (if s.self = 0 then barW s else [])
theorem maybe_names {p : Pl} {is : Bool} (h : maybeB p is = true) : p.n.length ≤ 8 ∧ p.o.length ≤ 8 := by
  unfold maybeB at h
  split at h
  · exact plan_names h
  · rw [zeroPl_is h]; exact ⟨by decide, by decide⟩
theorem planW_len {q : Pl} (h : q.n.length ≤ 8 ∧ q.o.length ≤ 8) : (planW q).length ≤ 100 := by
  have h1 := catB_len [q.k, q.a, q.b]
  have h2 := numB_len q.n.length
  have h3 := numB_len q.o.length
  simp only [List.length_cons, List.length_nil] at h1
  unfold planW
  simp only [List.length_append]
  omega
theorem rightS_parts {s : Sta} (h : rightS s = true) : maybeB s.p (decide (0 < s.frz)) = true ∧ fldsB s.f.n s.f.l = true ∧ (s.self = 0 → ledB s s.nn = true) ∧ (¬ s.self = 0 → noBar s = true) := by
  simp only [rightS, Bool.and_eq_true] at h
  refine ⟨h.1.1.2, h.1.2, fun h0 => ?_, fun h0 => ?_⟩
  · have := h.2; rwa [if_pos h0] at this
  · have := h.2; rwa [if_neg h0] at this
theorem led_parts {s : Sta} {n : Int} (h : ledB s n = true) : maybeB s.bp (s.bst != 0) = true ∧ fldsB s.j.n s.j.l = true ∧ fldsB s.m.n s.m.l = true := by
  simp only [ledB, Bool.and_eq_true] at h
  exact ⟨h.1.1.2, h.1.2, h.2⟩
theorem sright_is {s : Sta} {b : Bool} (e : rightS s = b) {w : World} (h : StaOk w s) (hj : s.j.n ≤ 1000000) (hm : s.m.n ≤ 1000000) : Calls Tryz.prog 9 #[.agg s.cells] w fun e w' => e = .returned (.bool b) ∧ Below w.heap.size w w' := by rw [← e]; exact sright_any s w h hj hm
theorem sencode_no (s : Sta) (w : World) (hr : rightS s = false) (h : StaOk w s) (hj : s.j.n ≤ 1000000) (hm : s.m.n ≤ 1000000) :
    Calls Tryz.prog 11 #[.agg s.cells] w fun e w' => e = .returned (.tuple #[.slice none 0 0, .int .i64 1]) ∧ Below w.heap.size w w' := by
  have HM := Lib.hid h
  have C1 := Lib.hid (fun (w' : World) (h : StaOk w' s) => sright_is hr h hj hm)
  clear hr h
  go_enter Tryz.func11, Tryz.ntmps11
  go_wp2_with fail
  refine (C1.out _ (HM.out.below ((Below.refl _ _).alloc (Nat.le_refl _) _))).mono ?_
  rintro e w1 ⟨rfl, hb⟩
  have HB := Lib.hid (bthen (below_allocS (Below.refl _ _) _) hb)
  clear hb
  go_wp2_with fail
  go_ret2
  exact ⟨rfl, HB.out⟩
set_option maxHeartbeats 8000000 in
theorem sencode_ok (s : Sta) (w : World) (hr : rightS s = true) (h : StaOk w s) (hj : s.j.n ≤ 1000000) (hm : s.m.n ≤ 1000000) :
    Calls Tryz.prog 11 #[.agg s.cells] w fun e w' => ∃ A c, e = .returned (.tuple #[.slice A (staW s).length c, .int .i64 0]) ∧ IsBy w' A (staW s) ∧ (A = none → c = 0) ∧ (∀ x, A = some x → w.heap.size ≤ x.block) ∧ (staW s).length ≤ c ∧ Below w.heap.size w w' := by
  obtain ⟨hp1, hp2, hp3, hp4⟩ := rightS_parts hr
  have hnp := maybe_names hp1
  have LP := planW_len hnp
  have LF := fieldsW_len hp2
  have HF2 := Lib.hid hp2
  have HL3 := Lib.hid hp3
  have HM := Lib.hid h
  have C1 := Lib.hid (fun (w' : World) (h : StaOk w' s) => sright_is hr h hj hm)
  clear hr h hp1 hp2 hp3 hp4
  go_enter Tryz.func11, Tryz.ntmps11
  go_wp2_with fail
  refine (C1.out _ (HM.out.below ((Below.refl _ _).alloc (Nat.le_refl _) _))).mono ?_
  rintro e w1 ⟨rfl, hb⟩
  obtain ⟨g, hg⟩ : ∃ g, w.heap.size = g := ⟨_, rfl⟩
  have r1 : rowAt w1 g = some (s.cells, 30) := by rw [← hg]; exact rowKeep hb (rowAt_alloc_at _ _ _ _ rfl)
  have HB1 := Lib.hid (bthen (below_allocS (Below.refl _ _) _) hb)
  have n1 := rowAt_lt r1
  clear C1
  go_upto_region 4 with fail
  have r2 : rowAt (w1.alloc (.cells #[.slice none 0 0] 68)) g = some (s.cells, 30) := rowPast r1
  have hw2 : WB (w1.alloc (.cells #[.slice none 0 0] 68)) w1.heap.size w.heap.size [] := WB.empty (rowAt_alloc_at _ _ _ _ rfl)
  have hb2 : Below w.heap.size w (w1.alloc (.cells #[.slice none 0 0] 68)) := below_allocS HB1.out _
  have hs2 : (w1.alloc (.cells #[.slice none 0 0] 68)).heap.size = w1.heap.size + 1 := by simp
  generalize w1.alloc (.cells #[.slice none 0 0] 68) = W2 at *
  obtain ⟨p, hp⟩ : ∃ p, w1.heap.size = p := ⟨_, rfl⟩
  rw [hp] at hw2 hs2 ⊢
  have hgp : g < p := by omega
  have hwp : w.heap.size ≤ p := by omega
  have hpW : p < W2.heap.size := by omega
  clear hs2 hp r1 HB1 hb n1
  have HW2 := Lib.hid hw2
  have HB2 := Lib.hid hb2
  have hbs := hb2.size
  clear hw2 hb2
  have hz := fun i => cell_of_rowAt r2 i
  go_wp2_with fail
  refine (wnums_ok W2.heap.size p 5 w.heap.size [s.self, s.nn, s.clk, s.dec, s.frz] [] _ (by omega) rfl (cells_list W2 _ _ rfl rfl) (by simp) (HW2.out.alloc _) (by simp; omega)).mono ?_
  rintro e w3 ⟨rfl, hpb, ho⟩
  rw [List.nil_append] at hpb
  have r3 := ho.row (Nat.ne_of_lt hgp) (rowPast r2)
  have HW3 := Lib.hid hpb
  have HB3 : Hid (Below w.heap.size w w3) := Lib.hid ((below_allocS HB2.out _).trans (ho.2.1.mono hwp))
  have L3 := catB_len [s.self, s.nn, s.clk, s.dec, s.frz]
  simp only [List.length_cons, List.length_nil] at L3
  generalize hX3 : catB [s.self, s.nn, s.clk, s.dec, s.frz] = X3 at *
  have HX3 := Lib.hid hX3
  clear hX3 hpb ho HW2 HB2 r2 hz hpW
  have n3 := rowAt_lt r3
  have hbs3 := HB3.out.size
  go_wp2_with fail
  refine (wplan_ok p w.heap.size s.p X3 w3 HW3.out (by omega) (by omega) (by omega) (by omega)).mono ?_
  rintro e w4 ⟨rfl, hpb, ho⟩
  have r4 := ho.row (Nat.ne_of_lt hgp) r3
  have HW4 := Lib.hid hpb
  have HB4 : Hid (Below w.heap.size w w4) := Lib.hid (HB3.out.trans (ho.2.1.mono hwp))
  clear hpb ho HW3 HB3 r3 n3
  have hz := fun i => cell_of_rowAt r4 i
  have n4 := rowAt_lt r4
  have hbs4 := HB4.out.size
  go_wp2_with fail
  refine (wfields_ok p w.heap.size s.f (X3 ++ planW s.p) w4 HW4.out (by omega) HM.out.f HB4.out hwp HF2.out (by rw [List.length_append]; omega)).mono ?_
  rintro e w5 ⟨rfl, hpb, ho⟩
  have r5 := ho.row (Nat.ne_of_lt hgp) r4
  have HB5 : Hid (Below w.heap.size w w5) := Lib.hid (HB4.out.trans (ho.2.1.mono hwp))
  have L5 : (X3 ++ planW s.p ++ fieldsW s.f).length ≤ 40000 := by simp only [List.length_append]; omega
  obtain ⟨X5, hX5⟩ : ∃ X, X3 ++ planW s.p ++ fieldsW s.f = X := ⟨_, rfl⟩
  rw [hX5] at hpb L5
  have HW5 := Lib.hid hpb
  have HE : Hid (staW s = X5 ++ (if s.self = 0 then barW s else [])) := Lib.hid (by unfold staW; rw [HX3.out, hX5])
  clear hpb ho HW4 HB4 r4 hz n4 HX3 hX5 L3 LP LF HF2
  have hz := fun i => cell_of_rowAt r5 i
  have n5 := rowAt_lt r5
  have hbs5 := HB5.out.size
  by_cases h0 : s.self = 0
  · have g0 : (s.self == 0) = true := by simp [h0]
    obtain ⟨hq1, hq2, hq3⟩ := led_parts (HL3.out h0)
    have hnb := maybe_names hq1
    have LP := planW_len hnb
    have LJ := fieldsW_len hq2
    have LM := fieldsW_len hq3
    have HJ := Lib.hid hq2
    have HMM := Lib.hid hq3
    have HE2 : Hid (staW s = X5 ++ barW s) := Lib.hid (by rw [HE.out, if_pos h0])
    clear h0 HE HL3 hq1 hq2 hq3
    go_upto_region 9 with fail
    have rb : rowAt (w5.alloc (.cells s.bar 28)) w5.heap.size = some (s.bar, 28) := rowAt_alloc_at _ _ _ _ rfl
    have hw6 := HW5.out.alloc (.cells s.bar 28)
    have hb6 : Below w.heap.size w (w5.alloc (.cells s.bar 28)) := below_allocS HB5.out _
    have hs6 : (w5.alloc (.cells s.bar 28)).heap.size = w5.heap.size + 1 := by simp
    have hp5 : p < w5.heap.size := by obtain ⟨_, _, q1, _⟩ := HW5.out; exact rowAt_lt q1
    generalize w5.alloc (.cells s.bar 28) = W6 at *
    obtain ⟨b, hbb⟩ : ∃ b, w5.heap.size = b := ⟨_, rfl⟩
    rw [hbb] at rb hs6 hp5 ⊢
    have hbp : b ≠ p := by omega
    have hpW : p < W6.heap.size := by omega
    have HW6 := Lib.hid hw6
    have HB6 := Lib.hid hb6
    have hbs6 := hb6.size
    clear hs6 hbb hw6 hb6 hp5 HW5 HB5 r5 hz n5 hbs5
    have hz := fun i => cell_of_rowAt rb i
    go_wp2_with fail
    refine (wnums_ok W6.heap.size p 6 w.heap.size [s.bst, s.bnum, s.bep, s.due, s.ack, s.told] X5 _ (by omega) rfl (cells_list W6 _ _ rfl rfl) (by simp only [List.length_cons, List.length_nil]; omega) (HW6.out.alloc _) (by simp; omega)).mono ?_
    rintro e w7 ⟨rfl, hpb, ho⟩
    have r7 := ho.row hbp (rowPast rb)
    have HW7 := Lib.hid hpb
    have HB7 : Hid (Below w.heap.size w w7) := Lib.hid ((below_allocS HB6.out _).trans (ho.2.1.mono hwp))
    have L7 := catB_len [s.bst, s.bnum, s.bep, s.due, s.ack, s.told]
    simp only [List.length_cons, List.length_nil] at L7
    have L7 : (X5 ++ catB [s.bst, s.bnum, s.bep, s.due, s.ack, s.told]).length ≤ 50000 := by rw [List.length_append]; omega
    obtain ⟨X7, hX7⟩ : ∃ X, X5 ++ catB [s.bst, s.bnum, s.bep, s.due, s.ack, s.told] = X := ⟨_, rfl⟩
    have HE3 : Hid (staW s = X7 ++ planW s.bp ++ fieldsW s.j ++ fieldsW s.m) := Lib.hid (by rw [HE2.out, ← hX7]; unfold barW; simp only [List.append_assoc])
    have HW7 : Hid (WB w7 p w.heap.size X7) := Lib.hid (hX7 ▸ HW7.out)
    rw [hX7] at L7
    clear hX7 hpb ho HW6 HB6 rb hz hpW HE2
    have hbs7 := HB7.out.size
    have n7 := rowAt_lt r7
    go_wp2_with fail
    refine (wplan_ok p w.heap.size s.bp X7 w7 HW7.out (by omega) (by omega) (by omega) (by omega)).mono ?_
    rintro e w8 ⟨rfl, hpb, ho⟩
    have r8 := ho.row hbp r7
    have HW8 := Lib.hid hpb
    have HB8 : Hid (Below w.heap.size w w8) := Lib.hid (HB7.out.trans (ho.2.1.mono hwp))
    have L8 : (X7 ++ planW s.bp).length ≤ 60000 := by rw [List.length_append]; omega
    generalize X7 ++ planW s.bp = X8 at *
    clear hpb ho HW7 HB7 r7 n7
    have hz := fun i => cell_of_rowAt r8 i
    have n8 := rowAt_lt r8
    have hbs8 := HB8.out.size
    go_wp2_with fail
    refine (wfields_ok p w.heap.size s.j X8 w8 HW8.out (by omega) HM.out.j HB8.out hwp HJ.out (by omega)).mono ?_
    rintro e w9 ⟨rfl, hpb, ho⟩
    have r9 := ho.row hbp r8
    have HW9 := Lib.hid hpb
    have HB9 : Hid (Below w.heap.size w w9) := Lib.hid (HB8.out.trans (ho.2.1.mono hwp))
    have L9 : (X8 ++ fieldsW s.j).length ≤ 100000 := by rw [List.length_append]; omega
    generalize X8 ++ fieldsW s.j = X9 at *
    clear hpb ho HW8 HB8 r8 n8 hz
    have hz := fun i => cell_of_rowAt r9 i
    have n9 := rowAt_lt r9
    have hbs9 := HB9.out.size
    go_wp2_with fail
    refine (wfields_ok p w.heap.size s.m X9 w9 HW9.out (by omega) HM.out.m HB9.out hwp HMM.out (by omega)).mono ?_
    rintro e w10 ⟨rfl, hpb, ho⟩
    have HB10 : Hid (Below w.heap.size w w10) := Lib.hid (HB9.out.trans (ho.2.1.mono hwp))
    rw [← HE3.out] at hpb
    obtain ⟨A, c, q1, q2, q3, q4, q5⟩ := hpb
    have hc : w10.cell? ⟨p, 0, none⟩ = some (.slice A (staW s).length c) := by rw [cell_of_rowAt q1]; rfl
    have HI := Lib.hid q2
    clear q1 q2 ho HW9 HB9 r9 n9 hz HE3
    go_wp2_with fail
    go_ret2
    exact ⟨A, c, rfl, HI.out, q3, fun x hx => (q4 x hx).2, q5, HB10.out⟩
  · have g0 : (s.self == 0) = false := by simp [h0]
    have HE2 : Hid (staW s = X5) := Lib.hid (by rw [HE.out, if_neg h0, List.append_nil])
    clear h0 HE HL3
    obtain ⟨A, c, q1, q2, q3, q4, q5⟩ := HW5.out
    have hc : w5.cell? ⟨p, 0, none⟩ = some (.slice A X5.length c) := by rw [cell_of_rowAt q1]; rfl
    have HI := Lib.hid q2
    clear q1 q2 HW5
    go_wp2_with fail
    go_ret2
    exact ⟨A, c, by rw [HE2.out]; rfl, by rw [HE2.out]; exact HI.out, q3, fun x hx => (q4 x hx).2, by rw [HE2.out]; exact q5, HB5.out⟩
end Go.Proofs.YtinhaipnmmgplaaGreat
