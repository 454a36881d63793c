/-
  Layer 17 (state): whether numbers and a plan may be.
-/
import Derived.Test.YtinhaipnmmgplaaGreatZSta
import Derived.Test.YtinhaipnmmgplaaGreatZMsgR
import Derived.Test.YtinhaipnmmgplaaGreatZDown
import Derived.Test.YtinhaipnmmgplaaGreatZMFld
namespace Go.Proofs.YtinhaipnmmgplaaGreat
set_option maxRecDepth 20000
open Go.RowKit
set_option linter.unusedSimpArgs false
set_option linter.unusedVariables false
attribute [local go_sem] rowCells rowAt_drewN get_ints getE_ints set_ints size_ints rowAt_alloc rowAt_drew setRow_alloc setRow_drewN setRow_drew setCell_alloc setCell_drewN splice_upd splice_put splice_all load_vec_cut load_vecs_cut load_rights_cut load_counter store_vec store_rights store_counter eql_vec neq_vec index_vec eql_rights neq_rights eql_counter index_vecs cut_ints sub_zero
attribute [local go_sem ↓] xload_vec xstore_vec xalloc_vec xeql_vec xneq_vec xindex_vec xbuild_vec0 xload_rights xstore_rights xalloc_rights xeql_rights xneq_rights xbuild_rights0 xload_vecs xindex_vecs xload_counter xstore_counter xalloc_counter xbuild_counter0 xeql_counter xbuild_counter3
attribute [local go_sem] rowAt_setRow rowAt_setCell load_vec_cut_later load_rights_later load_counter_later Later.cell Later.frozen build3_ints
attribute [local go_sem ↓] xload_field xstore_field xalloc_field xload_lock
attribute [local go_sem] load_field load_field_later store_field load_counter_cut load_lock_cut load_lock_later Fld.size Fld.get0 Fld.get1 Fld.get2 Fld.get586 Fld.getE0 Fld.getE1 Fld.getE2 Fld.getE586 Fld.cut_cnt Fld.cut_lock Fld.cut_all Fld.splice_all strT_size

attribute [local go_sem ↓] xload_hold xstore_hold xalloc_hold
attribute [local go_sem] load_hold load_hold_later store_hold
attribute [local go_sem ↓] xbuild_lock0 xeql_lock xneq_lock xneq_counter
attribute [local go_sem] eql_lock neq_lock neq_counter

attribute [local go_sem] zero_field
attribute [local go_sem] resC_size resC_all resC_splice resC_set0 resC_set1 Fld.set2 Fld.set586
attribute [local go_sem ↓] xbuildS_field
attribute [local go_sem] buildSF_agg
attribute [local go_sem ↓] xstore_sta xload_sta xalloc_sta xbuild_sta0 xstore_bar xload_bar xalloc_bar xbuild_bar0 xstore_plan xload_plan xalloc_plan xbuild_plan0
attribute [local go_sem] load_sta load_sta_later store_sta load_bar load_bar_later store_bar load_plan load_plan_later store_plan
attribute [local go_sem] Sta.size Sta.bsize Pl.size Sta.cut_all Sta.cut_p Sta.cut_bar Sta.cut_bp Sta.bcut_all Sta.bcut_p Pl.cut_all Sta.splice_all Sta.bsplice_all Pl.splice_all Sta.splice_bar
attribute [local go_sem] Sta.get0 Sta.getE0 Sta.set0 Sta.get1 Sta.getE1 Sta.set1 Sta.get2 Sta.getE2 Sta.set2 Sta.get3 Sta.getE3 Sta.set3 Sta.get4 Sta.getE4 Sta.set4 Sta.get5 Sta.getE5 Sta.set5 Sta.get6 Sta.getE6 Sta.set6 Sta.get7 Sta.getE7 Sta.set7 Sta.get8 Sta.getE8 Sta.set8 Sta.get9 Sta.getE9 Sta.set9 Sta.get10 Sta.getE10 Sta.set10 Sta.get11 Sta.getE11 Sta.set11 Sta.get12 Sta.getE12 Sta.set12 Sta.get13 Sta.getE13 Sta.set13 Sta.get14 Sta.getE14 Sta.set14 Sta.get15 Sta.getE15 Sta.set15 Sta.get16 Sta.getE16 Sta.set16 Sta.get17 Sta.getE17 Sta.set17 Sta.get18 Sta.getE18 Sta.set18 Sta.get19 Sta.getE19 Sta.set19 Sta.get20 Sta.getE20 Sta.set20 Sta.get21 Sta.getE21 Sta.set21 Sta.get22 Sta.getE22 Sta.set22 Sta.get23 Sta.getE23 Sta.set23 Sta.get24 Sta.getE24 Sta.set24
attribute [local go_sem] Sta.bget0 Sta.bgetE0 Sta.bget1 Sta.bgetE1 Sta.bget2 Sta.bgetE2 Sta.bget3 Sta.bgetE3 Sta.bget4 Sta.bgetE4 Sta.bget5 Sta.bgetE5 Sta.bget6 Sta.bgetE6 Sta.bget7 Sta.bgetE7 Sta.bget8 Sta.bgetE8 Sta.bget9 Sta.bgetE9 Sta.bget10 Sta.bgetE10 Sta.bget11 Sta.bgetE11 Sta.bget12 Sta.bgetE12 Sta.bget13 Sta.bgetE13 Pl.get0 Pl.getE0 Pl.get1 Pl.getE1 Pl.get2 Pl.getE2 Pl.get3 Pl.getE3 Pl.get4 Pl.getE4
theorem cntB_neg (n : Int) : cntB n = (!decide (n < 0) && isB n) := by
  unfold cntB
  by_cases h : n < 0
  · rw [decide_eq_true h, decide_eq_false (by omega)]; rfl
  · rw [decide_eq_false h, decide_eq_true (by omega)]; rfl
theorem scount1_any (n : Int) (w : World) : Calls Tryz.prog 42 #[.int .i64 n] w fun e w' => e = .returned (.bool (!cntB n)) ∧ Below w.heap.size w w' := by
  obtain ⟨R, hR⟩ : ∃ R, (!cntB n) = R := ⟨_, rfl⟩
  obtain ⟨b0, e0⟩ : ∃ b, decide (n < 0) = b := ⟨_, rfl⟩
  obtain ⟨b1, e1⟩ : ∃ b, isB n = b := ⟨_, rfl⟩
  have hM : R = (b0 || !b1) := by rw [← hR, ← e0, ← e1, cntB_neg]; cases decide (n < 0) <;> cases isB n <;> rfl
  rw [hR]
  clear hR
  cases b0
  · obtain rfl : R = !b1 := by simpa using hM
    clear hM
    go_enter Tryz.func42, Tryz.ntmps42
    go_upto_region 1 with fail
    refine region_seq ?_
    repeat (go_big_quiet_step ((first | (go_at_call 43; exact quiet_call (by simp) (is_at (by assumption) _)))))
    refine wpQuiet_nil ?_
    intro w1 hb1
    have HB := Lib.hid hb1
    clear hb1
    go_wp2
    go_ret
    exact ⟨by first | rfl | simp [*], HB.out⟩
  · obtain rfl : R = true := by simpa using hM
    clear hM
    go_enter Tryz.func42, Tryz.ntmps42
    go_upto_region 1 with fail
    refine region_seq ?_
    repeat (go_big_quiet_step ((first | (go_at_call 43; exact quiet_call (by simp) (is_at (by assumption) _)))))
    refine wpQuiet_nil ?_
    intro w1 hb1
    have HB := Lib.hid hb1
    clear hb1
    go_wp2
    go_ret
    exact ⟨by first | rfl | simp [*], HB.out⟩
theorem scount1_at {n : Int} {b : Bool} (h : (!cntB n) = b) (w : World) : Calls Tryz.prog 42 #[.int .i64 n] w fun e w' => e = .returned (.bool b) ∧ Below w.heap.size w w' := by rw [← h]; exact scount1_any n w
theorem all_no {l : List Int} {k : Nat} (hk : k < l.length) (h : cntB (l.getD k 0) = false) : l.all cntB = false := by
  rw [List.all_eq_false]
  exact ⟨l.getD k 0, by simp [List.getD, hk], by rw [h]; decide⟩
theorem all_yes {l : List Int} (h : ∀ k, k < l.length → cntB (l.getD k 0) = true) : l.all cntB = true := by
  rw [List.all_eq_true]
  intro x hx
  obtain ⟨k, hk, rfl⟩ := List.mem_iff_getElem.1 hx
  have := h k hk
  simpa [List.getD, hk] using this
set_option maxHeartbeats 2000000 in
theorem sindex_any (A : Option Addr) (c : Nat) (l : List Int) (w : World) (hl : IntsIs w A l.length (fun i => l.getD i 0)) (hlen : l.length ≤ 1000000) :
    Calls Tryz.prog 63 #[.slice A l.length c, .func (.func 42) #[] #[]] w fun e w' => ∃ k : Int, e = .returned (.int .i64 k) ∧ decide (0 ≤ k) = !l.all cntB ∧ Below w.heap.size w w' := by
  have HL := Lib.hid hl
  clear hl
  go_enter Tryz.func63, Tryz.ntmps63
  go_wp2_with fail
  go_loopw [8] (fun i w' => ∃ k : Nat, k ≤ l.length ∧ i = .int .i64 k ∧ (∀ j, j < k → cntB (l.getD j 0) = true) ∧ Below w.heap.size w w') (fun i _ => l.length - (intOf i).toNat)
  case atStart => exact ⟨0, Nat.zero_le _, rfl, fun j hj => by omega, Below.refl _ _⟩
  case round =>
    rename World => wr
    obtain ⟨k, hk, rfl, hall, hb⟩ := hrel
    have HA := Lib.hid hall
    have HB := Lib.hid hb
    by_cases hlt : k < l.length
    · obtain ⟨b, o, rfl, hc⟩ := (HL.out.below hb) k hlt
      have hc' : wr.cell? ⟨b, o + k, none⟩ = some (.int .i64 (l.getD k 0)) := hc
      clear hc hall hb
      obtain ⟨x, hx⟩ : ∃ x, l.getD k 0 = x := ⟨_, rfl⟩
      rw [hx] at hc'
      obtain ⟨r, hr⟩ : ∃ r, (!cntB x) = r := ⟨_, rfl⟩
      have HX := Lib.hid hx
      have HR := Lib.hid hr
      clear hx hr
      go_wp2_with fail
      refine (scount1_at HR.out _).mono ?_
      rintro e w1 ⟨rfl, hb⟩
      have HB1 := Lib.hid (bthen HB.out hb)
      clear hb hc'
      cases r
      · go_wp2_with fail
        go_roundw
        case rel =>
          refine ⟨k + 1, by omega, by go_num, fun j hj => ?_, HB1.out⟩
          by_cases hjk : j = k
          · rw [hjk, HX.out]; simpa using HR.out
          · exact HA.out j (by omega)
        case measure => simp [intOf]; omega
      · go_wp2_with fail
        go_ret
        exact ⟨k, rfl, by rw [all_no hlt (by rw [HX.out]; simpa using HR.out)]; simp, HB1.out⟩
    · obtain rfl : k = l.length := by omega
      clear hall hb
      go_wp2_with fail
      go_ret
      exact ⟨-1, rfl, by rw [all_yes HA.out]; rfl, HB.out⟩
set_option maxHeartbeats 1000000 in
theorem scontains_any (A : Option Addr) (c : Nat) (l : List Int) (w : World) (hl : IntsIs w A l.length (fun i => l.getD i 0)) (hlen : l.length ≤ 1000000) :
    Calls Tryz.prog 41 #[.slice A l.length c, .func (.func 42) #[] #[]] w fun e w' => e = .returned (.bool (!l.all cntB)) ∧ Below w.heap.size w w' := by
  have HL := Lib.hid hl
  clear hl
  go_enter Tryz.func41, Tryz.ntmps41
  go_wp2_with fail
  refine (sindex_any A c l w HL.out hlen).mono ?_
  rintro e w1 ⟨k, rfl, hk, hb⟩
  have HB := Lib.hid hb
  clear hb
  obtain ⟨r, hr⟩ : ∃ r, (!l.all cntB) = r := ⟨_, rfl⟩
  rw [hr] at hk
  have HR := Lib.hid hr
  clear hr
  go_wp2_with fail
  go_ret
  exact ⟨by rw [HR.out]; rfl, HB.out⟩
theorem scounts_any (A : Option Addr) (c : Nat) (l : List Int) (w : World) (hl : IntsIs w A l.length (fun i => l.getD i 0)) (hlen : l.length ≤ 1000000) :
    Calls Tryz.prog 21 #[.slice A l.length c] w fun e w' => e = .returned (.bool (l.all cntB)) ∧ Below w.heap.size w w' := by
  have HL := Lib.hid hl
  clear hl
  go_enter Tryz.func21, Tryz.ntmps21
  go_wp2_with fail
  refine (scontains_any A c l w HL.out hlen).mono ?_
  rintro e w1 ⟨rfl, hb⟩
  have HB := Lib.hid hb
  clear hb
  go_wp2_with fail
  go_ret
  exact ⟨by simp, HB.out⟩
theorem ints_lit (w : World) (l : List Int) (E : TypeId) : IntsIs (w.alloc (.cells (l.map (Value.int .i64)).toArray E)) (some ⟨w.heap.size, 0, none⟩) l.length (fun i => l.getD i 0) := fun i hi =>
  ⟨w.heap.size, 0, rfl, by rw [Nat.zero_add, cell_of_rowAt (rowAt_alloc_at _ _ _ _ rfl)]; simp [List.getD, hi]⟩
theorem counts3 {a b c : Int} {r : Bool} (h : (cntB a && cntB b && cntB c) = r) (w : World) {p : Nat} (hp : p = w.heap.size) : Calls Tryz.prog 21 #[.slice (some ⟨p, 0, none⟩) 3 3] (w.alloc (.cells #[.int .i64 a, .int .i64 b, .int .i64 c] 3)) fun e w' => e = .returned (.bool r) ∧ Below w.heap.size w w' :=
  by subst hp; exact (scounts_any _ 3 [a, b, c] _ (ints_lit w [a, b, c] _) (by simp)).mono fun _ _ ⟨h1, h2⟩ => ⟨h1.trans (by rw [← h]; simp [Bool.and_assoc]), bthen ((Below.refl _ _).alloc (Nat.le_refl _) _) h2⟩
theorem counts5 {a b c d f : Int} {r : Bool} (h : (cntB a && cntB b && cntB c && cntB d && cntB f) = r) (w : World) {p : Nat} (hp : p = w.heap.size) : Calls Tryz.prog 21 #[.slice (some ⟨p, 0, none⟩) 5 5] (w.alloc (.cells #[.int .i64 a, .int .i64 b, .int .i64 c, .int .i64 d, .int .i64 f] 3)) fun e w' => e = .returned (.bool r) ∧ Below w.heap.size w w' :=
  by subst hp; exact (scounts_any _ 5 [a, b, c, d, f] _ (ints_lit w [a, b, c, d, f] _) (by simp)).mono fun _ _ ⟨h1, h2⟩ => ⟨h1.trans (by rw [← h]; simp [Bool.and_assoc]), bthen ((Below.refl _ _).alloc (Nat.le_refl _) _) h2⟩
/-- A plan that is none. -/
def zeroPl (p : Pl) : Bool := decide (p.k = 0) && decide (p.n = []) && decide (p.o = []) && decide (p.a = 0) && decide (p.b = 0)
theorem zeroPl_is {p : Pl} (h : zeroPl p = true) : p = pl0 := by
  obtain ⟨k, n, o, a, b⟩ := p
  simp only [zeroPl, Bool.and_eq_true, decide_eq_true_eq] at h
  obtain ⟨⟨⟨⟨rfl, rfl⟩, rfl⟩, rfl⟩, rfl⟩ := h
  rfl
def maybeB (p : Pl) (is : Bool) : Bool := if is then planB p.k p.n p.o p.a p.b else zeroPl p
section
variable (ρ : Operand → Value) (d : Option Tmp) (T : TypeId) (p : String) (af : Array Edge) (gd : Option (Nat × Bool)) (x y : Operand) (ty' : TypeId) (w : World)
theorem xeql_plan : (execOp ρ ⟨d, .binOp .eql 25 x y ty', T, p, af, gd⟩).run Tryz.prog w = eqlAgg Tryz.prog w .eql 25 x y (ρ x) (ρ y) := rfl
theorem xneq_plan : (execOp ρ ⟨d, .binOp .neq 25 x y ty', T, p, af, gd⟩).run Tryz.prog w = eqlAgg Tryz.prog w .neq 25 x y (ρ x) (ρ y) := rfl
end
def eqPl (p q : Pl) : Bool := decide (p.k = q.k) && decide (p.n = q.n) && decide (p.o = q.o) && decide (p.a = q.a) && decide (p.b = q.b)
theorem eql_plan (w : World) (x y : Operand) (p q : Pl) : eqlAgg Tryz.prog w .eql 25 x y (.agg p.cells) (.agg q.cells) = .ok (.value (.bool (eqPl p q))) w := by
  obtain ⟨b, hb⟩ : ∃ b, eqPl p q = b := ⟨_, rfl⟩
  rw [hb]
  unfold Pl.cells
  unfold eqlAgg
  go_simp
  rw [← hb]
  unfold eqPl
  simp only [strT_toList]
  repeat' split
  all_goals simp [*]
theorem neq_plan (w : World) (x y : Operand) (p q : Pl) : eqlAgg Tryz.prog w .neq 25 x y (.agg p.cells) (.agg q.cells) = .ok (.value (.bool (!eqPl p q))) w := by
  obtain ⟨b, hb⟩ : ∃ b, eqPl p q = b := ⟨_, rfl⟩
  rw [hb]
  unfold Pl.cells
  unfold eqlAgg
  go_simp
  rw [← hb]
  unfold eqPl
  simp only [strT_toList]
  repeat' split
  all_goals simp [*]
theorem eqPl_zero (p : Pl) : eqPl p pl0 = zeroPl p := rfl
theorem planRight_at {p : Pl} {b : Bool} (h : planB p.k p.n p.o p.a p.b = b) (hn : p.n.length ≤ 9223372036854775807) (ho : p.o.length ≤ 9223372036854775807) (w : World) : Calls Tryz.prog 44 #[.agg p.cells] w fun e w' => e = .returned (.bool b) ∧ Below w.heap.size w w' := by
  rw [Pl.agg, ← h]; exact planRight_any p.k p.n p.o p.a p.b hn ho w
attribute [local go_sem ↓] xeql_plan xneq_plan
attribute [local go_sem] eql_plan neq_plan
theorem smaybe_any (p : Pl) (is : Bool) (w : World) (hn : p.n.length ≤ 9223372036854775807) (ho : p.o.length ≤ 9223372036854775807) : Calls Tryz.prog 22 #[.agg p.cells, .bool is] w fun e w' => e = .returned (.bool (maybeB p is)) ∧ Below w.heap.size w w' := by
  cases is
  · have HZ := Lib.hid (eqPl_zero p)
    go_enter Tryz.func22, Tryz.ntmps22
    go_wp2_with fail
    go_ret
    exact ⟨by rw [HZ.out]; rfl, below_allocS (Below.refl _ _) _⟩
  · obtain ⟨b, hb⟩ : ∃ b, planB p.k p.n p.o p.a p.b = b := ⟨_, rfl⟩
    have HP := Lib.hid (fun w => planRight_at hb hn ho w)
    have HBB := Lib.hid hb
    clear hb
    go_enter Tryz.func22, Tryz.ntmps22
    go_wp2_with fail
    refine (HP.out _).mono ?_
    rintro e w1 ⟨rfl, hb⟩
    have HB := Lib.hid (bthen (below_allocS (Below.refl _ _) _) hb)
    clear hb
    go_wp2_with fail
    go_ret
    exact ⟨by unfold maybeB; rw [if_pos rfl, HBB.out]; rfl, HB.out⟩
theorem smaybe_at {p : Pl} {is b : Bool} (h : maybeB p is = b) (w : World) (hn : p.n.length ≤ 9223372036854775807) (ho : p.o.length ≤ 9223372036854775807) : Calls Tryz.prog 22 #[.agg p.cells, .bool is] w fun e w' => e = .returned (.bool b) ∧ Below w.heap.size w w' := by
  rw [← h]; exact smaybe_any p is w hn ho
end Go.Proofs.YtinhaipnmmgplaaGreat

/-
  Layer 17 (state): whether a state may be.
-/
namespace Go.Proofs.YtinhaipnmmgplaaGreat
set_option maxRecDepth 20000
open Go.RowKit
set_option linter.unusedSimpArgs false
set_option linter.unusedVariables false
attribute [local go_sem] rowCells rowAt_drewN get_ints getE_ints set_ints size_ints rowAt_alloc rowAt_drew setRow_alloc setRow_drewN setRow_drew setCell_alloc setCell_drewN splice_upd splice_put splice_all load_vec_cut load_vecs_cut load_rights_cut load_counter store_vec store_rights store_counter eql_vec neq_vec index_vec eql_rights neq_rights eql_counter index_vecs cut_ints sub_zero
attribute [local go_sem ↓] xload_vec xstore_vec xalloc_vec xeql_vec xneq_vec xindex_vec xbuild_vec0 xload_rights xstore_rights xalloc_rights xeql_rights xneq_rights xbuild_rights0 xload_vecs xindex_vecs xload_counter xstore_counter xalloc_counter xbuild_counter0 xeql_counter xbuild_counter3
attribute [local go_sem] rowAt_setRow rowAt_setCell load_vec_cut_later load_rights_later load_counter_later Later.cell Later.frozen build3_ints
attribute [local go_sem ↓] xload_field xstore_field xalloc_field xload_lock
attribute [local go_sem] load_field load_field_later store_field load_counter_cut load_lock_cut load_lock_later Fld.size Fld.get0 Fld.get1 Fld.get2 Fld.get586 Fld.getE0 Fld.getE1 Fld.getE2 Fld.getE586 Fld.cut_cnt Fld.cut_lock Fld.cut_all Fld.splice_all strT_size

attribute [local go_sem ↓] xload_hold xstore_hold xalloc_hold
attribute [local go_sem] load_hold load_hold_later store_hold
attribute [local go_sem ↓] xbuild_lock0 xeql_lock xneq_lock xneq_counter
attribute [local go_sem] eql_lock neq_lock neq_counter

attribute [local go_sem] zero_field
attribute [local go_sem] resC_size resC_all resC_splice resC_set0 resC_set1 Fld.set2 Fld.set586
attribute [local go_sem ↓] xbuildS_field
attribute [local go_sem] buildSF_agg
attribute [local go_sem ↓] xstore_sta xload_sta xalloc_sta xbuild_sta0 xstore_bar xload_bar xalloc_bar xbuild_bar0 xstore_plan xload_plan xalloc_plan xbuild_plan0
attribute [local go_sem] load_sta load_sta_later store_sta load_bar load_bar_later store_bar load_plan load_plan_later store_plan
attribute [local go_sem] Sta.size Sta.bsize Pl.size Sta.cut_all Sta.cut_p Sta.cut_bar Sta.cut_bp Sta.bcut_all Sta.bcut_p Pl.cut_all Sta.splice_all Sta.bsplice_all Pl.splice_all Sta.splice_bar
attribute [local go_sem] Sta.get0 Sta.getE0 Sta.set0 Sta.get1 Sta.getE1 Sta.set1 Sta.get2 Sta.getE2 Sta.set2 Sta.get3 Sta.getE3 Sta.set3 Sta.get4 Sta.getE4 Sta.set4 Sta.get5 Sta.getE5 Sta.set5 Sta.get6 Sta.getE6 Sta.set6 Sta.get7 Sta.getE7 Sta.set7 Sta.get8 Sta.getE8 Sta.set8 Sta.get9 Sta.getE9 Sta.set9 Sta.get10 Sta.getE10 Sta.set10 Sta.get11 Sta.getE11 Sta.set11 Sta.get12 Sta.getE12 Sta.set12 Sta.get13 Sta.getE13 Sta.set13 Sta.get14 Sta.getE14 Sta.set14 Sta.get15 Sta.getE15 Sta.set15 Sta.get16 Sta.getE16 Sta.set16 Sta.get17 Sta.getE17 Sta.set17 Sta.get18 Sta.getE18 Sta.set18 Sta.get19 Sta.getE19 Sta.set19 Sta.get20 Sta.getE20 Sta.set20 Sta.get21 Sta.getE21 Sta.set21 Sta.get22 Sta.getE22 Sta.set22 Sta.get23 Sta.getE23 Sta.set23 Sta.get24 Sta.getE24 Sta.set24
attribute [local go_sem] Sta.bget0 Sta.bgetE0 Sta.bget1 Sta.bgetE1 Sta.bget2 Sta.bgetE2 Sta.bget3 Sta.bgetE3 Sta.bget4 Sta.bgetE4 Sta.bget5 Sta.bgetE5 Sta.bget6 Sta.bgetE6 Sta.bget7 Sta.bgetE7 Sta.bget8 Sta.bgetE8 Sta.bget9 Sta.bgetE9 Sta.bget10 Sta.bgetE10 Sta.bget11 Sta.bgetE11 Sta.bget12 Sta.bgetE12 Sta.bget13 Sta.bgetE13 Pl.get0 Pl.getE0 Pl.get1 Pl.getE1 Pl.get2 Pl.getE2 Pl.get3 Pl.getE3 Pl.get4 Pl.getE4
attribute [local go_sem ↓] xeql_plan xneq_plan
attribute [local go_sem] eql_plan neq_plan
theorem fields_at {F : FS} {b : Bool} (h : fldsB F.n F.l = b) {w : World} (hF : FSOk w F) : Calls Tryz.prog 14 #[.slice F.A F.n F.c] w fun e w' => e = .returned (.bool b) ∧ Below w.heap.size w w' :=
  planFields_at h hF.is (Nat.le_trans hF.le hF.big)
def ledB (s : Sta) (n : Int) : Bool := (s.bn == n) && decide (0 ≤ s.bst) && decide (s.bst ≤ 3) && (cntB s.bnum && cntB s.bep && cntB s.due && cntB s.ack && cntB s.told) && maybeB s.bp (s.bst != 0) && fldsB s.j.n s.j.l && fldsB s.m.n s.m.l
set_option maxHeartbeats 4000000 in
theorem sled_any (s : Sta) (n : Int) (w : World) (h : StaOk w s) : Calls Tryz.prog 23 #[.agg s.bar, .int .i64 n] w fun e w' => e = .returned (.bool (ledB s n)) ∧ Below w.heap.size w w' := by
  have HOK := Lib.hid h
  have HBG := Lib.hid h.big
  clear h
  obtain ⟨R, hR⟩ : ∃ R, ledB s n = R := ⟨_, rfl⟩
  obtain ⟨b0, e0⟩ : ∃ b, (s.bn == n) = b := ⟨_, rfl⟩
  obtain ⟨b1, e1⟩ : ∃ b, decide (0 ≤ s.bst) = b := ⟨_, rfl⟩
  obtain ⟨b2, e2⟩ : ∃ b, decide (s.bst ≤ 3) = b := ⟨_, rfl⟩
  obtain ⟨b3, e3⟩ : ∃ b, (cntB s.bnum && cntB s.bep && cntB s.due && cntB s.ack && cntB s.told) = b := ⟨_, rfl⟩
  obtain ⟨b4, e4⟩ : ∃ b, maybeB s.bp (s.bst != 0) = b := ⟨_, rfl⟩
  obtain ⟨b5, e5⟩ : ∃ b, fldsB s.j.n s.j.l = b := ⟨_, rfl⟩
  obtain ⟨b6, e6⟩ : ∃ b, fldsB s.m.n s.m.l = b := ⟨_, rfl⟩
  have hM : R = (b0 && b1 && b2 && b3 && b4 && b5 && b6) := by rw [← hR, ← e0, ← e1, ← e2, ← e3, ← e4, ← e5, ← e6]; rfl
  rw [hR]
  clear hR
  have HC3 := Lib.hid e3
  clear e3
  have HC4 := Lib.hid e4
  clear e4
  have HC5 := Lib.hid e5
  clear e5
  have HC6 := Lib.hid e6
  clear e6
  cases b0
  · obtain rfl : R = false := by simpa using hM
    clear hM
    go_enter Tryz.func23, Tryz.ntmps23
    have rz : rowAt (w.alloc (.cells s.bar 28)) w.heap.size = some (s.bar, 28) := rowAt_alloc_at _ _ _ _ rfl
    have HBz : Hid (Below w.heap.size w (w.alloc (.cells s.bar 28))) := Lib.hid (below_allocS (Below.refl _ _) _)
    have hz := fun i => cell_of_rowAt rz i
    go_upto_region 1 with fail
    go_wp2_with fail
    go_ret
    exact ⟨by first | rfl | simp [*], HBz.out⟩
  · cases b1
    · obtain rfl : R = false := by simpa using hM
      clear hM
      go_enter Tryz.func23, Tryz.ntmps23
      have rz : rowAt (w.alloc (.cells s.bar 28)) w.heap.size = some (s.bar, 28) := rowAt_alloc_at _ _ _ _ rfl
      have HBz : Hid (Below w.heap.size w (w.alloc (.cells s.bar 28))) := Lib.hid (below_allocS (Below.refl _ _) _)
      have hz := fun i => cell_of_rowAt rz i
      go_upto_region 1 with fail
      go_wp2_with fail
      go_ret
      exact ⟨by first | rfl | simp [*], HBz.out⟩
    · cases b2
      · obtain rfl : R = false := by simpa using hM
        clear hM
        go_enter Tryz.func23, Tryz.ntmps23
        have rz : rowAt (w.alloc (.cells s.bar 28)) w.heap.size = some (s.bar, 28) := rowAt_alloc_at _ _ _ _ rfl
        have HBz : Hid (Below w.heap.size w (w.alloc (.cells s.bar 28))) := Lib.hid (below_allocS (Below.refl _ _) _)
        have hz := fun i => cell_of_rowAt rz i
        go_upto_region 1 with fail
        go_wp2_with fail
        go_ret
        exact ⟨by first | rfl | simp [*], HBz.out⟩
      · cases b3
        · obtain rfl : R = false := by simpa using hM
          clear hM
          go_enter Tryz.func23, Tryz.ntmps23
          have rz : rowAt (w.alloc (.cells s.bar 28)) w.heap.size = some (s.bar, 28) := rowAt_alloc_at _ _ _ _ rfl
          have HBz : Hid (Below w.heap.size w (w.alloc (.cells s.bar 28))) := Lib.hid (below_allocS (Below.refl _ _) _)
          have hz := fun i => cell_of_rowAt rz i
          go_upto_region 1 with fail
          go_wp2_with fail
          refine (counts5 HC3.out (w.alloc (.cells s.bar 28)) (by simp)).mono ?_
          rintro e w4 ⟨rfl, hb⟩
          have rn := rowKeep hb rz
          have HBn := Lib.hid (bthen HBz.out hb)
          clear hb rz HBz hz
          have rz := rn
          have HBz := HBn
          clear rn HBn
          have hz := fun i => cell_of_rowAt rz i
          go_wp2_with fail
          go_ret
          exact ⟨by first | rfl | simp [*], HBz.out⟩
        · cases b4
          · obtain rfl : R = false := by simpa using hM
            clear hM
            go_enter Tryz.func23, Tryz.ntmps23
            have rz : rowAt (w.alloc (.cells s.bar 28)) w.heap.size = some (s.bar, 28) := rowAt_alloc_at _ _ _ _ rfl
            have HBz : Hid (Below w.heap.size w (w.alloc (.cells s.bar 28))) := Lib.hid (below_allocS (Below.refl _ _) _)
            have hz := fun i => cell_of_rowAt rz i
            go_upto_region 1 with fail
            go_wp2_with fail
            refine (counts5 HC3.out (w.alloc (.cells s.bar 28)) (by simp)).mono ?_
            rintro e w4 ⟨rfl, hb⟩
            have rn := rowKeep hb rz
            have HBn := Lib.hid (bthen HBz.out hb)
            clear hb rz HBz hz
            have rz := rn
            have HBz := HBn
            clear rn HBn
            have hz := fun i => cell_of_rowAt rz i
            go_wp2_with fail
            refine (smaybe_at HC4.out _ HBG.out.2.2.1 HBG.out.2.2.2).mono ?_
            rintro e w5 ⟨rfl, hb⟩
            have rn := rowKeep hb rz
            have HBn := Lib.hid (bthen HBz.out hb)
            clear hb rz HBz hz
            have rz := rn
            have HBz := HBn
            clear rn HBn
            have hz := fun i => cell_of_rowAt rz i
            go_wp2_with fail
            go_ret
            exact ⟨by first | rfl | simp [*], HBz.out⟩
          · cases b5
            · obtain rfl : R = false := by simpa using hM
              clear hM
              go_enter Tryz.func23, Tryz.ntmps23
              have rz : rowAt (w.alloc (.cells s.bar 28)) w.heap.size = some (s.bar, 28) := rowAt_alloc_at _ _ _ _ rfl
              have HBz : Hid (Below w.heap.size w (w.alloc (.cells s.bar 28))) := Lib.hid (below_allocS (Below.refl _ _) _)
              have hz := fun i => cell_of_rowAt rz i
              go_upto_region 1 with fail
              go_wp2_with fail
              refine (counts5 HC3.out (w.alloc (.cells s.bar 28)) (by simp)).mono ?_
              rintro e w4 ⟨rfl, hb⟩
              have rn := rowKeep hb rz
              have HBn := Lib.hid (bthen HBz.out hb)
              clear hb rz HBz hz
              have rz := rn
              have HBz := HBn
              clear rn HBn
              have hz := fun i => cell_of_rowAt rz i
              go_wp2_with fail
              refine (smaybe_at HC4.out _ HBG.out.2.2.1 HBG.out.2.2.2).mono ?_
              rintro e w5 ⟨rfl, hb⟩
              have rn := rowKeep hb rz
              have HBn := Lib.hid (bthen HBz.out hb)
              clear hb rz HBz hz
              have rz := rn
              have HBz := HBn
              clear rn HBn
              have hz := fun i => cell_of_rowAt rz i
              go_wp2_with fail
              refine (fields_at HC5.out (HOK.out.j.below HBz.out)).mono ?_
              rintro e w6 ⟨rfl, hb⟩
              have rn := rowKeep hb rz
              have HBn := Lib.hid (bthen HBz.out hb)
              clear hb rz HBz hz
              have rz := rn
              have HBz := HBn
              clear rn HBn
              have hz := fun i => cell_of_rowAt rz i
              go_wp2_with fail
              go_ret
              exact ⟨by first | rfl | simp [*], HBz.out⟩
            · obtain rfl : R = b6 := by simpa using hM
              clear hM
              go_enter Tryz.func23, Tryz.ntmps23
              have rz : rowAt (w.alloc (.cells s.bar 28)) w.heap.size = some (s.bar, 28) := rowAt_alloc_at _ _ _ _ rfl
              have HBz : Hid (Below w.heap.size w (w.alloc (.cells s.bar 28))) := Lib.hid (below_allocS (Below.refl _ _) _)
              have hz := fun i => cell_of_rowAt rz i
              go_upto_region 1 with fail
              go_wp2_with fail
              refine (counts5 HC3.out (w.alloc (.cells s.bar 28)) (by simp)).mono ?_
              rintro e w4 ⟨rfl, hb⟩
              have rn := rowKeep hb rz
              have HBn := Lib.hid (bthen HBz.out hb)
              clear hb rz HBz hz
              have rz := rn
              have HBz := HBn
              clear rn HBn
              have hz := fun i => cell_of_rowAt rz i
              go_wp2_with fail
              refine (smaybe_at HC4.out _ HBG.out.2.2.1 HBG.out.2.2.2).mono ?_
              rintro e w5 ⟨rfl, hb⟩
              have rn := rowKeep hb rz
              have HBn := Lib.hid (bthen HBz.out hb)
              clear hb rz HBz hz
              have rz := rn
              have HBz := HBn
              clear rn HBn
              have hz := fun i => cell_of_rowAt rz i
              go_wp2_with fail
              refine (fields_at HC5.out (HOK.out.j.below HBz.out)).mono ?_
              rintro e w6 ⟨rfl, hb⟩
              have rn := rowKeep hb rz
              have HBn := Lib.hid (bthen HBz.out hb)
              clear hb rz HBz hz
              have rz := rn
              have HBz := HBn
              clear rn HBn
              have hz := fun i => cell_of_rowAt rz i
              go_wp2_with fail
              refine (fields_at HC6.out (HOK.out.m.below HBz.out)).mono ?_
              rintro e w7 ⟨rfl, hb⟩
              have rn := rowKeep hb rz
              have HBn := Lib.hid (bthen HBz.out hb)
              clear hb rz HBz hz
              have rz := rn
              have HBz := HBn
              clear rn HBn
              have hz := fun i => cell_of_rowAt rz i
              go_wp2_with fail
              go_ret
              exact ⟨by first | rfl | simp [*], HBz.out⟩
def noBar (s : Sta) : Bool := (((s.j.n : Int) + (s.m.n : Int)) == 0) && (s.bn == 0) && (s.bst == 0) && (s.bnum == 0) && (s.bep == 0) && (s.due == 0) && (s.ack == 0) && (s.told == 0) && zeroPl s.bp
def rightS (s : Sta) : Bool := !decide (s.nn < 2) && !decide (16 < s.nn) && !decide (s.self < 0) && !decide (s.nn ≤ s.self) && !decide (1073741824 < s.clk) && (cntB s.clk && cntB s.dec && cntB s.frz) && maybeB s.p (decide (0 < s.frz)) && fldsB s.f.n s.f.l && (if s.self = 0 then ledB s s.nn else noBar s)
set_option maxHeartbeats 16000000 in
theorem sright_led (s : Sta) (w : World) (h : StaOk w s) (hj : s.j.n ≤ 1000000) (hm : s.m.n ≤ 1000000) (e0 : decide (s.nn < 2) = false) (e1 : decide (16 < s.nn) = false) (e2 : decide (s.self < 0) = false) (e3 : decide (s.nn ≤ s.self) = false) (e4 : decide (1073741824 < s.clk) = false) (e5 : (cntB s.clk && cntB s.dec && cntB s.frz) = true) (e6 : maybeB s.p (decide (0 < s.frz)) = true) (e7 : fldsB s.f.n s.f.l = true) (h0 : s.self = 0) : Calls Tryz.prog 9 #[.agg s.cells] w fun e w' => e = .returned (.bool (ledB s s.nn)) ∧ Below w.heap.size w w' := by
  have HOK := Lib.hid h
  have HBG := Lib.hid h.big
  clear h
  have HC5 := Lib.hid e5
  clear e5
  have HC6 := Lib.hid e6
  clear e6
  have HC7 := Lib.hid e7
  clear e7
  have g0 : (s.self == 0) = true := by simp [h0]
  obtain ⟨z, hz1⟩ : ∃ z, ledB s s.nn = z := ⟨_, rfl⟩
  rw [hz1]
  have HZ := Lib.hid (fun (w' : World) (o : StaOk w' s) => (hz1 ▸ sled_any s s.nn w' o : Calls Tryz.prog 23 #[.agg s.bar, .int .i64 s.nn] w' fun e w2 => e = .returned (.bool z) ∧ Below w'.heap.size w' w2))
  clear hz1 h0
  go_enter Tryz.func9, Tryz.ntmps9
  have rz : rowAt (w.alloc (.cells s.cells 30)) w.heap.size = some (s.cells, 30) := rowAt_alloc_at _ _ _ _ rfl
  have HBz : Hid (Below w.heap.size w (w.alloc (.cells s.cells 30))) := Lib.hid (below_allocS (Below.refl _ _) _)
  have hz := fun i => cell_of_rowAt rz i
  go_upto_region 1 with fail
  go_wp2_with fail
  refine (counts3 HC5.out (w.alloc (.cells s.cells 30)) (by simp)).mono ?_
  rintro e w6 ⟨rfl, hb⟩
  have rn := rowKeep hb rz
  have HBn := Lib.hid (bthen HBz.out hb)
  clear hb rz HBz hz
  have rz := rn
  have HBz := HBn
  clear rn HBn
  have hz := fun i => cell_of_rowAt rz i
  go_wp2_with fail
  refine (smaybe_at HC6.out _ HBG.out.1 HBG.out.2.1).mono ?_
  rintro e w7 ⟨rfl, hb⟩
  have rn := rowKeep hb rz
  have HBn := Lib.hid (bthen HBz.out hb)
  clear hb rz HBz hz
  have rz := rn
  have HBz := HBn
  clear rn HBn
  have hz := fun i => cell_of_rowAt rz i
  go_wp2_with fail
  refine (fields_at HC7.out (HOK.out.f.below HBz.out)).mono ?_
  rintro e w8 ⟨rfl, hb⟩
  have rn := rowKeep hb rz
  have HBn := Lib.hid (bthen HBz.out hb)
  clear hb rz HBz hz
  have rz := rn
  have HBz := HBn
  clear rn HBn
  have hz := fun i => cell_of_rowAt rz i
  go_wp2_with fail
  refine (HZ.out _ (HOK.out.below HBz.out)).mono ?_
  rintro e w9 ⟨rfl, hb⟩
  have HB9 := Lib.hid (bthen HBz.out hb)
  clear hb
  go_wp2_with fail
  go_ret
  exact ⟨by first | rfl | simp [*], HB9.out⟩
set_option maxHeartbeats 16000000 in
theorem sright_bar (s : Sta) (w : World) (h : StaOk w s) (hj : s.j.n ≤ 1000000) (hm : s.m.n ≤ 1000000) (e0 : decide (s.nn < 2) = false) (e1 : decide (16 < s.nn) = false) (e2 : decide (s.self < 0) = false) (e3 : decide (s.nn ≤ s.self) = false) (e4 : decide (1073741824 < s.clk) = false) (e5 : (cntB s.clk && cntB s.dec && cntB s.frz) = true) (e6 : maybeB s.p (decide (0 < s.frz)) = true) (e7 : fldsB s.f.n s.f.l = true) (h0 : ¬ s.self = 0) : Calls Tryz.prog 9 #[.agg s.cells] w fun e w' => e = .returned (.bool (noBar s)) ∧ Below w.heap.size w w' := by
  have HOK := Lib.hid h
  have HBG := Lib.hid h.big
  clear h
  have HC5 := Lib.hid e5
  clear e5
  have HC6 := Lib.hid e6
  clear e6
  have HC7 := Lib.hid e7
  clear e7
  have g0 : (s.self == 0) = false := by simp [h0]
  have hw : IntKind.i64.wrap ((s.j.n : Int) + (s.m.n : Int)) = (s.j.n : Int) + (s.m.n : Int) := IntWalk.i64_in _ (by omega)
  have HZP := Lib.hid (eqPl_zero s.bp)
  obtain ⟨R, hR⟩ : ∃ R, noBar s = R := ⟨_, rfl⟩
  rw [hR]
  obtain ⟨z0, f0⟩ : ∃ b, (((s.j.n : Int) + (s.m.n : Int)) == 0) = b := ⟨_, rfl⟩
  obtain ⟨z1, f1⟩ : ∃ b, (s.bn == 0) = b := ⟨_, rfl⟩
  obtain ⟨z2, f2⟩ : ∃ b, (s.bst == 0) = b := ⟨_, rfl⟩
  obtain ⟨z3, f3⟩ : ∃ b, (s.bnum == 0) = b := ⟨_, rfl⟩
  obtain ⟨z4, f4⟩ : ∃ b, (s.bep == 0) = b := ⟨_, rfl⟩
  obtain ⟨z5, f5⟩ : ∃ b, (s.due == 0) = b := ⟨_, rfl⟩
  obtain ⟨z6, f6⟩ : ∃ b, (s.ack == 0) = b := ⟨_, rfl⟩
  obtain ⟨z7, f7⟩ : ∃ b, (s.told == 0) = b := ⟨_, rfl⟩
  obtain ⟨z8, f8⟩ : ∃ b, zeroPl s.bp = b := ⟨_, rfl⟩
  have hM : R = (z0 && z1 && z2 && z3 && z4 && z5 && z6 && z7 && z8) := by rw [← hR, ← f0, ← f1, ← f2, ← f3, ← f4, ← f5, ← f6, ← f7, ← f8]; rfl
  clear hR h0
  go_enter Tryz.func9, Tryz.ntmps9
  have rz : rowAt (w.alloc (.cells s.cells 30)) w.heap.size = some (s.cells, 30) := rowAt_alloc_at _ _ _ _ rfl
  have HBz : Hid (Below w.heap.size w (w.alloc (.cells s.cells 30))) := Lib.hid (below_allocS (Below.refl _ _) _)
  have hz := fun i => cell_of_rowAt rz i
  go_upto_region 1 with fail
  go_wp2_with fail
  refine (counts3 HC5.out (w.alloc (.cells s.cells 30)) (by simp)).mono ?_
  rintro e w6 ⟨rfl, hb⟩
  have rn := rowKeep hb rz
  have HBn := Lib.hid (bthen HBz.out hb)
  clear hb rz HBz hz
  have rz := rn
  have HBz := HBn
  clear rn HBn
  have hz := fun i => cell_of_rowAt rz i
  go_wp2_with fail
  refine (smaybe_at HC6.out _ HBG.out.1 HBG.out.2.1).mono ?_
  rintro e w7 ⟨rfl, hb⟩
  have rn := rowKeep hb rz
  have HBn := Lib.hid (bthen HBz.out hb)
  clear hb rz HBz hz
  have rz := rn
  have HBz := HBn
  clear rn HBn
  have hz := fun i => cell_of_rowAt rz i
  go_wp2_with fail
  refine (fields_at HC7.out (HOK.out.f.below HBz.out)).mono ?_
  rintro e w8 ⟨rfl, hb⟩
  have rn := rowKeep hb rz
  have HBn := Lib.hid (bthen HBz.out hb)
  clear hb rz HBz hz
  have rz := rn
  have HBz := HBn
  clear rn HBn
  have hz := fun i => cell_of_rowAt rz i
  go_upto_region 6 with fail
  cases z0
  · obtain rfl : R = false := by simpa using hM
    clear hM
    go_wp2_with fail
    go_ret
    exact ⟨by first | rfl | simp [*] | (rw [HZP.out]; simp [*]), below_allocS HBz.out _⟩
  · cases z1
    · obtain rfl : R = false := by simpa using hM
      clear hM
      go_wp2_with fail
      go_ret
      exact ⟨by first | rfl | simp [*] | (rw [HZP.out]; simp [*]), below_allocS HBz.out _⟩
    · cases z2
      · obtain rfl : R = false := by simpa using hM
        clear hM
        go_wp2_with fail
        go_ret
        exact ⟨by first | rfl | simp [*] | (rw [HZP.out]; simp [*]), below_allocS HBz.out _⟩
      · cases z3
        · obtain rfl : R = false := by simpa using hM
          clear hM
          go_wp2_with fail
          go_ret
          exact ⟨by first | rfl | simp [*] | (rw [HZP.out]; simp [*]), below_allocS HBz.out _⟩
        · cases z4
          · obtain rfl : R = false := by simpa using hM
            clear hM
            go_wp2_with fail
            go_ret
            exact ⟨by first | rfl | simp [*] | (rw [HZP.out]; simp [*]), below_allocS HBz.out _⟩
          · cases z5
            · obtain rfl : R = false := by simpa using hM
              clear hM
              go_wp2_with fail
              go_ret
              exact ⟨by first | rfl | simp [*] | (rw [HZP.out]; simp [*]), below_allocS HBz.out _⟩
            · cases z6
              · obtain rfl : R = false := by simpa using hM
                clear hM
                go_wp2_with fail
                go_ret
                exact ⟨by first | rfl | simp [*] | (rw [HZP.out]; simp [*]), below_allocS HBz.out _⟩
              · cases z7
                · obtain rfl : R = false := by simpa using hM
                  clear hM
                  go_wp2_with fail
                  go_ret
                  exact ⟨by first | rfl | simp [*] | (rw [HZP.out]; simp [*]), below_allocS HBz.out _⟩
                · obtain rfl : R = z8 := by simpa using hM
                  clear hM
                  have HZ8 := Lib.hid f8
                  clear f8
                  go_wp2_with fail
                  go_ret
                  exact ⟨by rw [HZP.out, HZ8.out]; rfl, below_allocS HBz.out _⟩
set_option maxHeartbeats 16000000 in
theorem sright_any (s : Sta) (w : World) (h : StaOk w s) (hj : s.j.n ≤ 1000000) (hm : s.m.n ≤ 1000000) : Calls Tryz.prog 9 #[.agg s.cells] w fun e w' => e = .returned (.bool (rightS s)) ∧ Below w.heap.size w w' := by
  have HOK := Lib.hid h
  have HBG := Lib.hid h.big
  clear h
  obtain ⟨R, hR⟩ : ∃ R, rightS s = R := ⟨_, rfl⟩
  obtain ⟨b0, e0⟩ : ∃ b, decide (s.nn < 2) = b := ⟨_, rfl⟩
  obtain ⟨b1, e1⟩ : ∃ b, decide (16 < s.nn) = b := ⟨_, rfl⟩
  obtain ⟨b2, e2⟩ : ∃ b, decide (s.self < 0) = b := ⟨_, rfl⟩
  obtain ⟨b3, e3⟩ : ∃ b, decide (s.nn ≤ s.self) = b := ⟨_, rfl⟩
  obtain ⟨b4, e4⟩ : ∃ b, decide (1073741824 < s.clk) = b := ⟨_, rfl⟩
  obtain ⟨b5, e5⟩ : ∃ b, (cntB s.clk && cntB s.dec && cntB s.frz) = b := ⟨_, rfl⟩
  obtain ⟨b6, e6⟩ : ∃ b, maybeB s.p (decide (0 < s.frz)) = b := ⟨_, rfl⟩
  obtain ⟨b7, e7⟩ : ∃ b, fldsB s.f.n s.f.l = b := ⟨_, rfl⟩
  have hM : R = (!b0 && !b1 && !b2 && !b3 && !b4 && b5 && b6 && b7 && (if s.self = 0 then ledB s s.nn else noBar s)) := by rw [← hR, ← e0, ← e1, ← e2, ← e3, ← e4, ← e5, ← e6, ← e7]; rfl
  rw [hR]
  clear hR
  have HC5 := Lib.hid e5
  clear e5
  have HC6 := Lib.hid e6
  clear e6
  have HC7 := Lib.hid e7
  clear e7
  cases b0
  · cases b1
    · cases b2
      · cases b3
        · cases b4
          · cases b5
            · obtain rfl : R = false := by simpa using hM
              clear hM
              go_enter Tryz.func9, Tryz.ntmps9
              have rz : rowAt (w.alloc (.cells s.cells 30)) w.heap.size = some (s.cells, 30) := rowAt_alloc_at _ _ _ _ rfl
              have HBz : Hid (Below w.heap.size w (w.alloc (.cells s.cells 30))) := Lib.hid (below_allocS (Below.refl _ _) _)
              have hz := fun i => cell_of_rowAt rz i
              go_upto_region 1 with fail
              go_wp2_with fail
              refine (counts3 HC5.out (w.alloc (.cells s.cells 30)) (by simp)).mono ?_
              rintro e w6 ⟨rfl, hb⟩
              have rn := rowKeep hb rz
              have HBn := Lib.hid (bthen HBz.out hb)
              clear hb rz HBz hz
              have rz := rn
              have HBz := HBn
              clear rn HBn
              have hz := fun i => cell_of_rowAt rz i
              go_wp2_with fail
              go_ret
              exact ⟨by first | rfl | simp [*], HBz.out⟩
            · cases b6
              · obtain rfl : R = false := by simpa using hM
                clear hM
                go_enter Tryz.func9, Tryz.ntmps9
                have rz : rowAt (w.alloc (.cells s.cells 30)) w.heap.size = some (s.cells, 30) := rowAt_alloc_at _ _ _ _ rfl
                have HBz : Hid (Below w.heap.size w (w.alloc (.cells s.cells 30))) := Lib.hid (below_allocS (Below.refl _ _) _)
                have hz := fun i => cell_of_rowAt rz i
                go_upto_region 1 with fail
                go_wp2_with fail
                refine (counts3 HC5.out (w.alloc (.cells s.cells 30)) (by simp)).mono ?_
                rintro e w6 ⟨rfl, hb⟩
                have rn := rowKeep hb rz
                have HBn := Lib.hid (bthen HBz.out hb)
                clear hb rz HBz hz
                have rz := rn
                have HBz := HBn
                clear rn HBn
                have hz := fun i => cell_of_rowAt rz i
                go_wp2_with fail
                refine (smaybe_at HC6.out _ HBG.out.1 HBG.out.2.1).mono ?_
                rintro e w7 ⟨rfl, hb⟩
                have rn := rowKeep hb rz
                have HBn := Lib.hid (bthen HBz.out hb)
                clear hb rz HBz hz
                have rz := rn
                have HBz := HBn
                clear rn HBn
                have hz := fun i => cell_of_rowAt rz i
                go_wp2_with fail
                go_ret
                exact ⟨by first | rfl | simp [*], HBz.out⟩
              · cases b7
                · obtain rfl : R = false := by simpa using hM
                  clear hM
                  go_enter Tryz.func9, Tryz.ntmps9
                  have rz : rowAt (w.alloc (.cells s.cells 30)) w.heap.size = some (s.cells, 30) := rowAt_alloc_at _ _ _ _ rfl
                  have HBz : Hid (Below w.heap.size w (w.alloc (.cells s.cells 30))) := Lib.hid (below_allocS (Below.refl _ _) _)
                  have hz := fun i => cell_of_rowAt rz i
                  go_upto_region 1 with fail
                  go_wp2_with fail
                  refine (counts3 HC5.out (w.alloc (.cells s.cells 30)) (by simp)).mono ?_
                  rintro e w6 ⟨rfl, hb⟩
                  have rn := rowKeep hb rz
                  have HBn := Lib.hid (bthen HBz.out hb)
                  clear hb rz HBz hz
                  have rz := rn
                  have HBz := HBn
                  clear rn HBn
                  have hz := fun i => cell_of_rowAt rz i
                  go_wp2_with fail
                  refine (smaybe_at HC6.out _ HBG.out.1 HBG.out.2.1).mono ?_
                  rintro e w7 ⟨rfl, hb⟩
                  have rn := rowKeep hb rz
                  have HBn := Lib.hid (bthen HBz.out hb)
                  clear hb rz HBz hz
                  have rz := rn
                  have HBz := HBn
                  clear rn HBn
                  have hz := fun i => cell_of_rowAt rz i
                  go_wp2_with fail
                  refine (fields_at HC7.out (HOK.out.f.below HBz.out)).mono ?_
                  rintro e w8 ⟨rfl, hb⟩
                  have rn := rowKeep hb rz
                  have HBn := Lib.hid (bthen HBz.out hb)
                  clear hb rz HBz hz
                  have rz := rn
                  have HBz := HBn
                  clear rn HBn
                  have hz := fun i => cell_of_rowAt rz i
                  go_wp2_with fail
                  go_ret
                  exact ⟨by first | rfl | simp [*], HBz.out⟩
                · by_cases h0 : s.self = 0
                  · rw [show R = ledB s s.nn by simpa [h0] using hM]
                    exact sright_led s w HOK.out hj hm e0 e1 e2 e3 e4 HC5.out HC6.out HC7.out h0
                  · rw [show R = noBar s by simpa [h0] using hM]
                    exact sright_bar s w HOK.out hj hm e0 e1 e2 e3 e4 HC5.out HC6.out HC7.out h0
          · obtain rfl : R = false := by simpa using hM
            clear hM
            go_enter Tryz.func9, Tryz.ntmps9
            have rz : rowAt (w.alloc (.cells s.cells 30)) w.heap.size = some (s.cells, 30) := rowAt_alloc_at _ _ _ _ rfl
            have HBz : Hid (Below w.heap.size w (w.alloc (.cells s.cells 30))) := Lib.hid (below_allocS (Below.refl _ _) _)
            have hz := fun i => cell_of_rowAt rz i
            go_upto_region 1 with fail
            go_wp2_with fail
            go_ret
            exact ⟨by first | rfl | simp [*], HBz.out⟩
        · obtain rfl : R = false := by simpa using hM
          clear hM
          go_enter Tryz.func9, Tryz.ntmps9
          have rz : rowAt (w.alloc (.cells s.cells 30)) w.heap.size = some (s.cells, 30) := rowAt_alloc_at _ _ _ _ rfl
          have HBz : Hid (Below w.heap.size w (w.alloc (.cells s.cells 30))) := Lib.hid (below_allocS (Below.refl _ _) _)
          have hz := fun i => cell_of_rowAt rz i
          go_upto_region 1 with fail
          go_wp2_with fail
          go_ret
          exact ⟨by first | rfl | simp [*], HBz.out⟩
      · obtain rfl : R = false := by simpa using hM
        clear hM
        go_enter Tryz.func9, Tryz.ntmps9
        have rz : rowAt (w.alloc (.cells s.cells 30)) w.heap.size = some (s.cells, 30) := rowAt_alloc_at _ _ _ _ rfl
        have HBz : Hid (Below w.heap.size w (w.alloc (.cells s.cells 30))) := Lib.hid (below_allocS (Below.refl _ _) _)
        have hz := fun i => cell_of_rowAt rz i
        go_upto_region 1 with fail
        go_wp2_with fail
        go_ret
        exact ⟨by first | rfl | simp [*], HBz.out⟩
    · obtain rfl : R = false := by simpa using hM
      clear hM
      go_enter Tryz.func9, Tryz.ntmps9
      have rz : rowAt (w.alloc (.cells s.cells 30)) w.heap.size = some (s.cells, 30) := rowAt_alloc_at _ _ _ _ rfl
      have HBz : Hid (Below w.heap.size w (w.alloc (.cells s.cells 30))) := Lib.hid (below_allocS (Below.refl _ _) _)
      have hz := fun i => cell_of_rowAt rz i
      go_upto_region 1 with fail
      go_wp2_with fail
      go_ret
      exact ⟨by first | rfl | simp [*], HBz.out⟩
  · obtain rfl : R = false := by simpa using hM
    clear hM
    go_enter Tryz.func9, Tryz.ntmps9
    have rz : rowAt (w.alloc (.cells s.cells 30)) w.heap.size = some (s.cells, 30) := rowAt_alloc_at _ _ _ _ rfl
    have HBz : Hid (Below w.heap.size w (w.alloc (.cells s.cells 30))) := Lib.hid (below_allocS (Below.refl _ _) _)
    have hz := fun i => cell_of_rowAt rz i
    go_upto_region 1 with fail
    go_wp2_with fail
    go_ret
    exact ⟨by first | rfl | simp [*], HBz.out⟩
end Go.Proofs.YtinhaipnmmgplaaGreat
