/-
  Layer 4 (counter): the type api.Counter, 579 ints; New, and the reference's.
-/
import Derived.Test.YtinhaipnmmgplaaGreatZGC
import Derived.Test.YtinhaipnmmgplaaGreatZGD
namespace Go.Proofs.YtinhaipnmmgplaaGreat
set_option maxRecDepth 20000
open Go.RowKit
set_option linter.unusedSimpArgs false
section
variable (ρ : Operand → Value) (d : Option Tmp) (T : TypeId) (p : String) (af : Array Edge) (gd : Option (Nat × Bool)) (x y z : Operand) (ty' : TypeId) (w : World)
theorem xstore_counter : (execOp ρ ⟨d, .store 53 x y, T, p, af, gd⟩).run Tryz.prog w = storeAgg Tryz.prog w 53 (ρ x) (ρ y) := rfl
theorem xload_counter : (execOp ρ ⟨d, .load 53 x, T, p, af, gd⟩).run Tryz.prog w = loadAgg Tryz.prog w 53 (ρ x) := rfl
theorem xalloc_counter : (execOp ρ ⟨d, .alloc 53, T, p, af, gd⟩).run Tryz.prog w = .ok (.value (.pointer (some ⟨w.heap.size, 0, none⟩))) (w.alloc (.cells (ints 579 fun _ => 0) 53)) :=
  (exec_alloc ..).trans (allocAgg_ok (by kernel_rfl))
theorem xbuild_counter0 : (execOp ρ ⟨d, .build 53 #[], T, p, af, gd⟩).run Tryz.prog w = .ok (.value (.agg (ints 579 fun _ => 0))) w := by kernel_rfl
theorem xeql_counter : (execOp ρ ⟨d, .binOp .eql 53 x y ty', T, p, af, gd⟩).run Tryz.prog w = eqlAgg Tryz.prog w .eql 53 x y (ρ x) (ρ y) := rfl
noncomputable def build3 (w : World) (u v t : Value) : Result Next := ((do pure (Next.value (← Instr.build 53 #[(0, u), (1, v), (2, t)])) : Sem Next)).run Tryz.prog w
theorem xbuild_counter3 : (execOp ρ ⟨d, .build 53 #[(0, x), (1, y), (2, z)], T, p, af, gd⟩).run Tryz.prog w = build3 w (ρ x) (ρ y) (ρ z) := by simp [execOp, build3]
end
def baseV (i l h : Int) : Nat → Int := fun q => if q = 0 then i else if q = 1 then l else if q = 2 then h else 0
theorem build3_ints (w : World) (i l h : Int) : build3 w (.int .i64 i) (.int .i64 l) (.int .i64 h) = .ok (.value (.agg (ints 579 (baseV i l h)))) w := by kernel_rfl
/-- 288 cells from o on, set to v. -/
def put (o : Nat) (v r : Nat → Int) : Nat → Int := fun i => if o ≤ i ∧ i < o + 288 then v (i - o) else r i
theorem splice_put (o : Nat) (v r : Nat → Int) (h : o + 288 ≤ 579) : splice (ints 579 r) o (ints 288 v) = ints 579 (put o v r) := splice_ints 579 288 o r v h
theorem load_counter (w : World) (g : Nat) (h : (rowAt w g).isSome = true) (hn : 0 + 579 ≤ (rowCells w g).size) :
    loadAgg Tryz.prog w 53 (.pointer (some ⟨g, 0, none⟩)) = .ok (.value (.agg (cut (rowCells w g) 0 579))) w := loadAgg_row Tryz.underlying53 rfl (by kernel_rfl) h hn
theorem load_counter_later {B : Nat} {w : World} (x : Later B w) (g o : Nat) (hg : g < B) :
    loadAgg Tryz.prog x.wd 53 (.pointer (some ⟨g, o, none⟩)) = if (rowAt w g).isSome = true ∧ o + 579 ≤ (rowCells w g).size then .ok (.value (.agg (cut (rowCells w g) o 579))) x.wd else stuckLoad Tryz.prog x.wd 53 g o :=
  loadAgg_later x Tryz.underlying53 rfl (by kernel_rfl) hg
theorem store_counter (w : World) (g : Nat) (f : Nat → Int) (h : (rowAt w g).isSome = true) (hn : 0 + 579 ≤ (rowCells w g).size) :
    storeAgg Tryz.prog w 53 (.pointer (some ⟨g, 0, none⟩)) (.agg (ints 579 f)) = .ok .skip (w.setRow g (splice (rowCells w g) 0 (ints 579 f))) :=
  storeAgg_row (by rw [size_ints]; kernel_rfl) (one_ints _ _) h (by rw [size_ints]; exact hn)
theorem eq_counter' : EqInt Tryz.prog 5 53 (1 + (1 + (1 + (288 + (288 + 0))))) := by
  refine EqInt.struct (D := 4) Tryz.underlying53 (by kernel_rfl) (by kernel_rfl) ?_
  refine EqFields.cons (by decide) rfl (int_of (EqInt.int Tryz.underlying3) (by omega)) ?_
  refine EqFields.cons (by decide) rfl (int_of (EqInt.int Tryz.underlying3) (by omega)) ?_
  refine EqFields.cons (by decide) rfl (int_of (EqInt.int Tryz.underlying3) (by omega)) ?_
  refine EqFields.cons (by decide) rfl (int_of eq_rights (by omega)) ?_
  exact EqFields.cons (by decide) rfl (int_of eq_rights (by omega)) (EqFields.nil _)
theorem eq_counter : EqInt Tryz.prog 5 53 579 := by
  have e : 1 + (1 + (1 + (288 + (288 + 0)))) = 579 := by decide
  rw [← e]
  exact eq_counter'
theorem eql_counter (w : World) (x y : Operand) (f g : Nat → Int) : eqlAgg Tryz.prog w .eql 53 x y (.agg (ints 579 f)) (.agg (ints 579 g)) = .ok (.value (.bool (eqI 579 f g))) w :=
  (eqlAgg_ints Tryz.underlying53 rfl (by kernel_rfl) (by kernel_rfl) (int_of eq_counter (by omega)) w x y f g).1
attribute [local go_sem] rowCells rowAt_drewN get_ints getE_ints set_ints size_ints rowAt_alloc rowAt_drew setRow_alloc setRow_drewN setRow_drew setCell_alloc setCell_drewN splice_upd splice_put splice_all load_vec_cut load_vecs_cut load_rights_cut load_counter store_vec store_rights store_counter eql_vec neq_vec index_vec eql_rights neq_rights eql_counter index_vecs cut_ints sub_zero
attribute [local go_sem ↓] xload_vec xstore_vec xalloc_vec xeql_vec xneq_vec xindex_vec xbuild_vec0 xload_rights xstore_rights xalloc_rights xeql_rights xneq_rights xbuild_rights0 xload_vecs xindex_vecs xload_counter xstore_counter xalloc_counter xbuild_counter0 xeql_counter xbuild_counter3
attribute [local go_sem] rowAt_setRow rowAt_setCell load_vec_cut_later load_rights_later load_counter_later Later.cell Later.frozen build3_ints
attribute [local go_sem] rn_true rn_false re_true re_false eqI_self
theorem cis_is {n : Int} {b : Bool} (h : isB n = b) (w : World) : Calls Tryz.prog 43 #[.int .i64 n] w fun e w' => e = .returned (.bool b) ∧ w = w' := by rw [← h]; exact is_any n w
theorem ris_is {n : Int} {b : Bool} (h : isB n = b) (w : World) : Calls Tryz.prog 36 #[.int .i64 n] w fun e w' => e = .returned (.bool b) ∧ w = w' := by rw [← h]; exact ris_any n w
/-! New. -/
def newOk (i l h : Int) : Bool := isB i && isB l && isB h && decide (l ≤ i) && decide (i ≤ h) && decide (h - l ≤ 1099511627776)
def newE (i l h : Int) : Int := if newOk i l h then 0 else 2
def newV (i l h : Int) : Nat → Int := fun q => if q = 0 then i else if q = 1 then l else if q = 2 then h else if q = 3 then i - l else if q = 291 then h - i else 0
def newF (i l h : Int) : Nat → Int := if newOk i l h then newV i l h else fun _ => 0
theorem newOk_iff {i l h : Int} : newOk i l h = true ↔ isB i = true ∧ isB l = true ∧ isB h = true ∧ l ≤ i ∧ i ≤ h ∧ h - l ≤ 1099511627776 := by simp [newOk, and_assoc]
theorem newV_sets (i l h : Int) : (ints 579 fun j => if j = 291 then h - i else if j = 3 then i - l else baseV i l h j) = ints 579 (newV i l h) := by
  refine ints_congr fun q _ => ?_
  unfold baseV newV
  by_cases h1 : q = 291
  · subst h1; rfl
  · by_cases h2 : q = 3
    · subst h2; rfl
    · simp only [h1, h2, if_false]
theorem newCases (i l h : Int) : ∃ s1 s2 s3, subOk i l = s1 ∧ subOk h i = s2 ∧ subOk h l = s3 ∧
    ((s1 = false ∧ newOk i l h = false) ∨ (s1 = true ∧ s2 = false ∧ newOk i l h = false) ∨ (s1 = true ∧ s2 = true ∧ s3 = false ∧ newOk i l h = false) ∨
     (s1 = true ∧ s2 = true ∧ s3 = true ∧ i - l < 0 ∧ newOk i l h = false) ∨ (s1 = true ∧ s2 = true ∧ s3 = true ∧ ¬ i - l < 0 ∧ h - i < 0 ∧ newOk i l h = false) ∨
     (s1 = true ∧ s2 = true ∧ s3 = true ∧ ¬ i - l < 0 ∧ ¬ h - i < 0 ∧ newOk i l h = true ∧ Hid ((ints 579 fun j => if j = 291 then h - i else if j = 3 then i - l else baseV i l h j) = ints 579 (newV i l h)))) := by
  refine ⟨_, _, _, rfl, rfl, rfl, ?_⟩
  have eV := Lib.hid (newV_sets i l h)
  have e : newOk i l h = true ↔ subOk i l = true ∧ subOk h i = true ∧ subOk h l = true ∧ ¬ i - l < 0 ∧ ¬ h - i < 0 := by
    rw [newOk_iff]
    simp only [subOk, Bool.and_eq_true, isB_iff]
    omega
  cases h1 : subOk i l <;> cases h2 : subOk h i <;> cases h3 : subOk h l <;> cases h4 : newOk i l h <;> simp [h1, h2, h3, h4, eV] at e ⊢ <;> omega
theorem is_below {n : Int} {b : Bool} (h : isB n = b) (w : World) : Calls Tryz.prog 43 #[.int .i64 n] w fun e w' => e = .returned (.bool b) ∧ Below w.heap.size w w' :=
  (cis_is h w).mono fun _ _ ⟨h1, h2⟩ => ⟨h1, h2 ▸ Below.refl _ _⟩
theorem ris_below {n : Int} {b : Bool} (h : isB n = b) (w : World) : Calls Tryz.prog 36 #[.int .i64 n] w fun e w' => e = .returned (.bool b) ∧ Below w.heap.size w w' :=
  (ris_is h w).mono fun _ _ ⟨h1, h2⟩ => ⟨h1, h2 ▸ Below.refl _ _⟩
theorem rnewCases (i l h : Int) : ∃ b1 b2 b3, isB i = b1 ∧ isB l = b2 ∧ isB h = b3 ∧
    ((b1 = false ∧ newOk i l h = false) ∨ (b1 = true ∧ b2 = false ∧ newOk i l h = false) ∨ (b1 = true ∧ b2 = true ∧ b3 = false ∧ newOk i l h = false) ∨
     (b1 = true ∧ b2 = true ∧ b3 = true ∧ i < l ∧ newOk i l h = false) ∨ (b1 = true ∧ b2 = true ∧ b3 = true ∧ ¬ i < l ∧ h < i ∧ newOk i l h = false) ∨
     (b1 = true ∧ b2 = true ∧ b3 = true ∧ ¬ i < l ∧ ¬ h < i ∧ 1099511627776 < h - l ∧ newOk i l h = false) ∨
     (b1 = true ∧ b2 = true ∧ b3 = true ∧ ¬ i < l ∧ ¬ h < i ∧ ¬ 1099511627776 < h - l ∧ newOk i l h = true ∧ Hid ((ints 579 fun j => if j = 291 then h - i else if j = 3 then i - l else baseV i l h j) = ints 579 (newV i l h)))) := by
  refine ⟨_, _, _, rfl, rfl, rfl, ?_⟩
  have eV := Lib.hid (newV_sets i l h)
  have e := newOk_iff (i := i) (l := l) (h := h)
  cases h1 : isB i <;> cases h2 : isB l <;> cases h3 : isB h <;> cases h4 : newOk i l h <;> simp [h1, h2, h3, h4, eV] at e ⊢ <;> omega
end Go.Proofs.YtinhaipnmmgplaaGreat

/-
  Layer 4 (counter): whether any counter may be.
-/
namespace Go.Proofs.YtinhaipnmmgplaaGreat
set_option maxRecDepth 20000
open Go.RowKit
set_option linter.unusedSimpArgs false
attribute [local go_sem] rowCells rowAt_drewN get_ints getE_ints set_ints size_ints rowAt_alloc rowAt_drew setRow_alloc setRow_drewN setRow_drew setCell_alloc setCell_drewN splice_upd splice_put splice_all load_vec_cut load_vecs_cut load_rights_cut load_counter store_vec store_rights store_counter eql_vec neq_vec index_vec eql_rights neq_rights eql_counter index_vecs cut_ints sub_zero
attribute [local go_sem ↓] xload_vec xstore_vec xalloc_vec xeql_vec xneq_vec xindex_vec xbuild_vec0 xload_rights xstore_rights xalloc_rights xeql_rights xneq_rights xbuild_rights0 xload_vecs xindex_vecs xload_counter xstore_counter xalloc_counter xbuild_counter0 xeql_counter xbuild_counter3
attribute [local go_sem] rowAt_setRow rowAt_setCell load_vec_cut_later load_rights_later load_counter_later Later.cell Later.frozen build3_ints
attribute [local go_sem] rn_true rn_false re_true re_false eqI_self
theorem vsum_is {f : Nat → Int} {n e : Int} (h1 : sumN (lst f) = n) (h2 : sumE (lst f) = e) (w : World) : Calls Tryz.prog 93 #[.agg (ints 16 f)] w fun x w' =>
    x = .returned (.tuple #[.int .i64 n, .int .i64 e]) ∧ Below w.heap.size w w' := by subst h1; subst h2; exact vsum_any f w
theorem rvsum_is {f : Nat → Int} {n e : Int} (h1 : sumN (lst f) = n) (h2 : sumE (lst f) = e) (w : World) : Calls Tryz.prog 59 #[.agg (ints 16 f)] w fun x w' =>
    x = .returned (.tuple #[.int .i64 n, .int .i64 e]) ∧ Below w.heap.size w w' := by subst h1; subst h2; exact rvsum_any f w
theorem add_is {a b : Int} {s : Bool} (h : addOk a b = s) (w : World) : Calls Tryz.prog 94 #[.int .i64 a, .int .i64 b] w fun e w' =>
    e = .returned (.tuple #[.int .i64 (rn s (a + b)), .int .i64 (re s)]) ∧ Below w.heap.size w w' := by rw [← h]; exact add_any a b w
theorem radd_is {a b : Int} {s : Bool} (h : addOk a b = s) (w : World) : Calls Tryz.prog 60 #[.int .i64 a, .int .i64 b] w fun e w' =>
    e = .returned (.tuple #[.int .i64 (rn s (a + b)), .int .i64 (re s)]) ∧ w = w' := by rw [← h]; exact radd_any a b w
theorem sumE_or (l : List Int) : sumE l = 0 ∨ sumE l = 2 := by unfold sumE; split <;> simp
/-- What was given, and what was used of the others: a difference. -/
def givenB (r o : Nat → Int) (room : Int) : Bool := decide (sumE (lst r) = 0) && decide (sumE (lst (sub 16 o)) = 0) && addOk room (sumN (lst (sub 16 o))) && decide (sumN (lst r) = room + sumN (lst (sub 16 o)))
theorem givenCases (r o : Nat → Int) (room : Int) : ∃ N1 E1 N2 E2 s, sumN (lst r) = N1 ∧ sumE (lst r) = E1 ∧ sumN (lst (sub 16 o)) = N2 ∧ sumE (lst (sub 16 o)) = E2 ∧ addOk room N2 = s ∧
    ((E1 = 2 ∧ givenB r o room = false) ∨ (E1 = 0 ∧ E2 = 2 ∧ givenB r o room = false) ∨ (E1 = 0 ∧ E2 = 0 ∧ s = false ∧ givenB r o room = false) ∨
     (E1 = 0 ∧ E2 = 0 ∧ s = true ∧ ¬ N1 = room + N2 ∧ givenB r o room = false) ∨ (E1 = 0 ∧ E2 = 0 ∧ s = true ∧ N1 = room + N2 ∧ givenB r o room = true)) := by
  refine ⟨_, _, _, _, _, rfl, rfl, rfl, rfl, rfl, ?_⟩
  unfold givenB
  rcases sumE_or (lst r) with h1 | h1 <;> rcases sumE_or (lst (sub 16 o)) with h2 | h2 <;> cases h3 : addOk room (sumN (lst (sub 16 o))) <;> by_cases h4 : sumN (lst r) = room + sumN (lst (sub 16 o)) <;> simp [h1, h2, h3, h4]
set_option maxHeartbeats 2000000 in
theorem given_any (r o : Nat → Int) (room : Int) (w : World) : Calls Tryz.prog 75 #[.agg (ints 288 r), .agg (ints 288 o), .int .i64 room] w fun e w' => e = .returned (.bool (givenB r o room)) ∧ Below w.heap.size w w' := by
  obtain ⟨N1, E1, N2, E2, s, a1, a2, a3, a4, a5, H⟩ := givenCases r o room
  have A1 := Lib.hid (vsum_is a1 a2)
  have A2 := Lib.hid (vsum_is a3 a4)
  have A3 := Lib.hid (add_is a5)
  clear a1 a2 a3 a4 a5
  rcases H with ⟨rfl, hN⟩ | ⟨rfl, rfl, hN⟩ | ⟨rfl, rfl, rfl, hN⟩ | ⟨rfl, rfl, rfl, c1, hN⟩ | ⟨rfl, rfl, rfl, rfl, hN⟩ <;> rw [hN] <;> clear hN <;> (
    go_enter Tryz.func75, Tryz.ntmps75
    go_wp2_with fail
    refine (A1.out _).mono ?_
    rintro e w1 ⟨rfl, hb1⟩
    have r2 : rowAt w1 (w.heap.size + 1) = some (ints 288 o, 51) := rowKeep hb1 (by simp [rowAt_alloc] <;> omega)
    go_wp2_with fail
    refine (A2.out _).mono ?_
    rintro e w2 ⟨rfl, hb2⟩
    go_wp2_with fail
    refine (A3.out _).mono ?_
    rintro e w3 ⟨rfl, hb3⟩
    have HB := Lib.hid (below2 ((hb1.trans (hb2.mono hb1.size)).trans (hb3.mono (Nat.le_trans hb1.size hb2.size))))
    clear hb1 hb2 hb3
    go_wp2
    go_ret
    refine ⟨?_, HB.out⟩
    first | rfl | (show Ending.returned (.bool (N1 == room + N2)) = _; rw [beq_eq_false_iff_ne.2 c1]))
theorem given_is {r o : Nat → Int} {room : Int} {b : Bool} (h : givenB r o room = b) (w : World) : Calls Tryz.prog 75 #[.agg (ints 288 r), .agg (ints 288 o), .int .i64 room] w fun e w' => e = .returned (.bool b) ∧ Below w.heap.size w w' := by
  rw [← h]; exact given_any r o room w

/-! Right. -/
def rightC (c : Nat → Int) : Bool := isB (c 0) && isB (c 1) && isB (c 2) && decide (c 1 ≤ c 0) && decide (c 0 ≤ c 2) && rightR (sub 3 c) && rightR (sub 291 c) && givenB (sub 3 c) (sub 291 c) (c 0 - c 1) && givenB (sub 291 c) (sub 3 c) (c 2 - c 0)
theorem rights_right_is {r : Nat → Int} {b : Bool} (h : rightR r = b) (w : World) : Calls Tryz.prog 74 #[.agg (ints 288 r)] w fun e w' => e = .returned (.bool b) ∧ Below w.heap.size w w' := by rw [← h]; exact rights_right_any r w
theorem rrights_right_is {r : Nat → Int} {b : Bool} (h : rightR r = b) (w : World) : Calls Tryz.prog 58 #[.agg (ints 288 r)] w fun e w' => e = .returned (.bool b) ∧ Below w.heap.size w w' := by rw [← h]; exact rrights_right_any r w
theorem rightCases (c : Nat → Int) : ∃ b1 b2 b3 b4 b5 b6 b7, isB (c 0) = b1 ∧ isB (c 1) = b2 ∧ isB (c 2) = b3 ∧ rightR (sub 3 c) = b4 ∧ rightR (sub 291 c) = b5 ∧ givenB (sub 3 c) (sub 291 c) (c 0 - c 1) = b6 ∧ givenB (sub 291 c) (sub 3 c) (c 2 - c 0) = b7 ∧
    ((b1 = false ∧ rightC c = false) ∨ (b1 = true ∧ b2 = false ∧ rightC c = false) ∨ (b1 = true ∧ b2 = true ∧ b3 = false ∧ rightC c = false) ∨
     (b1 = true ∧ b2 = true ∧ b3 = true ∧ c 0 < c 1 ∧ rightC c = false) ∨ (b1 = true ∧ b2 = true ∧ b3 = true ∧ ¬ c 0 < c 1 ∧ c 2 < c 0 ∧ rightC c = false) ∨
     (b1 = true ∧ b2 = true ∧ b3 = true ∧ ¬ c 0 < c 1 ∧ ¬ c 2 < c 0 ∧ b4 = false ∧ rightC c = false) ∨
     (b1 = true ∧ b2 = true ∧ b3 = true ∧ ¬ c 0 < c 1 ∧ ¬ c 2 < c 0 ∧ b4 = true ∧ b5 = false ∧ rightC c = false) ∨
     (b1 = true ∧ b2 = true ∧ b3 = true ∧ ¬ c 0 < c 1 ∧ ¬ c 2 < c 0 ∧ b4 = true ∧ b5 = true ∧ b6 = false ∧ rightC c = false) ∨
     (b1 = true ∧ b2 = true ∧ b3 = true ∧ ¬ c 0 < c 1 ∧ ¬ c 2 < c 0 ∧ b4 = true ∧ b5 = true ∧ b6 = true ∧ b7 = rightC c)) := by
  refine ⟨_, _, _, _, _, _, _, rfl, rfl, rfl, rfl, rfl, rfl, rfl, ?_⟩
  unfold rightC
  by_cases h1 : c 0 < c 1 <;> by_cases h2 : c 2 < c 0 <;> cases h3 : isB (c 0) <;> cases h4 : isB (c 1) <;> cases h5 : isB (c 2) <;> cases h6 : rightR (sub 3 c) <;> cases h7 : rightR (sub 291 c) <;> cases h8 : givenB (sub 3 c) (sub 291 c) (c 0 - c 1) <;> simp [h1, h2, Int.not_le.2, Int.not_lt.1] <;> omega
theorem wraps {a b : Int} (h1 : isB a = true) (h2 : isB b = true) : IntKind.i64.wrap (a - b) = a - b := by
  rw [isB_iff] at h1 h2
  exact IntWalk.i64_in _ (by omega)
set_option maxHeartbeats 4000000 in
theorem cright_any (c : Nat → Int) (w : World) : Calls Tryz.prog 55 #[.agg (ints 579 c)] w fun e w' => e = .returned (.bool (rightC c)) ∧ Below w.heap.size w w' := by
  obtain ⟨b1, b2, b3, b4, b5, b6, b7, a1, a2, a3, a4, a5, a6, a7, H⟩ := rightCases c
  generalize hR : rightC c = R at *
  rcases H with H | H | H | H | H | H | H | H | H
  · obtain ⟨rfl, rfl⟩ := H
    clear hR
    go_enter Tryz.func55, Tryz.ntmps55
    go_upto_region 1 with fail
    refine region_seq ?_
    repeat (go_big_quiet_step ((first | (go_at_call 43; exact quiet_call (by simp) (is_below (by assumption) _)))))
    refine wpQuiet_nil ?_
    intro w1 hb1
    have HB := Lib.hid (((Below.refl _ _).alloc (Nat.le_refl _) _).trans (hb1.mono (by simp)))
    clear hb1
    go_wp2
    go_ret
    exact ⟨rfl, HB.out⟩
  · obtain ⟨rfl, rfl, rfl⟩ := H
    clear hR
    go_enter Tryz.func55, Tryz.ntmps55
    go_upto_region 1 with fail
    refine region_seq ?_
    repeat (go_big_quiet_step ((first | (go_at_call 43; exact quiet_call (by simp) (is_below (by assumption) _)))))
    refine wpQuiet_nil ?_
    intro w1 hb1
    have HB := Lib.hid (((Below.refl _ _).alloc (Nat.le_refl _) _).trans (hb1.mono (by simp)))
    clear hb1
    go_wp2
    go_ret
    exact ⟨rfl, HB.out⟩
  · obtain ⟨rfl, rfl, rfl, rfl⟩ := H
    clear hR
    go_enter Tryz.func55, Tryz.ntmps55
    go_upto_region 1 with fail
    refine region_seq ?_
    repeat (go_big_quiet_step ((first | (go_at_call 43; exact quiet_call (by simp) (is_below (by assumption) _)))))
    refine wpQuiet_nil ?_
    intro w1 hb1
    have HB := Lib.hid (((Below.refl _ _).alloc (Nat.le_refl _) _).trans (hb1.mono (by simp)))
    clear hb1
    go_wp2
    go_ret
    exact ⟨rfl, HB.out⟩
  · obtain ⟨rfl, rfl, rfl, c1, rfl⟩ := H
    clear hR
    go_enter Tryz.func55, Tryz.ntmps55
    go_upto_region 1 with fail
    refine region_seq ?_
    repeat (go_big_quiet_step ((first | (go_at_call 43; exact quiet_call (by simp) (is_below (by assumption) _)))))
    refine wpQuiet_nil ?_
    intro w1 hb1
    have HB := Lib.hid (((Below.refl _ _).alloc (Nat.le_refl _) _).trans (hb1.mono (by simp)))
    clear hb1
    go_wp2
    go_ret
    exact ⟨rfl, HB.out⟩
  · obtain ⟨rfl, rfl, rfl, c1, c2, rfl⟩ := H
    clear hR
    go_enter Tryz.func55, Tryz.ntmps55
    go_upto_region 1 with fail
    refine region_seq ?_
    repeat (go_big_quiet_step ((first | (go_at_call 43; exact quiet_call (by simp) (is_below (by assumption) _)))))
    refine wpQuiet_nil ?_
    intro w1 hb1
    have HB := Lib.hid (((Below.refl _ _).alloc (Nat.le_refl _) _).trans (hb1.mono (by simp)))
    clear hb1
    go_wp2
    go_ret
    exact ⟨rfl, HB.out⟩
  · obtain ⟨rfl, rfl, rfl, c1, c2, rfl, rfl⟩ := H
    clear hR
    have W1 := wraps a1 a2
    have W2 := wraps a3 a1
    go_enter Tryz.func55, Tryz.ntmps55
    go_upto_region 1 with fail
    refine region_seq ?_
    repeat (go_big_quiet_step ((first | (go_at_call 43; exact quiet_call (by simp) (is_below (by assumption) _)))))
    refine wpQuiet_nil ?_
    intro w1 hb1
    have r1 : rowAt w1 w.heap.size = some (ints 579 c, 53) := rowKeep hb1 (by simp [rowAt_alloc] <;> omega)
    have n1 := rowAt_lt r1
    have k0 : w1.cell? ⟨w.heap.size, 0, none⟩ = some (.int .i64 (c 0)) := by rw [cell_of_rowAt r1]; exact get_ints 579 _ 0 (by omega)
    have k1 : w1.cell? ⟨w.heap.size, 1, none⟩ = some (.int .i64 (c 1)) := by rw [cell_of_rowAt r1]; exact get_ints 579 _ 1 (by omega)
    have k2 : w1.cell? ⟨w.heap.size, 2, none⟩ = some (.int .i64 (c 2)) := by rw [cell_of_rowAt r1]; exact get_ints 579 _ 2 (by omega)
    have HB := Lib.hid (((Below.refl _ _).alloc (Nat.le_refl _) _).trans (hb1.mono (by simp)))
    have hz1 := Lib.hid (Nat.le_of_lt n1)
    clear hb1
    go_upto_region 3 with fail
    refine region_seq ?_
    repeat (go_big_quiet_step ((first | (go_at_call 74; exact quiet_call (by simp) (rights_right_is (by assumption) _)) | (go_at_call 75; exact quiet_call (by simp) (given_is (by assumption) _)))))
    refine wpQuiet_nil ?_
    intro w2 hb2
    have HB2 := Lib.hid (HB.out.trans (hb2.mono hz1.out))
    clear hb2
    go_wp2
    go_ret
    exact ⟨rfl, HB2.out⟩
  · obtain ⟨rfl, rfl, rfl, c1, c2, rfl, rfl, rfl⟩ := H
    clear hR
    have W1 := wraps a1 a2
    have W2 := wraps a3 a1
    go_enter Tryz.func55, Tryz.ntmps55
    go_upto_region 1 with fail
    refine region_seq ?_
    repeat (go_big_quiet_step ((first | (go_at_call 43; exact quiet_call (by simp) (is_below (by assumption) _)))))
    refine wpQuiet_nil ?_
    intro w1 hb1
    have r1 : rowAt w1 w.heap.size = some (ints 579 c, 53) := rowKeep hb1 (by simp [rowAt_alloc] <;> omega)
    have n1 := rowAt_lt r1
    have k0 : w1.cell? ⟨w.heap.size, 0, none⟩ = some (.int .i64 (c 0)) := by rw [cell_of_rowAt r1]; exact get_ints 579 _ 0 (by omega)
    have k1 : w1.cell? ⟨w.heap.size, 1, none⟩ = some (.int .i64 (c 1)) := by rw [cell_of_rowAt r1]; exact get_ints 579 _ 1 (by omega)
    have k2 : w1.cell? ⟨w.heap.size, 2, none⟩ = some (.int .i64 (c 2)) := by rw [cell_of_rowAt r1]; exact get_ints 579 _ 2 (by omega)
    have HB := Lib.hid (((Below.refl _ _).alloc (Nat.le_refl _) _).trans (hb1.mono (by simp)))
    have hz1 := Lib.hid (Nat.le_of_lt n1)
    clear hb1
    go_upto_region 3 with fail
    refine region_seq ?_
    repeat (go_big_quiet_step ((first | (go_at_call 74; exact quiet_call (by simp) (rights_right_is (by assumption) _)) | (go_at_call 75; exact quiet_call (by simp) (given_is (by assumption) _)))))
    refine wpQuiet_nil ?_
    intro w2 hb2
    have HB2 := Lib.hid (HB.out.trans (hb2.mono hz1.out))
    clear hb2
    go_wp2
    go_ret
    exact ⟨rfl, HB2.out⟩
  · obtain ⟨rfl, rfl, rfl, c1, c2, rfl, rfl, rfl, rfl⟩ := H
    clear hR
    have W1 := wraps a1 a2
    have W2 := wraps a3 a1
    go_enter Tryz.func55, Tryz.ntmps55
    go_upto_region 1 with fail
    refine region_seq ?_
    repeat (go_big_quiet_step ((first | (go_at_call 43; exact quiet_call (by simp) (is_below (by assumption) _)))))
    refine wpQuiet_nil ?_
    intro w1 hb1
    have r1 : rowAt w1 w.heap.size = some (ints 579 c, 53) := rowKeep hb1 (by simp [rowAt_alloc] <;> omega)
    have n1 := rowAt_lt r1
    have k0 : w1.cell? ⟨w.heap.size, 0, none⟩ = some (.int .i64 (c 0)) := by rw [cell_of_rowAt r1]; exact get_ints 579 _ 0 (by omega)
    have k1 : w1.cell? ⟨w.heap.size, 1, none⟩ = some (.int .i64 (c 1)) := by rw [cell_of_rowAt r1]; exact get_ints 579 _ 1 (by omega)
    have k2 : w1.cell? ⟨w.heap.size, 2, none⟩ = some (.int .i64 (c 2)) := by rw [cell_of_rowAt r1]; exact get_ints 579 _ 2 (by omega)
    have HB := Lib.hid (((Below.refl _ _).alloc (Nat.le_refl _) _).trans (hb1.mono (by simp)))
    have hz1 := Lib.hid (Nat.le_of_lt n1)
    clear hb1
    go_upto_region 3 with fail
    refine region_seq ?_
    repeat (go_big_quiet_step ((first | (go_at_call 74; exact quiet_call (by simp) (rights_right_is (by assumption) _)) | (go_at_call 75; exact quiet_call (by simp) (given_is (by assumption) _)))))
    refine wpQuiet_nil ?_
    intro w2 hb2
    have HB2 := Lib.hid (HB.out.trans (hb2.mono hz1.out))
    clear hb2
    go_wp2
    go_ret
    exact ⟨rfl, HB2.out⟩
  · obtain ⟨rfl, rfl, rfl, c1, c2, rfl, rfl, rfl, rfl⟩ := H
    clear hR
    have W1 := wraps a1 a2
    have W2 := wraps a3 a1
    go_enter Tryz.func55, Tryz.ntmps55
    go_upto_region 1 with fail
    refine region_seq ?_
    repeat (go_big_quiet_step ((first | (go_at_call 43; exact quiet_call (by simp) (is_below (by assumption) _)))))
    refine wpQuiet_nil ?_
    intro w1 hb1
    have r1 : rowAt w1 w.heap.size = some (ints 579 c, 53) := rowKeep hb1 (by simp [rowAt_alloc] <;> omega)
    have n1 := rowAt_lt r1
    have k0 : w1.cell? ⟨w.heap.size, 0, none⟩ = some (.int .i64 (c 0)) := by rw [cell_of_rowAt r1]; exact get_ints 579 _ 0 (by omega)
    have k1 : w1.cell? ⟨w.heap.size, 1, none⟩ = some (.int .i64 (c 1)) := by rw [cell_of_rowAt r1]; exact get_ints 579 _ 1 (by omega)
    have k2 : w1.cell? ⟨w.heap.size, 2, none⟩ = some (.int .i64 (c 2)) := by rw [cell_of_rowAt r1]; exact get_ints 579 _ 2 (by omega)
    have HB := Lib.hid (((Below.refl _ _).alloc (Nat.le_refl _) _).trans (hb1.mono (by simp)))
    have hz1 := Lib.hid (Nat.le_of_lt n1)
    clear hb1
    go_upto_region 3 with fail
    refine region_seq ?_
    repeat (go_big_quiet_step ((first | (go_at_call 74; exact quiet_call (by simp) (rights_right_is (by assumption) _)) | (go_at_call 75; exact quiet_call (by simp) (given_is (by assumption) _)))))
    refine wpQuiet_nil ?_
    intro w2 hb2
    have HB2 := Lib.hid (HB.out.trans (hb2.mono hz1.out))
    clear hb2
    go_wp2
    go_ret
    exact ⟨rfl, HB2.out⟩

/-! The reference's. -/
def bothB (c : Nat → Int) : Bool := givenB (sub 3 c) (sub 291 c) (c 0 - c 1) && givenB (sub 291 c) (sub 3 c) (c 2 - c 0)
theorem bothCases (c : Nat → Int) : ∃ N1 E1 N2 E2 s1 N3 E3 N4 E4 s2, sumN (lst (sub 3 c)) = N1 ∧ sumE (lst (sub 3 c)) = E1 ∧ sumN (lst (sub 307 c)) = N2 ∧ sumE (lst (sub 307 c)) = E2 ∧ addOk (c 0 - c 1) N2 = s1 ∧
    sumN (lst (sub 291 c)) = N3 ∧ sumE (lst (sub 291 c)) = E3 ∧ sumN (lst (sub 19 c)) = N4 ∧ sumE (lst (sub 19 c)) = E4 ∧ addOk (c 2 - c 0) N4 = s2 ∧
    ((E1 = 2 ∧ bothB c = false) ∨
     (E1 = 0 ∧ E2 = 2 ∧ bothB c = false) ∨
     (E1 = 0 ∧ E2 = 0 ∧ s1 = false ∧ bothB c = false) ∨
     (E1 = 0 ∧ E2 = 0 ∧ s1 = true ∧ E3 = 2 ∧ bothB c = false) ∨
     (E1 = 0 ∧ E2 = 0 ∧ s1 = true ∧ E3 = 0 ∧ E4 = 2 ∧ bothB c = false) ∨
     (E1 = 0 ∧ E2 = 0 ∧ s1 = true ∧ E3 = 0 ∧ E4 = 0 ∧ s2 = false ∧ bothB c = false) ∨
     (E1 = 0 ∧ E2 = 0 ∧ s1 = true ∧ E3 = 0 ∧ E4 = 0 ∧ s2 = true ∧ ¬ N1 = c 0 - c 1 + N2 ∧ bothB c = false) ∨
     (E1 = 0 ∧ E2 = 0 ∧ s1 = true ∧ E3 = 0 ∧ E4 = 0 ∧ s2 = true ∧ N1 = c 0 - c 1 + N2 ∧ ¬ N3 = c 2 - c 0 + N4 ∧ bothB c = false) ∨
     (E1 = 0 ∧ E2 = 0 ∧ s1 = true ∧ E3 = 0 ∧ E4 = 0 ∧ s2 = true ∧ N1 = c 0 - c 1 + N2 ∧ N3 = c 2 - c 0 + N4 ∧ bothB c = true)) := by
  refine ⟨_, _, _, _, _, _, _, _, _, _, rfl, rfl, rfl, rfl, rfl, rfl, rfl, rfl, rfl, rfl, ?_⟩
  have e1 : sub 16 (sub 291 c) = sub 307 c := sub_sub 16 291 c
  have e2 : sub 16 (sub 3 c) = sub 19 c := sub_sub 16 3 c
  unfold bothB givenB
  rw [e1, e2]
  generalize sumN (lst (sub 3 c)) = N1 at *
  generalize sumN (lst (sub 307 c)) = N2 at *
  generalize sumN (lst (sub 291 c)) = N3 at *
  generalize sumN (lst (sub 19 c)) = N4 at *
  generalize addOk (c 0 - c 1) N2 = s1 at *
  generalize addOk (c 2 - c 0) N4 = s2 at *
  rcases sumE_or (lst (sub 3 c)) with h1 | h1 <;> rcases sumE_or (lst (sub 307 c)) with h2 | h2 <;> rcases sumE_or (lst (sub 291 c)) with h3 | h3 <;> rcases sumE_or (lst (sub 19 c)) with h4 | h4 <;> cases s1 <;> cases s2 <;> simp only [h1, h2, h3, h4] <;> first | (by_cases h5 : N1 = c 0 - c 1 + N2 <;> by_cases h6 : N3 = c 2 - c 0 + N4 <;> simp [h5, h6])
theorem rightC_both {c : Nat → Int} (a1 : isB (c 0) = true) (a2 : isB (c 1) = true) (a3 : isB (c 2) = true) (c1 : ¬ c 0 < c 1) (c2 : ¬ c 2 < c 0) (a4 : rightR (sub 3 c) = true) (a5 : rightR (sub 291 c) = true) : rightC c = bothB c := by
  unfold rightC bothB
  rw [a1, a2, a3, a4, a5, decide_eq_true (show c 1 ≤ c 0 by omega), decide_eq_true (show c 0 ≤ c 2 by omega)]
  simp
set_option maxHeartbeats 8000000 in
theorem crright_tail (c : Nat → Int) (w : World) (a1 : isB (c 0) = true) (a2 : isB (c 1) = true) (a3 : isB (c 2) = true) (c1 : ¬ c 0 < c 1) (c2 : ¬ c 2 < c 0) (a4 : rightR (sub 3 c) = true) (a5 : rightR (sub 291 c) = true) :
    Calls Tryz.prog 37 #[.agg (ints 579 c)] w fun e w' => e = .returned (.bool (bothB c)) ∧ Below w.heap.size w w' := by
  obtain ⟨N1, E1, N2, E2, s1, N3, E3, N4, E4, s2, q1, q2, q3, q4, q5, q6, q7, q8, q9, q10, H⟩ := bothCases c
  have A1 := Lib.hid (rvsum_is q1 q2)
  have A2 := Lib.hid (rvsum_is q3 q4)
  have A3 := Lib.hid (radd_is q5)
  have A4 := Lib.hid (rvsum_is q6 q7)
  have A5 := Lib.hid (rvsum_is q8 q9)
  have A6 := Lib.hid (radd_is q10)
  clear q1 q2 q3 q4 q5 q6 q7 q8 q9 q10
  generalize hR : bothB c = R at *
  clear hR
  have W1 := wraps a1 a2
  have W2 := wraps a3 a1
  go_enter Tryz.func37, Tryz.ntmps37
  go_upto_region 1 with fail
  refine region_seq ?_
  repeat (go_big_quiet_step ((first | (go_at_call 36; exact quiet_call (by simp) (ris_below (by assumption) _)) | (go_at_call 58; exact quiet_call (by simp) (rrights_right_is (by assumption) _)))))
  refine wpQuiet_nil ?_
  intro w1 hb1
  have r1 : rowAt w1 w.heap.size = some (ints 579 c, 53) := rowKeep hb1 (by simp [rowAt_alloc] <;> omega)
  have k0 : w1.cell? ⟨w.heap.size, 0, none⟩ = some (.int .i64 (c 0)) := by rw [cell_of_rowAt r1]; exact get_ints 579 _ 0 (by omega)
  have k1 : w1.cell? ⟨w.heap.size, 1, none⟩ = some (.int .i64 (c 1)) := by rw [cell_of_rowAt r1]; exact get_ints 579 _ 1 (by omega)
  have HB := Lib.hid (((Below.refl _ _).alloc (Nat.le_refl _) _).trans (hb1.mono (by simp)))
  clear hb1
  go_wp2_with fail
  refine (A1.out _).mono ?_
  rintro e w2 ⟨rfl, hb2⟩
  have r2 : rowAt w2 w.heap.size = some (ints 579 c, 53) := rowKeep hb2 r1
  have z1 := HB.out.size
  have HB2 := Lib.hid (HB.out.trans (hb2.mono z1))
  clear hb2 r1 k0 k1 HB
  go_wp2_with fail
  refine (A2.out _).mono ?_
  rintro e w3 ⟨rfl, hb3⟩
  have r3 : rowAt w3 w.heap.size = some (ints 579 c, 53) := rowKeep hb3 r2
  have k0 : w3.cell? ⟨w.heap.size, 0, none⟩ = some (.int .i64 (c 0)) := by rw [cell_of_rowAt r3]; exact get_ints 579 _ 0 (by omega)
  have k1 : w3.cell? ⟨w.heap.size, 1, none⟩ = some (.int .i64 (c 1)) := by rw [cell_of_rowAt r3]; exact get_ints 579 _ 1 (by omega)
  have k2 : w3.cell? ⟨w.heap.size, 2, none⟩ = some (.int .i64 (c 2)) := by rw [cell_of_rowAt r3]; exact get_ints 579 _ 2 (by omega)
  have z2 := HB2.out.size
  have HB3 := Lib.hid (HB2.out.trans (hb3.mono z2))
  clear hb3 r2 HB2 z1
  go_wp2_with fail
  refine (A3.out _).mono ?_
  rintro e w4 ⟨rfl, rfl⟩
  go_wp2_with fail
  refine (A4.out _).mono ?_
  rintro e w5 ⟨rfl, hb5⟩
  have r5 : rowAt w5 w.heap.size = some (ints 579 c, 53) := rowKeep hb5 r3
  have z3 := HB3.out.size
  have HB5 := Lib.hid (HB3.out.trans (hb5.mono z3))
  clear hb5 r3 HB3 z2 k0 k1 k2
  go_wp2_with fail
  refine (A5.out _).mono ?_
  rintro e w6 ⟨rfl, hb6⟩
  have r6 : rowAt w6 w.heap.size = some (ints 579 c, 53) := rowKeep hb6 r5
  have k0 : w6.cell? ⟨w.heap.size, 0, none⟩ = some (.int .i64 (c 0)) := by rw [cell_of_rowAt r6]; exact get_ints 579 _ 0 (by omega)
  have k2 : w6.cell? ⟨w.heap.size, 2, none⟩ = some (.int .i64 (c 2)) := by rw [cell_of_rowAt r6]; exact get_ints 579 _ 2 (by omega)
  have z5 := HB5.out.size
  have HB6 := Lib.hid (HB5.out.trans (hb6.mono z5))
  clear hb6 r5 HB5 z3
  go_wp2_with fail
  refine (A6.out _).mono ?_
  rintro e w7 ⟨rfl, rfl⟩
  rcases H with ⟨rfl, rfl⟩ | ⟨rfl, rfl, rfl⟩ | ⟨rfl, rfl, rfl, rfl⟩ | ⟨rfl, rfl, rfl, rfl, rfl⟩ | ⟨rfl, rfl, rfl, rfl, rfl, rfl⟩ | ⟨rfl, rfl, rfl, rfl, rfl, rfl, rfl⟩ | ⟨rfl, rfl, rfl, rfl, rfl, rfl, d1, rfl⟩ | ⟨rfl, rfl, rfl, rfl, rfl, rfl, rfl, d2, rfl⟩ | ⟨rfl, rfl, rfl, rfl, rfl, rfl, rfl, rfl, rfl⟩ <;> (
    go_wp2
    go_ret
    refine ⟨?_, HB6.out⟩
    first | rfl | (show Ending.returned (.bool (N1 == c 0 - c 1 + N2)) = _; rw [beq_eq_false_iff_ne.2 d1]) | (show Ending.returned (.bool (N3 == c 2 - c 0 + N4)) = _; rw [beq_eq_false_iff_ne.2 d2]))
set_option maxHeartbeats 4000000 in
theorem crright_any (c : Nat → Int) (w : World) : Calls Tryz.prog 37 #[.agg (ints 579 c)] w fun e w' => e = .returned (.bool (rightC c)) ∧ Below w.heap.size w w' := by
  obtain ⟨b1, b2, b3, b4, b5, b6, b7, a1, a2, a3, a4, a5, a6, a7, H⟩ := rightCases c
  clear a6 a7
  generalize hR : rightC c = R at *
  rcases H with H | H | H | H | H | H | H | H | H
  · obtain ⟨rfl, rfl⟩ := H
    clear hR
    go_enter Tryz.func37, Tryz.ntmps37
    go_upto_region 1 with fail
    refine region_seq ?_
    repeat (go_big_quiet_step ((first | (go_at_call 36; exact quiet_call (by simp) (ris_below (by assumption) _)) | (go_at_call 58; exact quiet_call (by simp) (rrights_right_is (by assumption) _)))))
    refine wpQuiet_nil ?_
    intro w1 hb1
    have HB := Lib.hid (((Below.refl _ _).alloc (Nat.le_refl _) _).trans (hb1.mono (by simp)))
    clear hb1
    go_wp2
    go_ret
    exact ⟨rfl, HB.out⟩
  · obtain ⟨rfl, rfl, rfl⟩ := H
    clear hR
    go_enter Tryz.func37, Tryz.ntmps37
    go_upto_region 1 with fail
    refine region_seq ?_
    repeat (go_big_quiet_step ((first | (go_at_call 36; exact quiet_call (by simp) (ris_below (by assumption) _)) | (go_at_call 58; exact quiet_call (by simp) (rrights_right_is (by assumption) _)))))
    refine wpQuiet_nil ?_
    intro w1 hb1
    have HB := Lib.hid (((Below.refl _ _).alloc (Nat.le_refl _) _).trans (hb1.mono (by simp)))
    clear hb1
    go_wp2
    go_ret
    exact ⟨rfl, HB.out⟩
  · obtain ⟨rfl, rfl, rfl, rfl⟩ := H
    clear hR
    go_enter Tryz.func37, Tryz.ntmps37
    go_upto_region 1 with fail
    refine region_seq ?_
    repeat (go_big_quiet_step ((first | (go_at_call 36; exact quiet_call (by simp) (ris_below (by assumption) _)) | (go_at_call 58; exact quiet_call (by simp) (rrights_right_is (by assumption) _)))))
    refine wpQuiet_nil ?_
    intro w1 hb1
    have HB := Lib.hid (((Below.refl _ _).alloc (Nat.le_refl _) _).trans (hb1.mono (by simp)))
    clear hb1
    go_wp2
    go_ret
    exact ⟨rfl, HB.out⟩
  · obtain ⟨rfl, rfl, rfl, c1, rfl⟩ := H
    clear hR
    go_enter Tryz.func37, Tryz.ntmps37
    go_upto_region 1 with fail
    refine region_seq ?_
    repeat (go_big_quiet_step ((first | (go_at_call 36; exact quiet_call (by simp) (ris_below (by assumption) _)) | (go_at_call 58; exact quiet_call (by simp) (rrights_right_is (by assumption) _)))))
    refine wpQuiet_nil ?_
    intro w1 hb1
    have HB := Lib.hid (((Below.refl _ _).alloc (Nat.le_refl _) _).trans (hb1.mono (by simp)))
    clear hb1
    go_wp2
    go_ret
    exact ⟨rfl, HB.out⟩
  · obtain ⟨rfl, rfl, rfl, c1, c2, rfl⟩ := H
    clear hR
    go_enter Tryz.func37, Tryz.ntmps37
    go_upto_region 1 with fail
    refine region_seq ?_
    repeat (go_big_quiet_step ((first | (go_at_call 36; exact quiet_call (by simp) (ris_below (by assumption) _)) | (go_at_call 58; exact quiet_call (by simp) (rrights_right_is (by assumption) _)))))
    refine wpQuiet_nil ?_
    intro w1 hb1
    have HB := Lib.hid (((Below.refl _ _).alloc (Nat.le_refl _) _).trans (hb1.mono (by simp)))
    clear hb1
    go_wp2
    go_ret
    exact ⟨rfl, HB.out⟩
  · obtain ⟨rfl, rfl, rfl, c1, c2, rfl, rfl⟩ := H
    clear hR
    go_enter Tryz.func37, Tryz.ntmps37
    go_upto_region 1 with fail
    refine region_seq ?_
    repeat (go_big_quiet_step ((first | (go_at_call 36; exact quiet_call (by simp) (ris_below (by assumption) _)) | (go_at_call 58; exact quiet_call (by simp) (rrights_right_is (by assumption) _)))))
    refine wpQuiet_nil ?_
    intro w1 hb1
    have HB := Lib.hid (((Below.refl _ _).alloc (Nat.le_refl _) _).trans (hb1.mono (by simp)))
    clear hb1
    go_wp2
    go_ret
    exact ⟨rfl, HB.out⟩
  · obtain ⟨rfl, rfl, rfl, c1, c2, rfl, rfl, rfl⟩ := H
    clear hR
    go_enter Tryz.func37, Tryz.ntmps37
    go_upto_region 1 with fail
    refine region_seq ?_
    repeat (go_big_quiet_step ((first | (go_at_call 36; exact quiet_call (by simp) (ris_below (by assumption) _)) | (go_at_call 58; exact quiet_call (by simp) (rrights_right_is (by assumption) _)))))
    refine wpQuiet_nil ?_
    intro w1 hb1
    have HB := Lib.hid (((Below.refl _ _).alloc (Nat.le_refl _) _).trans (hb1.mono (by simp)))
    clear hb1
    go_wp2
    go_ret
    exact ⟨rfl, HB.out⟩
  · obtain ⟨rfl, rfl, rfl, c1, c2, rfl, rfl, _⟩ := H
    rw [← hR, rightC_both a1 a2 a3 c1 c2 a4 a5]
    exact crright_tail c w a1 a2 a3 c1 c2 a4 a5
  · obtain ⟨rfl, rfl, rfl, c1, c2, rfl, rfl, _⟩ := H
    rw [← hR, rightC_both a1 a2 a3 c1 c2 a4 a5]
    exact crright_tail c w a1 a2 a3 c1 c2 a4 a5
end Go.Proofs.YtinhaipnmmgplaaGreat

/-
  Fields: what the operations on them do; Few of layers 7, 13 and 14.
-/
namespace Go.Proofs.YtinhaipnmmgplaaGreat
set_option maxRecDepth 20000
open Go.RowKit
set_option linter.unusedSimpArgs false
section
variable (ρ : Operand → Value) (d : Option Tmp) (T : TypeId) (p : String) (af : Array Edge) (gd : Option (Nat × Bool)) (x y z : Operand) (ty' : TypeId) (w : World)
theorem xstore_field : (execOp ρ ⟨d, .store 58 x y, T, p, af, gd⟩).run Tryz.prog w = storeAgg Tryz.prog w 58 (ρ x) (ρ y) := rfl
theorem xload_field : (execOp ρ ⟨d, .load 58 x, T, p, af, gd⟩).run Tryz.prog w = loadAgg Tryz.prog w 58 (ρ x) := rfl
theorem xload_lock : (execOp ρ ⟨d, .load 55 x, T, p, af, gd⟩).run Tryz.prog w = loadAgg Tryz.prog w 55 (ρ x) := rfl
def fld0 : Fld := ⟨[], 0, 0, fun _ => 0, fun _ => 0, none, 0, 0, fun _ => 0⟩
theorem xalloc_field : (execOp ρ ⟨d, .alloc 58, T, p, af, gd⟩).run Tryz.prog w = .ok (.value (.pointer (some ⟨w.heap.size, 0, none⟩))) (w.alloc (.cells fld0.cells 58)) :=
  (exec_alloc ..).trans (allocAgg_ok (by kernel_rfl))
end
theorem load_field (w : World) (g : Nat) (h : (rowAt w g).isSome = true) (hn : 0 + 587 ≤ (rowCells w g).size) :
    loadAgg Tryz.prog w 58 (.pointer (some ⟨g, 0, none⟩)) = .ok (.value (.agg (cut (rowCells w g) 0 587))) w := loadAgg_row Tryz.underlying58 rfl (by kernel_rfl) h hn
theorem load_field_later {B : Nat} {w : World} (x : Later B w) (g o : Nat) (hg : g < B) :
    loadAgg Tryz.prog x.wd 58 (.pointer (some ⟨g, o, none⟩)) = if (rowAt w g).isSome = true ∧ o + 587 ≤ (rowCells w g).size then .ok (.value (.agg (cut (rowCells w g) o 587))) x.wd else stuckLoad Tryz.prog x.wd 58 g o :=
  loadAgg_later x Tryz.underlying58 rfl (by kernel_rfl) hg
theorem store_field (w : World) (g : Nat) (F : Fld) (h : (rowAt w g).isSome = true) (hn : 0 + 587 ≤ (rowCells w g).size) :
    storeAgg Tryz.prog w 58 (.pointer (some ⟨g, 0, none⟩)) (.agg F.cells) = .ok .skip (w.setRow g (splice (rowCells w g) 0 F.cells)) :=
  storeAgg_row (by rw [Fld.size]; kernel_rfl) F.one h (by rw [Fld.size]; exact hn)
theorem load_counter_cut (w : World) (g o : Nat) (h : (rowAt w g).isSome = true) (hn : o + 579 ≤ (rowCells w g).size) :
    loadAgg Tryz.prog w 53 (.pointer (some ⟨g, o, none⟩)) = .ok (.value (.agg (cut (rowCells w g) o 579))) w := loadAgg_row Tryz.underlying53 rfl (by kernel_rfl) h hn
theorem load_lock_cut (w : World) (g o : Nat) (h : (rowAt w g).isSome = true) (hn : o + 4 ≤ (rowCells w g).size) :
    loadAgg Tryz.prog w 55 (.pointer (some ⟨g, o, none⟩)) = .ok (.value (.agg (cut (rowCells w g) o 4))) w := loadAgg_row Tryz.underlying55 rfl (by kernel_rfl) h hn
theorem load_lock_later {B : Nat} {w : World} (x : Later B w) (g o : Nat) (hg : g < B) :
    loadAgg Tryz.prog x.wd 55 (.pointer (some ⟨g, o, none⟩)) = if (rowAt w g).isSome = true ∧ o + 4 ≤ (rowCells w g).size then .ok (.value (.agg (cut (rowCells w g) o 4))) x.wd else stuckLoad Tryz.prog x.wd 55 g o :=
  loadAgg_later x Tryz.underlying55 rfl (by kernel_rfl) hg
theorem load_cellsAt {P : Program} {w : World} {b o n : Nat} {D : Array Value} {ty : TypeId} {d : TypeDesc} (hu : P.underlying ty = some d) (hd : isAggDesc d = true) (hi : (P.info? ty).map (·.size) = some n) (hn : D.size = n)
    (h : ∀ j, j < n → w.cell? ⟨b, o + j, none⟩ = D[j]?) : loadAgg P w ty (.pointer (some ⟨b, o, none⟩)) = .ok (.value (.agg D)) w := by
  have hl : (loadCells ⟨b, o, none⟩ n).run P w = .ok D w := by
    rw [run_loadCells w ⟨b, o, none⟩ n (fun j => D.getD j undef) (fun j hj => by
      rw [Addr.add_lit, h j hj, Array.getElem?_eq_getElem (by omega)]
      simp [Array.getD, show j < D.size by omega])]
    congr 1
    refine Array.ext (by simp [hn]) fun j h1 h2 => ?_
    simp [Array.getD, h2]
  cases hq : P.info? ty with
  | none => simp [hq] at hi
  | some i =>
    have hs : i.size = n := by simpa [hq] using hi
    have hagg : (isAgg ty).run P w = .ok true w := by
      unfold isAgg
      rw [Sem.run_bind, run_underlying hu w]
      cases d <;> simp_all [isAggDesc]
    have hv : (loadVar ty ⟨b, o, none⟩).run P w = .ok (.agg D) w := by
      simp [loadVar, Sem.run_bind, hagg, sizeOf, typeInfo, hq, hs, hl]
    unfold loadAgg
    simp [Instr.loadAt, Instr.sureAddr, hv]
theorem FldsIs.load {w : World} {A : Option Addr} {n : Nat} {L : Nat → Fld} (h : FldsIs w A n L) {i : Nat} (hi : i < n) :
    ∃ b o, A = some ⟨b, o, none⟩ ∧ loadAgg Tryz.prog w 58 (.pointer (some ⟨b, o + i * 587, none⟩)) = .ok (.value (.agg (L i).cells)) w := by
  obtain ⟨b, o, h1, h2⟩ := h.cell i hi
  exact ⟨b, o, h1, load_cellsAt Tryz.underlying58 rfl (by kernel_rfl) (Fld.size _) h2⟩
attribute [local go_sem] rowCells rowAt_drewN get_ints getE_ints set_ints size_ints rowAt_alloc rowAt_drew setRow_alloc setRow_drewN setRow_drew setCell_alloc setCell_drewN splice_upd splice_put splice_all load_vec_cut load_vecs_cut load_rights_cut load_counter store_vec store_rights store_counter eql_vec neq_vec index_vec eql_rights neq_rights eql_counter index_vecs cut_ints sub_zero
attribute [local go_sem ↓] xload_vec xstore_vec xalloc_vec xeql_vec xneq_vec xindex_vec xbuild_vec0 xload_rights xstore_rights xalloc_rights xeql_rights xneq_rights xbuild_rights0 xload_vecs xindex_vecs xload_counter xstore_counter xalloc_counter xbuild_counter0 xeql_counter xbuild_counter3
attribute [local go_sem] rowAt_setRow rowAt_setCell load_vec_cut_later load_rights_later load_counter_later Later.cell Later.frozen build3_ints
attribute [local go_sem ↓] xload_field xstore_field xalloc_field xload_lock
attribute [local go_sem] load_field load_field_later store_field load_counter_cut load_lock_cut load_lock_later Fld.size Fld.get0 Fld.get1 Fld.get2 Fld.get586 Fld.getE0 Fld.getE1 Fld.getE2 Fld.getE586 Fld.cut_cnt Fld.cut_lock Fld.cut_all Fld.splice_all strT_size
def fewF (F : Fld) : Bool := decide (F.name.length ≤ 100) && decide (F.hn ≤ 40)
def few7B (n : Nat) (L : Nat → Fld) : Bool := (List.range n).all fun i => fewF (L i)
theorem few7_no {n : Nat} {L : Nat → Fld} {i : Nat} (hi : i < n) (h : fewF (L i) = false) : few7B n L = false := by
  unfold few7B
  rw [List.all_eq_false]
  exact ⟨i, List.mem_range.2 hi, by simp [h]⟩
theorem few7_yes {n : Nat} {L : Nat → Fld} (h : ∀ i, i < n → fewF (L i) = true) : few7B n L = true := by
  unfold few7B
  rw [List.all_eq_true]
  exact fun i hi => h i (List.mem_range.1 hi)
set_option maxHeartbeats 2000000 in
theorem few7_any (A : Option Addr) (c n : Nat) (L : Nat → Fld) (w : World) (h : FldsIs w A n L) (hn : n ≤ 9223372036854775807) : Calls Tryz.prog 10 #[.slice A n c] w fun e w' =>
    e = .returned (.bool (few7B n L)) ∧ Below w.heap.size w w' := by
  have H := Lib.hid h
  clear h
  go_enter Tryz.func10, Tryz.ntmps10
  go_wp2_with fail
  go_loopw [7] (fun i w' => ∃ k : Nat, k ≤ n ∧ i = .int .i64 k ∧ (∀ j, j < k → fewF (L j) = true) ∧ Below w.heap.size w w') (fun i _ => n - (intOf i).toNat)
  case atStart => exact ⟨0, Nat.zero_le _, rfl, fun j hj => by omega, Below.refl _ _⟩
  case round =>
    rename_i wr
    obtain ⟨k, hk, rfl, hall, hb⟩ := hrel
    have HA := Lib.hid hall
    have HB := Lib.hid hb
    clear hall hb
    by_cases hlt : k < n
    · obtain ⟨b, o, rfl, hl⟩ := (H.out.below HB.out).load hlt
      have hF : ∃ F, L k = F := ⟨_, rfl⟩
      obtain ⟨F, hF⟩ := hF
      rw [hF] at hl
      have HF := Lib.hid hF
      clear hF
      by_cases h1 : 100 < F.name.length
      · have HN : Hid (few7B n L = false) := Lib.hid (few7_no hlt (by rw [HF.out]; simp [fewF]; omega))
        clear HF HA
        go_wp2_with fail
        go_ret
        exact ⟨by rw [HN.out]; rfl, below_allocS HB.out _⟩
      · by_cases h2 : 40 < F.hn
        · have HN : Hid (few7B n L = false) := Lib.hid (few7_no hlt (by rw [HF.out]; simp [fewF]; omega))
          clear HF HA
          go_wp2_with fail
          go_ret
          exact ⟨by rw [HN.out]; rfl, below_allocS HB.out _⟩
        · have HN : Hid (fewF (L k) = true) := Lib.hid (by rw [HF.out]; simp [fewF]; omega)
          clear HF
          go_wp2_with fail
          go_roundw
          case rel =>
            refine ⟨k + 1, by omega, by go_num, fun j hj => ?_, below_allocS HB.out _⟩
            by_cases hjk : j = k
            · rw [hjk]; exact HN.out
            · exact HA.out j (by omega)
          case measure => simp [intOf]; omega
    · have HN : Hid (few7B n L = true) := Lib.hid (few7_yes fun i hi => HA.out i (by omega))
      clear HA
      go_wp2_with fail
      go_ret
      exact ⟨by rw [HN.out]; rfl, HB.out⟩
end Go.Proofs.YtinhaipnmmgplaaGreat
