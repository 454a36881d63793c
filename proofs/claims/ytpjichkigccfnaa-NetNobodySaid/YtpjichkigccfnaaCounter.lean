/-
  Layer 4 (counter): the type api.Counter, 579 ints; New, and the reference's.
-/
import Derived.Test.YtpjichkigccfnaaRRJoin
namespace Go.Proofs.Ytpjichkigccfnaa
set_option maxRecDepth 20000
open Go.RowKit
set_option linter.unusedSimpArgs false
section
variable (ρ : Operand → Value) (d : Option Tmp) (T : TypeId) (p : String) (af : Array Edge) (gd : Option (Nat × Bool)) (x y z : Operand) (ty' : TypeId) (w : World)
theorem xstore_counter : (execOp ρ ⟨d, .store 45 x y, T, p, af, gd⟩).run Try.prog w = storeAgg Try.prog w 45 (ρ x) (ρ y) := rfl
theorem xload_counter : (execOp ρ ⟨d, .load 45 x, T, p, af, gd⟩).run Try.prog w = loadAgg Try.prog w 45 (ρ x) := rfl
theorem xalloc_counter : (execOp ρ ⟨d, .alloc 45, T, p, af, gd⟩).run Try.prog w = .ok (.value (.pointer (some ⟨w.heap.size, 0, none⟩))) (w.alloc (.cells (ints 579 fun _ => 0) 45)) :=
  (exec_alloc ..).trans (allocAgg_ok (by kernel_rfl))
theorem xbuild_counter0 : (execOp ρ ⟨d, .build 45 #[], T, p, af, gd⟩).run Try.prog w = .ok (.value (.agg (ints 579 fun _ => 0))) w := by kernel_rfl
theorem xeql_counter : (execOp ρ ⟨d, .binOp .eql 45 x y ty', T, p, af, gd⟩).run Try.prog w = eqlAgg Try.prog w .eql 45 x y (ρ x) (ρ y) := rfl
noncomputable def build3 (w : World) (u v t : Value) : Result Next := ((do pure (Next.value (← Instr.build 45 #[(0, u), (1, v), (2, t)])) : Sem Next)).run Try.prog w
theorem xbuild_counter3 : (execOp ρ ⟨d, .build 45 #[(0, x), (1, y), (2, z)], T, p, af, gd⟩).run Try.prog w = build3 w (ρ x) (ρ y) (ρ z) := by simp [execOp, build3]
end
def baseV (i l h : Int) : Nat → Int := fun q => if q = 0 then i else if q = 1 then l else if q = 2 then h else 0
theorem build3_ints (w : World) (i l h : Int) : build3 w (.int .i64 i) (.int .i64 l) (.int .i64 h) = .ok (.value (.agg (ints 579 (baseV i l h)))) w := by kernel_rfl
/-- 288 cells from o on, set to v. -/
def put (o : Nat) (v r : Nat → Int) : Nat → Int := fun i => if o ≤ i ∧ i < o + 288 then v (i - o) else r i
theorem splice_put (o : Nat) (v r : Nat → Int) (h : o + 288 ≤ 579) : splice (ints 579 r) o (ints 288 v) = ints 579 (put o v r) := splice_ints 579 288 o r v h
theorem load_counter (w : World) (g : Nat) (h : (rowAt w g).isSome = true) (hn : 0 + 579 ≤ (rowCells w g).size) :
    loadAgg Try.prog w 45 (.pointer (some ⟨g, 0, none⟩)) = .ok (.value (.agg (cut (rowCells w g) 0 579))) w := loadAgg_row Try.underlying45 rfl (by kernel_rfl) h hn
theorem load_counter_later {B : Nat} {w : World} (x : Later B w) (g o : Nat) (hg : g < B) :
    loadAgg Try.prog x.wd 45 (.pointer (some ⟨g, o, none⟩)) = if (rowAt w g).isSome = true ∧ o + 579 ≤ (rowCells w g).size then .ok (.value (.agg (cut (rowCells w g) o 579))) x.wd else stuckLoad Try.prog x.wd 45 g o :=
  loadAgg_later x Try.underlying45 rfl (by kernel_rfl) hg
theorem store_counter (w : World) (g : Nat) (f : Nat → Int) (h : (rowAt w g).isSome = true) (hn : 0 + 579 ≤ (rowCells w g).size) :
    storeAgg Try.prog w 45 (.pointer (some ⟨g, 0, none⟩)) (.agg (ints 579 f)) = .ok .skip (w.setRow g (splice (rowCells w g) 0 (ints 579 f))) :=
  storeAgg_row (by rw [size_ints]; kernel_rfl) (one_ints _ _) h (by rw [size_ints]; exact hn)
theorem eq_counter' : EqInt Try.prog 5 45 (1 + (1 + (1 + (288 + (288 + 0))))) := by
  refine EqInt.struct (D := 4) Try.underlying45 (by kernel_rfl) (by kernel_rfl) ?_
  refine EqFields.cons (by decide) rfl (int_of (EqInt.int Try.underlying3) (by omega)) ?_
  refine EqFields.cons (by decide) rfl (int_of (EqInt.int Try.underlying3) (by omega)) ?_
  refine EqFields.cons (by decide) rfl (int_of (EqInt.int Try.underlying3) (by omega)) ?_
  refine EqFields.cons (by decide) rfl (int_of eq_rights (by omega)) ?_
  exact EqFields.cons (by decide) rfl (int_of eq_rights (by omega)) (EqFields.nil _)
theorem eq_counter : EqInt Try.prog 5 45 579 := by
  have e : 1 + (1 + (1 + (288 + (288 + 0)))) = 579 := by decide
  rw [← e]
  exact eq_counter'
theorem eql_counter (w : World) (x y : Operand) (f g : Nat → Int) : eqlAgg Try.prog w .eql 45 x y (.agg (ints 579 f)) (.agg (ints 579 g)) = .ok (.value (.bool (eqI 579 f g))) w :=
  (eqlAgg_ints Try.underlying45 rfl (by kernel_rfl) (by kernel_rfl) (int_of eq_counter (by omega)) w x y f g).1
attribute [local go_sem] rowCells rowAt_drewN get_ints getE_ints set_ints size_ints rowAt_alloc rowAt_drew setRow_alloc setRow_drewN setRow_drew setCell_alloc setCell_drewN splice_upd splice_put splice_all load_vec_cut load_vecs_cut load_rights_cut load_counter store_vec store_rights store_counter eql_vec neq_vec index_vec eql_rights neq_rights eql_counter index_vecs cut_ints sub_zero
attribute [local go_sem ↓] xload_vec xstore_vec xalloc_vec xeql_vec xneq_vec xindex_vec xbuild_vec0 xload_rights xstore_rights xalloc_rights xeql_rights xneq_rights xbuild_rights0 xload_vecs xindex_vecs xload_counter xstore_counter xalloc_counter xbuild_counter0 xeql_counter xbuild_counter3
attribute [local go_sem] rowAt_setRow rowAt_setCell load_vec_cut_later load_rights_later load_counter_later Later.cell Later.frozen build3_ints
attribute [local go_sem] rn_true rn_false re_true re_false eqI_self
theorem cis_is {n : Int} {b : Bool} (h : isB n = b) (w : World) : Calls Try.prog 43 #[.int .i64 n] w fun e w' => e = .returned (.bool b) ∧ w = w' := by rw [← h]; exact is_any n w
theorem ris_is {n : Int} {b : Bool} (h : isB n = b) (w : World) : Calls Try.prog 47 #[.int .i64 n] w fun e w' => e = .returned (.bool b) ∧ w = w' := by rw [← h]; exact ris_any n w
/-! New. -/
def newOk (i l h : Int) : Bool := isB i && isB l && isB h && decide (l ≤ i) && decide (i ≤ h) && decide (h - l ≤ 1099511627776)
def newE (i l h : Int) : Int := if newOk i l h then 0 else 2
def newV (i l h : Int) : Nat → Int := fun q => if q = 0 then i else if q = 1 then l else if q = 2 then h else if q = 3 then i - l else if q = 291 then h - i else 0
def newF (i l h : Int) : Nat → Int := if newOk i l h then newV i l h else fun _ => 0
theorem newOk_iff {i l h : Int} : newOk i l h = true ↔ isB i = true ∧ isB l = true ∧ isB h = true ∧ l ≤ i ∧ i ≤ h ∧ h - l ≤ 1099511627776 := by simp [newOk, and_assoc]
theorem newV_sets (i l h : Int) : (ints 579 fun j => if j = 291 then h - i else if j = 3 then i - l else baseV i l h j) = ints 579 (newV i l h) := by
  refine ints_congr fun q _ => ?_
  unfold baseV newV
  by_cases h1 : q = 291
  · subst h1; rfl
  · by_cases h2 : q = 3
    · subst h2; rfl
    · simp only [h1, h2, if_false]
theorem newCases (i l h : Int) : ∃ s1 s2 s3, subOk i l = s1 ∧ subOk h i = s2 ∧ subOk h l = s3 ∧
    ((s1 = false ∧ newOk i l h = false) ∨ (s1 = true ∧ s2 = false ∧ newOk i l h = false) ∨ (s1 = true ∧ s2 = true ∧ s3 = false ∧ newOk i l h = false) ∨
     (s1 = true ∧ s2 = true ∧ s3 = true ∧ i - l < 0 ∧ newOk i l h = false) ∨ (s1 = true ∧ s2 = true ∧ s3 = true ∧ ¬ i - l < 0 ∧ h - i < 0 ∧ newOk i l h = false) ∨
     (s1 = true ∧ s2 = true ∧ s3 = true ∧ ¬ i - l < 0 ∧ ¬ h - i < 0 ∧ newOk i l h = true ∧ Hid ((ints 579 fun j => if j = 291 then h - i else if j = 3 then i - l else baseV i l h j) = ints 579 (newV i l h)))) := by
  refine ⟨_, _, _, rfl, rfl, rfl, ?_⟩
  have eV := Lib.hid (newV_sets i l h)
  have e : newOk i l h = true ↔ subOk i l = true ∧ subOk h i = true ∧ subOk h l = true ∧ ¬ i - l < 0 ∧ ¬ h - i < 0 := by
    rw [newOk_iff]
    simp only [subOk, Bool.and_eq_true, isB_iff]
    omega
  cases h1 : subOk i l <;> cases h2 : subOk h i <;> cases h3 : subOk h l <;> cases h4 : newOk i l h <;> simp [h1, h2, h3, h4, eV] at e ⊢ <;> omega
theorem is_below {n : Int} {b : Bool} (h : isB n = b) (w : World) : Calls Try.prog 43 #[.int .i64 n] w fun e w' => e = .returned (.bool b) ∧ Below w.heap.size w w' :=
  (cis_is h w).mono fun _ _ ⟨h1, h2⟩ => ⟨h1, h2 ▸ Below.refl _ _⟩
theorem ris_below {n : Int} {b : Bool} (h : isB n = b) (w : World) : Calls Try.prog 47 #[.int .i64 n] w fun e w' => e = .returned (.bool b) ∧ Below w.heap.size w w' :=
  (ris_is h w).mono fun _ _ ⟨h1, h2⟩ => ⟨h1, h2 ▸ Below.refl _ _⟩
theorem rnewCases (i l h : Int) : ∃ b1 b2 b3, isB i = b1 ∧ isB l = b2 ∧ isB h = b3 ∧
    ((b1 = false ∧ newOk i l h = false) ∨ (b1 = true ∧ b2 = false ∧ newOk i l h = false) ∨ (b1 = true ∧ b2 = true ∧ b3 = false ∧ newOk i l h = false) ∨
     (b1 = true ∧ b2 = true ∧ b3 = true ∧ i < l ∧ newOk i l h = false) ∨ (b1 = true ∧ b2 = true ∧ b3 = true ∧ ¬ i < l ∧ h < i ∧ newOk i l h = false) ∨
     (b1 = true ∧ b2 = true ∧ b3 = true ∧ ¬ i < l ∧ ¬ h < i ∧ 1099511627776 < h - l ∧ newOk i l h = false) ∨
     (b1 = true ∧ b2 = true ∧ b3 = true ∧ ¬ i < l ∧ ¬ h < i ∧ ¬ 1099511627776 < h - l ∧ newOk i l h = true ∧ Hid ((ints 579 fun j => if j = 291 then h - i else if j = 3 then i - l else baseV i l h j) = ints 579 (newV i l h)))) := by
  refine ⟨_, _, _, rfl, rfl, rfl, ?_⟩
  have eV := Lib.hid (newV_sets i l h)
  have e := newOk_iff (i := i) (l := l) (h := h)
  cases h1 : isB i <;> cases h2 : isB l <;> cases h3 : isB h <;> cases h4 : newOk i l h <;> simp [h1, h2, h3, h4, eV] at e ⊢ <;> omega
end Go.Proofs.Ytpjichkigccfnaa
