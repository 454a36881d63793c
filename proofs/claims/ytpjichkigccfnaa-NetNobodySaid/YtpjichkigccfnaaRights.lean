/-
  The type api.Rights: 288 ints. Slices of ints that a call makes by append.
-/
import Derived.Test.YtpjichkigccfnaaVecSum
namespace Go.Proofs.Ytpjichkigccfnaa
set_option maxRecDepth 20000
open Go.RowKit

section
variable (ρ : Operand → Value) (d : Option Tmp) (T : TypeId) (p : String) (af : Array Edge) (gd : Option (Nat × Bool)) (x y : Operand) (ty' : TypeId) (w : World)
theorem xstore_rights : (execOp ρ ⟨d, .store 43 x y, T, p, af, gd⟩).run Try.prog w = storeAgg Try.prog w 43 (ρ x) (ρ y) := rfl
theorem xload_rights : (execOp ρ ⟨d, .load 43 x, T, p, af, gd⟩).run Try.prog w = loadAgg Try.prog w 43 (ρ x) := rfl
theorem xalloc_rights : (execOp ρ ⟨d, .alloc 43, T, p, af, gd⟩).run Try.prog w = .ok (.value (.pointer (some ⟨w.heap.size, 0, none⟩))) (w.alloc (.cells (ints 288 fun _ => 0) 43)) :=
  (exec_alloc ..).trans (allocAgg_ok (by kernel_rfl))
theorem xbuild_rights0 : (execOp ρ ⟨d, .build 43 #[], T, p, af, gd⟩).run Try.prog w = .ok (.value (.agg (ints 288 fun _ => 0))) w := by kernel_rfl
theorem xeql_rights : (execOp ρ ⟨d, .binOp .eql 43 x y ty', T, p, af, gd⟩).run Try.prog w = eqlAgg Try.prog w .eql 43 x y (ρ x) (ρ y) := rfl
theorem xneq_rights : (execOp ρ ⟨d, .binOp .neq 43 x y ty', T, p, af, gd⟩).run Try.prog w = eqlAgg Try.prog w .neq 43 x y (ρ x) (ρ y) := rfl
theorem xload_vecs : (execOp ρ ⟨d, .load 41 x, T, p, af, gd⟩).run Try.prog w = loadAgg Try.prog w 41 (ρ x) := rfl
theorem xindex_vecs : (execOp ρ ⟨d, .index 41 x y, T, p, af, gd⟩).run Try.prog w = indexAgg Try.prog w 41 (ρ x) (ρ y) := rfl
end
/-- 16 cells from o on. -/
def cut (c : Array Value) (o n : Nat) : Array Value := c.extract o (o + n)
def sub (o : Nat) (r : Nat → Int) : Nat → Int := fun i => r (o + i)
def upd (o : Nat) (v r : Nat → Int) : Nat → Int := fun i => if o ≤ i ∧ i < o + 16 then v (i - o) else r i
theorem cut_ints (m n o : Nat) (r : Nat → Int) (h : o + n ≤ m) : cut (ints m r) o n = ints n (sub o r) := extract_ints m r o n h
theorem sub_zero (r : Nat → Int) : sub 0 r = r := by funext i; simp [sub]
theorem sub_sub (o q : Nat) (r : Nat → Int) : sub o (sub q r) = sub (q + o) r := by funext i; simp [sub, Nat.add_assoc]
theorem upd_at (o : Nat) (v r : Nat → Int) (i : Nat) (h : i < 16) : upd o v r (o + i) = v i := by
  unfold upd
  rw [if_pos (by omega), Nat.add_sub_cancel_left]
theorem upd_past (o : Nat) (v r : Nat → Int) (i : Nat) (h : i < o ∨ o + 16 ≤ i) : upd o v r i = r i := by
  unfold upd
  rw [if_neg (by omega)]
theorem splice_upd (n o : Nat) (v r : Nat → Int) (h : o + 16 ≤ n) : splice (ints n r) o (ints 16 v) = ints n (upd o v r) := splice_ints n 16 o r v h
theorem load_vec_cut (w : World) (g o : Nat) (h : (rowAt w g).isSome = true) (hn : o + 16 ≤ (rowCells w g).size) :
    loadAgg Try.prog w 40 (.pointer (some ⟨g, o, none⟩)) = .ok (.value (.agg (cut (rowCells w g) o 16))) w := load_vec w g o h hn
theorem load_vecs_cut (w : World) (g o : Nat) (h : (rowAt w g).isSome = true) (hn : o + 256 ≤ (rowCells w g).size) :
    loadAgg Try.prog w 41 (.pointer (some ⟨g, o, none⟩)) = .ok (.value (.agg (cut (rowCells w g) o 256))) w := loadAgg_row Try.underlying41 rfl (by kernel_rfl) h hn
theorem load_rights_cut (w : World) (g o : Nat) (h : (rowAt w g).isSome = true) (hn : o + 288 ≤ (rowCells w g).size) :
    loadAgg Try.prog w 43 (.pointer (some ⟨g, o, none⟩)) = .ok (.value (.agg (cut (rowCells w g) o 288))) w := loadAgg_row Try.underlying43 rfl (by kernel_rfl) h hn
theorem store_rights (w : World) (g o : Nat) (f : Nat → Int) (h : (rowAt w g).isSome = true) (hn : o + 288 ≤ (rowCells w g).size) :
    storeAgg Try.prog w 43 (.pointer (some ⟨g, o, none⟩)) (.agg (ints 288 f)) = .ok .skip (w.setRow g (splice (rowCells w g) o (ints 288 f))) :=
  storeAgg_row (by rw [size_ints]; kernel_rfl) (one_ints _ _) h (by rw [size_ints]; exact hn)
theorem load_vec_cut_later {B : Nat} {w : World} (x : Later B w) (g o : Nat) (hg : g < B) :
    loadAgg Try.prog x.wd 40 (.pointer (some ⟨g, o, none⟩)) = if (rowAt w g).isSome = true ∧ o + 16 ≤ (rowCells w g).size then .ok (.value (.agg (cut (rowCells w g) o 16))) x.wd else stuckLoad Try.prog x.wd 40 g o :=
  loadAgg_later x Try.underlying40 rfl (by kernel_rfl) hg
theorem load_rights_later {B : Nat} {w : World} (x : Later B w) (g o : Nat) (hg : g < B) :
    loadAgg Try.prog x.wd 43 (.pointer (some ⟨g, o, none⟩)) = if (rowAt w g).isSome = true ∧ o + 288 ≤ (rowCells w g).size then .ok (.value (.agg (cut (rowCells w g) o 288))) x.wd else stuckLoad Try.prog x.wd 43 g o :=
  loadAgg_later x Try.underlying43 rfl (by kernel_rfl) hg
theorem index_vecs (w : World) (f : Nat → Int) (k : Nat) (h : k < 16) : indexAgg Try.prog w 41 (.agg (ints 256 f)) (.int .i64 (k : Int)) = .ok (.value (.agg (ints 16 (sub (k * 16) f)))) w := by
  have := indexAgg_agg (P := Try.prog) (w := w) (n := 16) (k := .i64) (i := (k : Int)) (ints 256 f) Try.underlying41 Try.underlying40 rfl (by kernel_rfl) (by omega) (by omega)
  rw [Int.toNat_natCast] at this
  rw [this]
  exact congrArg (fun c => Result.ok (Next.value (.agg c)) w) (extract_ints 256 f (k * 16) 16 (by omega))
theorem eq_vecs : EqInt Try.prog 3 41 (16 * (16 * 1)) := EqInt.array Try.underlying41 (by kernel_rfl) eq_vec (by kernel_rfl)
theorem eq_rights' : EqInt Try.prog 4 43 (16 + (16 + (16 * (16 * 1) + 0))) := by
  refine EqInt.struct (D := 3) Try.underlying43 (by kernel_rfl) (by kernel_rfl) ?_
  refine EqFields.cons (by decide) rfl (int_of eq_vec (by omega)) ?_
  refine EqFields.cons (by decide) rfl (int_of eq_vec (by omega)) ?_
  exact EqFields.cons (by decide) rfl eq_vecs (EqFields.nil _)
theorem eq_rights : EqInt Try.prog 4 43 288 := by
  have e : 16 + (16 + (16 * (16 * 1) + 0)) = 288 := by decide
  rw [← e]
  exact eq_rights'
theorem eql_rights (w : World) (x y : Operand) (f g : Nat → Int) : eqlAgg Try.prog w .eql 43 x y (.agg (ints 288 f)) (.agg (ints 288 g)) = .ok (.value (.bool (eqI 288 f g))) w :=
  (eqlAgg_ints Try.underlying43 rfl (by kernel_rfl) (by kernel_rfl) (int_of eq_rights (by omega)) w x y f g).1
theorem neq_rights (w : World) (x y : Operand) (f g : Nat → Int) : eqlAgg Try.prog w .neq 43 x y (.agg (ints 288 f)) (.agg (ints 288 g)) = .ok (.value (.bool (!eqI 288 f g))) w :=
  (eqlAgg_ints Try.underlying43 rfl (by kernel_rfl) (by kernel_rfl) (int_of eq_rights (by omega)) w x y f g).2

/-! Append, one int at a time. -/
theorem OwnI.grown {w w' : World} {base : Nat} {v : Value} {xs : List Int} (h : OwnI w base v xs) (hb : base ≤ w.heap.size) (hg : w.grownBy w' v.ownBlock) : Below base w w' := by
  refine ⟨hg.os, hg.tape, hg.output, hg.size, fun k hk => hg.block k (by omega) ?_⟩
  rcases h.2 with ⟨rfl, _⟩ | ⟨g, cap, cur, rfl, hbg, _⟩
  · simp [Value.ownBlock]
  · simp [Value.ownBlock]; omega
theorem OwnI.alloc {w : World} {base : Nat} {v : Value} {xs : List Int} (h : OwnI w base v xs) (o : Obj) : OwnI (w.alloc o) base v xs := h.below ((Below.refl _ _).alloc (Nat.le_refl _) _)
theorem isInts_one (w : World) (x : Int) : IsInts (w.alloc (.cells #[.int .i64 x] 3)) (some ⟨w.heap.size, 0, none⟩) [x] :=
  isInts_row (rowAt_alloc_at _ _ _ _ rfl) fun i hi => by
    obtain rfl : i = 0 := by simpa using hi
    rfl
/-- append of one int, just laid, to a slice of the call's own. -/
theorem wl_append_one {ops : Array Oper} {rest : List Oper} {o : Oper} {a : Act} {w : World} {Q : Exit → Act → World → Prop} (hgd : o.guard = none) (s x : Operand)
    (ho : o.op = .call { callee := .builtin .append, args := #[s, x], argTypes := #[68, 68] }) (base : Nat) (v : Value) (xs : List Int) (y : Int)
    (hown : OwnI w base v xs) (hs : a.eval s = v) {q : Nat} (hx : a.eval x = .slice (some ⟨q, 0, none⟩) 1 1) (hq : q = w.heap.size) (hlen : xs.length ≤ 17592186044415) (hbase : base ≤ w.heap.size)
    (h : ∀ v' w', OwnI w' base v' (xs ++ [y]) → Below base w w' → wpList Try.prog ops Q rest (a.put o.dst v') w') : wpList Try.prog ops Q (o :: rest) a (w.alloc (.cells #[.int .i64 y] 3)) :=
  by
  subst hq
  exact wl_append_ints hgd s x ho base v xs [y] (some ⟨w.heap.size, 0, none⟩) 1 hs (hown.alloc _) hx (isInts_one w y) (fun h => by cases h) (by simp; omega) (by simp; omega) fun v' w' h1 h2 =>
    h v' w' h1 (((Below.refl _ _).alloc hbase _).trans ((hown.alloc _).grown (by simp; omega) h2))
end Go.Proofs.Ytpjichkigccfnaa
