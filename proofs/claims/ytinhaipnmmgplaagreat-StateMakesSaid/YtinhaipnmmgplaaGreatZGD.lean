/-
  Slices of bytes: what they hold, how they grow, what is cut of them.
-/
import Derived.Test.YtinhaipnmmgplaaGreatProg
import Derived.Test.YtinhaipnmmgplaaGreatZGA
import Derived.Laws.AppendOwnNone
import Derived.Laws.IdiomStrings
import Derived.Test.YtinhaipnmmgplaaGreatZGC
namespace Go.Proofs.YtinhaipnmmgplaaGreat
set_option maxRecDepth 20000
open Go.RowKit
set_option linter.unusedSimpArgs false
def bc (b : UInt8) : Value := .int .u8 (b.toNat : Int)
/-- Where a slice of bytes leads: its bytes. -/
def IsBy (w : World) (a : Option Addr) (l : List UInt8) : Prop := ∀ i, i < l.length → ∃ b o, a = some ⟨b, o, none⟩ ∧ w.cell? ⟨b, o + i, none⟩ = some (bc (l.getD i 0))
theorem IsBy.below {w w' : World} {a : Option Addr} {l : List UInt8} (h : IsBy w a l) (hb : Below w.heap.size w w') : IsBy w' a l := by
  intro i hi
  obtain ⟨b, o, hx, hc⟩ := h i hi
  exact ⟨b, o, hx, (hb.cell (World.block_lt_of_cell? _ _ hc)).trans hc⟩
theorem isBy_row {w : World} {g o : Nat} {c : Array Value} {t : TypeId} {l : List UInt8} (hr : rowAt w g = some (c, t)) (h : ∀ i, i < l.length → c[o + i]? = some (bc (l.getD i 0))) : IsBy w (some ⟨g, o, none⟩) l :=
  fun i hi => ⟨g, o, rfl, by rw [cell_of_rowAt hr, h i hi]⟩
theorem IsBy.nil (w : World) (a : Option Addr) : IsBy w a [] := fun i hi => absurd hi (by simp)
theorem IsBy.alloc {w : World} {a : Option Addr} {l : List UInt8} (h : IsBy w a l) (o : Obj) : IsBy (w.alloc o) a l := h.below ((Below.refl _ _).alloc (Nat.le_refl _) _)
/-- v owns the bytes xs, in a block from base on. -/
def OwnBy (w : World) (base : Nat) (v : Value) (xs : List UInt8) : Prop := w.ownsRow base 5 1 v xs.length (xs.map bc)
theorem OwnBy.isBy {w : World} {base : Nat} {v : Value} {xs : List UInt8} (h : OwnBy w base v xs) : ∃ a cap, v = .slice a xs.length cap ∧ IsBy w a xs ∧ (a = none → cap = 0) ∧ xs.length ≤ cap ∧ ∀ x, a = some x → base ≤ x.block ∧ x.block < w.heap.size := by
  rcases h.2 with ⟨hv, hn⟩ | ⟨g, cap, cur, hv, hbg, hg, hnc, hcm, hcs, htk⟩
  · have : xs = [] := List.eq_nil_of_length_eq_zero hn
    subst this
    exact ⟨none, 0, hv, fun i hi => absurd hi (by simp), fun _ => rfl, Nat.le_refl _, fun _ h => (by cases h)⟩
  · refine ⟨some ⟨g, 0, none⟩, cap, hv, fun i hi => ⟨g, 0, rfl, ?_⟩, fun h => (by cases h), hnc, fun x h => ?_⟩
    · have h1 : (cur.toList.take (xs.length * 1))[i]? = cur[i]? := by rw [List.getElem?_take, if_pos (by omega)]; simp
      rw [Nat.zero_add, cell_of_row w g i cur _ _ hg, ← h1, htk]
      simp [List.getD, List.getElem?_eq_getElem hi]
    · injection h with h
      subst h
      exact ⟨hbg, (Array.getElem?_eq_some_iff.1 hg).1⟩
theorem OwnBy.nil (w : World) (base : Nat) : OwnBy w base (.slice none 0 0) [] := World.ownsRow_nil w base _ _
theorem OwnBy.mono {w : World} {base base' : Nat} {v : Value} {xs : List UInt8} (h : OwnBy w base v xs) (hb : base' ≤ base) : OwnBy w base' v xs := by
  refine ⟨h.1, h.2.imp id ?_⟩
  rintro ⟨g, cap, cur, h1, h2, h3⟩
  exact ⟨g, cap, cur, h1, by omega, h3⟩
theorem OwnBy.below {w w' : World} {base : Nat} {v : Value} {xs : List UInt8} (h : OwnBy w base v xs) (hb : Below w.heap.size w w') : OwnBy w' base v xs := by
  refine ⟨h.1, h.2.imp id ?_⟩
  rintro ⟨g, cap, cur, h1, h2, h3, h4⟩
  exact ⟨g, cap, cur, h1, h2, (hb.block g (Array.getElem?_eq_some_iff.1 h3).1).trans h3, h4⟩
theorem OwnBy.alloc {w : World} {base : Nat} {v : Value} {xs : List UInt8} (h : OwnBy w base v xs) (o : Obj) : OwnBy (w.alloc o) base v xs := h.below ((Below.refl _ _).alloc (Nat.le_refl _) _)
theorem OwnBy.grown {w w' : World} {base : Nat} {v : Value} {xs : List UInt8} (h : OwnBy w base v xs) (hb : base ≤ w.heap.size) (hg : w.grownBy w' v.ownBlock) : Below base w w' := by
  refine ⟨hg.os, hg.tape, hg.output, hg.size, fun k hk => hg.block k (by omega) ?_⟩
  rcases h.2 with ⟨rfl, _⟩ | ⟨g, cap, cur, rfl, hbg, _⟩
  · simp [Value.ownBlock]
  · simp [Value.ownBlock]; omega
/-- A block that was just laid. -/
theorem OwnBy.row {w : World} {g : Nat} {xs : List UInt8} (hr : rowAt w g = some ((xs.map bc).toArray, 5)) (hl : xs.length ≤ 9223372036854775807) : OwnBy w g (.slice (some ⟨g, 0, none⟩) xs.length xs.length) xs :=
  ⟨by simp, .inr ⟨g, xs.length, _, rfl, Nat.le_refl _, rowAt_iff.1 hr, Nat.le_refl _, by unfold maxLen; omega, by simp, by simp [List.take_of_length_le]⟩⟩
theorem info_byte : ∃ i, Tryz.prog.info? 5 = some i ∧ i.zero = some (.int .u8 0) ∧ i.size = 1 ∧ i.bytes = 1 :=
  info_parts (show (Tryz.prog.info? 5).map (fun i => (i.zero, i.size, i.bytes)) = some (some (.int .u8 0), 1, 1) by kernel_rfl)
/-- append of bytes to a slice of the call's own. -/
theorem wl_append_bytes {ops : Array Oper} {rest : List Oper} {o : Oper} {a : Act} {w : World} {Q : Exit → Act → World → Prop} (hgd : o.guard = none) (s x : Operand)
    (ho : o.op = .call { callee := .builtin .append, args := #[s, x], argTypes := #[39, 39] }) (base : Nat) (v : Value) (xs ys : List UInt8) (A : Option Addr) (c : Nat)
    (hs : a.eval s = v) (hown : OwnBy w base v xs) (hx : a.eval x = .slice A ys.length c) (hy : IsBy w A ys) (hA : A = none → c = 0) (hlen : xs.length + ys.length ≤ 140737488355328) (hbase : base ≤ w.heap.size)
    (h : ∀ v' w', OwnBy w' base v' (xs ++ ys) → Below base w w' → wpList Tryz.prog ops Q rest (a.put o.dst v') w') : wpList Tryz.prog ops Q (o :: rest) a w := by
  obtain ⟨i0, hi, hz0, hz1, hz2⟩ := info_byte
  cases A with
  | none =>
    have : ys = [] := by
      cases ys with
      | nil => rfl
      | cons y ys => obtain ⟨b, o, h1, _⟩ := hy 0 (by simp); cases h1
    subst this
    rw [hA rfl] at hx
    refine wpList_append_own_none hgd s x _ ho base 5 i0 1 Tryz.underlying39 hi v _ _ hs hown hx (h _ _ (by rw [List.append_nil]; exact hown) (Below.refl _ _))
  | some ad =>
    refine wpList_append_own _ hgd s x _ ho base 5 i0 (.int .u8 0) 1 1 Tryz.underlying39 hi hz0 hz1 hz2 rfl (by decide) v _ _ hs hown ad ys.length c (ys.map bc) hx (by simp) ?_ ?_ (by unfold maxLen; omega) (by omega) hbase ?_
    · intro j u hu
      have hj : j < ys.length := by
        have := (List.getElem?_eq_some_iff.1 hu).1
        simpa using this
      obtain ⟨b, off, h1, h2⟩ := hy j hj
      injection h1 with h1
      subst h1
      rw [Addr.add_lit, h2]
      simp [List.getElem?_eq_getElem hj] at hu
      simp [List.getD, List.getElem?_eq_getElem hj, hu]
    · intro u hu
      obtain ⟨n, _, rfl⟩ := List.mem_map.1 hu
      rfl
    · intro v' w' h1 h2 _
      exact h v' w' (by unfold OwnBy; rw [List.length_append, List.map_append]; exact h1) (hown.grown hbase h2)
theorem isBy_one (w : World) (x : UInt8) : IsBy (w.alloc (.cells #[bc x] 5)) (some ⟨w.heap.size, 0, none⟩) [x] :=
  isBy_row (rowAt_alloc_at _ _ _ _ rfl) fun i hi => by
    obtain rfl : i = 0 := by simpa using hi
    rfl
/-- append of one byte, just laid, to a slice of the call's own. -/
theorem wl_append_byte {ops : Array Oper} {rest : List Oper} {o : Oper} {a : Act} {w : World} {Q : Exit → Act → World → Prop} (hgd : o.guard = none) (s x : Operand)
    (ho : o.op = .call { callee := .builtin .append, args := #[s, x], argTypes := #[39, 39] }) (base : Nat) (v : Value) (xs : List UInt8) (y : UInt8) {n : Int} (hn : n = (y.toNat : Int))
    (hown : OwnBy w base v xs) (hs : a.eval s = v) {q : Nat} (hx : a.eval x = .slice (some ⟨q, 0, none⟩) 1 1) (hq : q = w.heap.size) (hlen : xs.length ≤ 140737488355327) (hbase : base ≤ w.heap.size)
    (h : ∀ v' w', OwnBy w' base v' (xs ++ [y]) → Below base w w' → wpList Tryz.prog ops Q rest (a.put o.dst v') w') : wpList Tryz.prog ops Q (o :: rest) a (w.alloc (.cells #[.int .u8 n] 5)) := by
  subst hq
  subst hn
  exact wl_append_bytes hgd s x ho base v xs [y] (some ⟨w.heap.size, 0, none⟩) 1 hs (hown.alloc _) hx (isBy_one w y) (fun h => by cases h) (by simp; omega) (by simp; omega) fun v' w' h1 h2 =>
    h v' w' h1 (((Below.refl _ _).alloc hbase _).trans h2)

/-! Slices of a slice of bytes. -/
theorem IsBy.take {w : World} {A : Option Addr} {l : List UInt8} (h : IsBy w A l) (k : Nat) : IsBy w A (l.take k) := by
  intro i hi
  have hl : i < l.length ∧ i < k := by simp at hi; omega
  obtain ⟨b, o, h1, h2⟩ := h i hl.1
  exact ⟨b, o, h1, by rw [h2]; simp [List.getD, hl.2]⟩
theorem IsBy.drop {w : World} {A A' : Option Addr} {l : List UInt8} (h : IsBy w A l) (k : Nat) (hA : k < l.length → A' = A.map (·.add k)) : IsBy w A' (l.drop k) := by
  intro i hi
  have hl : k + i < l.length := by simp at hi; omega
  obtain ⟨b, o, h1, h2⟩ := h (k + i) hl
  refine ⟨b, o + k, ?_, ?_⟩
  · rw [hA (by omega), h1]; simp [Addr.add_lit]
  · rw [Nat.add_assoc, h2]; simp [List.getD]
theorem bytes_slice_to {ops : Array Oper} {rest : List Oper} {o : Oper} {a : Act} {w : World} {Q : Exit → Act → World → Prop} (hgd : o.guard = none) (x y : Operand)
    (ho : o.op = .slice 39 x none (some y) none) (A : Option Addr) (n c k : Nat) (hx : a.eval x = .slice A n c) (hy : a.eval y = .int .i64 k) (hk : k ≤ c)
    (h : wpList Tryz.prog ops Q rest (a.put o.dst (.slice A k c)) w) : wpList Tryz.prog ops Q (o :: rest) a w := by
  refine wpList_plain hgd fun K hK => ?_
  obtain ⟨i0, hi, _, _, _⟩ := info_byte
  unfold Oper.wp execOp
  have e : (A.map fun x => x.add 0) = A := by cases A <;> simp [Addr.add]
  simp [ho, hx, hy, Instr.sliceAt, Instr.slice, Sem.run_bind, run_underlying Tryz.underlying39, Instr.sliceBounds, Instr.sliceBound, asIntOf, hk, sizeOf, typeInfo, hi, e]
  exact hK _ _ h
theorem bytes_slice_from {ops : Array Oper} {rest : List Oper} {o : Oper} {a : Act} {w : World} {Q : Exit → Act → World → Prop} (hgd : o.guard = none) (x y : Operand)
    (ho : o.op = .slice 39 x (some y) none none) (A : Option Addr) (n c k : Nat) (hx : a.eval x = .slice A n c) (hy : a.eval y = .int .i64 k) (hk : k ≤ n)
    (h : ∀ A', (k < c → A' = A.map (·.add k)) → (A' = none → A = none) → wpList Tryz.prog ops Q rest (a.put o.dst (.slice A' (n - k) (c - k))) w) : wpList Tryz.prog ops Q (o :: rest) a w := by
  refine wpList_plain hgd fun K hK => ?_
  obtain ⟨i0, hi, _, hz1, _⟩ := info_byte
  unfold Oper.wp execOp
  simp [ho, hx, hy, Instr.sliceAt, Instr.slice, Sem.run_bind, run_underlying Tryz.underlying39, Instr.sliceBounds, Instr.sliceBound, asIntOf, hk, sizeOf, typeInfo, hi, hz1]
  exact hK _ _ (h (if c = k then A else A.map (·.add k)) (fun hlt => by rw [if_neg (by omega)]) (fun h0 => by split at h0 <;> simp_all))
/-- Cut from k to m, the room up to n. -/
theorem bytes_slice_three {ops : Array Oper} {rest : List Oper} {o : Oper} {a : Act} {w : World} {Q : Exit → Act → World → Prop} (hgd : o.guard = none) (x y z u : Operand)
    (ho : o.op = .slice 39 x (some y) (some z) (some u)) (A : Option Addr) (n c k m r : Nat) (hx : a.eval x = .slice A n c) (hy : a.eval y = .int .i64 k) (hz : a.eval z = .int .i64 m) (hu : a.eval u = .int .i64 r) (hk : k ≤ m) (hm : m ≤ r) (hr : r ≤ c)
    (h : ∀ A', (k < r → A' = A.map (·.add k)) → (A' = none → A = none) → wpList Tryz.prog ops Q rest (a.put o.dst (.slice A' (m - k) (r - k))) w) : wpList Tryz.prog ops Q (o :: rest) a w := by
  refine wpList_plain hgd fun K hK => ?_
  obtain ⟨i0, hi, _, hz1, _⟩ := info_byte
  unfold Oper.wp execOp
  simp [ho, hx, hy, hz, hu, Instr.sliceAt, Instr.slice, Sem.run_bind, run_underlying Tryz.underlying39, Instr.sliceBounds, Instr.sliceBound, asIntOf, hk, hm, hr, sizeOf, typeInfo, hi, hz1]
  exact hK _ _ (h (if r = k then A else A.map (·.add k)) (fun hlt => by rw [if_neg (by omega)]) (fun h0 => by split at h0 <;> simp_all))
theorem bytes_slice_two {ops : Array Oper} {rest : List Oper} {o : Oper} {a : Act} {w : World} {Q : Exit → Act → World → Prop} (hgd : o.guard = none) (x y z : Operand)
    (ho : o.op = .slice 39 x (some y) (some z) none) (A : Option Addr) (n c k m : Nat) (hx : a.eval x = .slice A n c) (hy : a.eval y = .int .i64 k) (hz : a.eval z = .int .i64 m) (hk : k ≤ m) (hm : m ≤ c)
    (h : ∀ A', (k < c → A' = A.map (·.add k)) → (A' = none → A = none) → wpList Tryz.prog ops Q rest (a.put o.dst (.slice A' (m - k) (c - k))) w) : wpList Tryz.prog ops Q (o :: rest) a w := by
  refine wpList_plain hgd fun K hK => ?_
  obtain ⟨i0, hi, _, hz1, _⟩ := info_byte
  unfold Oper.wp execOp
  simp [ho, hx, hy, hz, Instr.sliceAt, Instr.slice, Sem.run_bind, run_underlying Tryz.underlying39, Instr.sliceBounds, Instr.sliceBound, asIntOf, hk, hm, sizeOf, typeInfo, hi, hz1]
  exact hK _ _ (h (if c = k then A else A.map (·.add k)) (fun hlt => by rw [if_neg (by omega)]) (fun h0 => by split at h0 <;> simp_all))
end Go.Proofs.YtinhaipnmmgplaaGreat

/-
  Fields, holds and messages as they lie in memory.
-/
namespace Go.Proofs.YtinhaipnmmgplaaGreat
set_option maxRecDepth 20000
open Go.RowKit
set_option linter.unusedSimpArgs false
/-- The text of bytes. -/
def strT (l : List UInt8) : ByteArray := ⟨l.toArray⟩
theorem strT_of (s : ByteArray) : strT s.data.toList = s := by simp [strT]
theorem strT_size (l : List UInt8) : (strT l).size = l.length := by simp [strT, ByteArray.size]
theorem strT_inj {l r : List UInt8} : strT l = strT r ↔ l = r := by
  constructor
  · intro h
    have := congrArg (fun b : ByteArray => b.data.toList) h
    simpa [strT] using this
  · intro h; rw [h]
/-- Where a slice of structs of ints leads: n cells. -/
def IntsIs (w : World) (A : Option Addr) (n : Nat) (f : Nat → Int) : Prop := ∀ i, i < n → ∃ b o, A = some ⟨b, o, none⟩ ∧ w.cell? ⟨b, o + i, none⟩ = some (.int .i64 (f i))
theorem IntsIs.below {w w' : World} {A : Option Addr} {n : Nat} {f : Nat → Int} (h : IntsIs w A n f) (hb : Below w.heap.size w w') : IntsIs w' A n f := fun i hi => by
  obtain ⟨b, o, h1, h2⟩ := h i hi
  exact ⟨b, o, h1, (hb.cell (World.block_lt_of_cell? _ _ h2)).trans h2⟩
/-- A field. -/
structure Fld where
  name : List UInt8
  kind : Int
  epoch : Int
  cnt : Nat → Int
  lock : Nat → Int
  hA : Option Addr
  hn : Nat
  hc : Nat
  hs : Nat → Int
def Fld.val (F : Fld) (q : Nat) : Value :=
  if q = 0 then .string (strT F.name) else if q = 1 then .int .i64 F.kind else if q = 2 then .int .i64 F.epoch else if q < 582 then .int .i64 (F.cnt (q - 3)) else if q < 586 then .int .i64 (F.lock (q - 582)) else .slice F.hA F.hn F.hc
def Fld.cells (F : Fld) : Array Value := cellsF 587 F.val
theorem Fld.size (F : Fld) : F.cells.size = 587 := size_cellsF _ _
theorem Fld.one (F : Fld) : F.cells.all (fun v => v.oneCell') = true := one_cellsF fun i _ => by
  unfold Fld.val
  split
  · rfl
  · split
    · rfl
    · split
      · rfl
      · split
        · rfl
        · split <;> rfl
theorem Fld.get0 (F : Fld) : F.cells[0]? = some (.string (strT F.name)) := get_cellsF _ _ _ (by decide)
theorem Fld.get1 (F : Fld) : F.cells[1]? = some (.int .i64 F.kind) := get_cellsF _ _ _ (by decide)
theorem Fld.get2 (F : Fld) : F.cells[2]? = some (.int .i64 F.epoch) := get_cellsF _ _ _ (by decide)
theorem Fld.get586 (F : Fld) : F.cells[586]? = some (.slice F.hA F.hn F.hc) := get_cellsF _ _ _ (by decide)
theorem Fld.getE0 (F : Fld) (h : 0 < F.cells.size) : F.cells[0] = .string (strT F.name) := getE_cellsF _ _ _ h
theorem Fld.getE1 (F : Fld) (h : 1 < F.cells.size) : F.cells[1] = .int .i64 F.kind := getE_cellsF _ _ _ h
theorem Fld.getE2 (F : Fld) (h : 2 < F.cells.size) : F.cells[2] = .int .i64 F.epoch := getE_cellsF _ _ _ h
theorem Fld.getE586 (F : Fld) (h : 586 < F.cells.size) : F.cells[586] = .slice F.hA F.hn F.hc := getE_cellsF _ _ _ h
theorem Fld.cut_cnt (F : Fld) : cut F.cells 3 579 = ints 579 F.cnt := by
  unfold cut Fld.cells
  rw [extract_cellsF 587 _ 3 579 (by decide)]
  refine cellsF_congr fun i hi => ?_
  unfold Fld.val
  rw [if_neg (by omega), if_neg (by omega), if_neg (by omega), if_pos (by omega), Nat.add_sub_cancel_left]
theorem Fld.cut_lock (F : Fld) : cut F.cells 582 4 = ints 4 F.lock := by
  unfold cut Fld.cells
  rw [extract_cellsF 587 _ 582 4 (by decide)]
  refine cellsF_congr fun i hi => ?_
  unfold Fld.val
  rw [if_neg (by omega), if_neg (by omega), if_neg (by omega), if_neg (by omega), if_pos (by omega), Nat.add_sub_cancel_left]
theorem Fld.cut_all (F : Fld) : cut F.cells 0 587 = F.cells := by
  unfold cut
  rw [Nat.zero_add, ← F.size, Array.extract_size]
theorem Fld.splice_all (F : Fld) (c : Array Value) (h : c.size = 587) : splice c 0 F.cells = F.cells := by
  unfold splice
  rw [F.size]
  simp [List.drop_of_length_le, h]
/-- What a field's holds lead to. -/
structure FldOk (w : World) (F : Fld) : Prop where
  holds : IntsIs w F.hA (5 * F.hn) F.hs
  le : F.hn ≤ F.hc
  nil : F.hA = none → F.hc = 0
  big : F.name.length ≤ 9223372036854775807 ∧ F.hc ≤ 9223372036854775807
theorem FldOk.below {w w' : World} {F : Fld} (h : FldOk w F) (hb : Below w.heap.size w w') : FldOk w' F := ⟨h.holds.below hb, h.le, h.nil, h.big⟩
/-- A slice of fields. -/
structure FldsIs (w : World) (A : Option Addr) (n : Nat) (L : Nat → Fld) : Prop where
  cell : ∀ i, i < n → ∃ b o, A = some ⟨b, o, none⟩ ∧ ∀ j, j < 587 → w.cell? ⟨b, o + i * 587 + j, none⟩ = (L i).cells[j]?
  ok : ∀ i, i < n → FldOk w (L i)
theorem FldsIs.below {w w' : World} {A : Option Addr} {n : Nat} {L : Nat → Fld} (h : FldsIs w A n L) (hb : Below w.heap.size w w') : FldsIs w' A n L :=
  ⟨fun i hi => by
    obtain ⟨b, o, h1, h2⟩ := h.cell i hi
    refine ⟨b, o, h1, fun j hj => ?_⟩
    have h3 := h2 j hj
    have hs : (L i).cells[j]? = some ((L i).cells[j]'(by rw [Fld.size]; exact hj)) := Array.getElem?_eq_getElem _
    rw [hs] at h3 ⊢
    exact (hb.cell (World.block_lt_of_cell? _ _ h3)).trans h3, fun i hi => (h.ok i hi).below hb⟩
/-- A message. -/
structure Msg where
  kind : Int
  frm : Int
  to : Int
  ver : Int
  num : Int
  yes : Bool
  fA : Option Addr
  fn : Nat
  fc : Nat
  fl : Nat → Fld
  pk : Int
  pn : List UInt8
  po : List UInt8
  pa : Int
  pb : Int
def Msg.cells (m : Msg) : Array Value := #[.int .i64 m.kind, .int .i64 m.frm, .int .i64 m.to, .int .i64 m.ver, .int .i64 m.num, .bool m.yes, .slice m.fA m.fn m.fc, .int .i64 m.pk, .string (strT m.pn), .string (strT m.po), .int .i64 m.pa, .int .i64 m.pb]
structure MsgOk (w : World) (m : Msg) : Prop where
  flds : FldsIs w m.fA m.fn m.fl
  le : m.fn ≤ m.fc
  nil : m.fA = none → m.fc = 0
  big : m.pn.length ≤ 9223372036854775807 ∧ m.po.length ≤ 9223372036854775807 ∧ m.fc ≤ 9223372036854775807
theorem MsgOk.below {w w' : World} {m : Msg} (h : MsgOk w m) (hb : Below w.heap.size w w') : MsgOk w' m := ⟨h.flds.below hb, h.le, h.nil, h.big⟩
end Go.Proofs.YtinhaipnmmgplaaGreat

/-
  Rows of the call's own, of elements of any size: what they hold, how they grow.
-/
namespace Go.Proofs.YtinhaipnmmgplaaGreat
set_option maxRecDepth 20000
open Go.RowKit
set_option linter.unusedSimpArgs false
set_option linter.unusedVariables false
section
variable {P : Program} {w w' : World} {base k n : Nat} {E : TypeId} {v : Value} {xs : List Value}
theorem own_below (h : w.ownsRow base E k v n xs) (hb : Below w.heap.size w w') : w'.ownsRow base E k v n xs := by
  refine ⟨h.1, h.2.imp id ?_⟩
  rintro ⟨g, cap, cur, h1, h2, h3, h4⟩
  exact ⟨g, cap, cur, h1, h2, (hb.block g (Array.getElem?_eq_some_iff.1 h3).1).trans h3, h4⟩
theorem own_alloc (h : w.ownsRow base E k v n xs) (o : Obj) : (w.alloc o).ownsRow base E k v n xs := own_below h ((Below.refl _ _).alloc (Nat.le_refl _) _)
theorem own_mono {base' : Nat} (h : w.ownsRow base E k v n xs) (hb : base' ≤ base) : w.ownsRow base' E k v n xs := by
  refine ⟨h.1, h.2.imp id ?_⟩
  rintro ⟨g, cap, cur, h1, h2, h3⟩
  exact ⟨g, cap, cur, h1, by omega, h3⟩
theorem own_grown (h : w.ownsRow base E k v n xs) (hb : base ≤ w.heap.size) (hg : w.grownBy w' v.ownBlock) : Below base w w' := by
  refine ⟨hg.os, hg.tape, hg.output, hg.size, fun k hk => hg.block k (by omega) ?_⟩
  rcases h.2 with ⟨rfl, _⟩ | ⟨g, cap, cur, rfl, hbg, _⟩
  · simp [Value.ownBlock]
  · simp [Value.ownBlock]; omega
theorem own_nil (w : World) (base : Nat) (E : TypeId) (k : Nat) : w.ownsRow base E k (.slice none 0 0) 0 [] := World.ownsRow_nil w base _ _
/-- Only its own block has changed. -/
theorem own_keep {p : Nat} (h : w.ownsRow base E k v n xs) (ho : Only p w w') (hp : p < base) : w'.ownsRow base E k v n xs := by
  refine ⟨h.1, h.2.imp id ?_⟩
  rintro ⟨g, cap, cur, h1, h2, h3, h4⟩
  exact ⟨g, cap, cur, h1, h2, (ho.2.2 g (by omega) (Array.getElem?_eq_some_iff.1 h3).1).trans h3, h4⟩
theorem own_open (h : w.ownsRow base E k v n xs) (hk : 0 < k) : ∃ a cap, v = .slice a n cap ∧ (a = none → cap = 0 ∧ n = 0) ∧ n ≤ cap ∧ cap ≤ 9223372036854775807 ∧ (∀ x, a = some x → base ≤ x.block ∧ x.block < w.heap.size) ∧
    ∀ j u, xs[j]? = some u → ∃ g, a = some ⟨g, 0, none⟩ ∧ w.cell? ⟨g, j, none⟩ = some u := by
  rcases h.2 with ⟨hv, hn⟩ | ⟨g, cap, cur, hv, hbg, hg, hnc, hcm, hcs, htk⟩
  · subst hn
    have hx : xs = [] := List.eq_nil_of_length_eq_zero (by rw [h.1, Nat.zero_mul])
    subst hx
    exact ⟨none, 0, hv, fun _ => ⟨rfl, rfl⟩, Nat.le_refl _, by decide, fun _ h => (by cases h), fun j u h => (by simp at h)⟩
  · refine ⟨some ⟨g, 0, none⟩, cap, hv, fun h => (by cases h), hnc, by unfold maxLen at hcm; omega, fun x h => ?_, fun j u hu => ⟨g, rfl, ?_⟩⟩
    · injection h with h
      subst h
      exact ⟨hbg, (Array.getElem?_eq_some_iff.1 hg).1⟩
    · have hj : j < n * k := by rw [← h.1]; exact (List.getElem?_eq_some_iff.1 hu).1
      rw [cell_of_row w g j cur _ _ hg, ← Array.getElem?_toList, ← hu, ← htk, List.getElem?_take, if_pos hj]
/-- A block that was just laid, as what is appended. -/
theorem row_laid (w : World) (c : Array Value) (E : TypeId) (l : List Value) (hl : l = c.toList) : ∀ (j : Nat) (u : Value), l[j]? = some u → ∃ b o, some (⟨w.heap.size, 0, none⟩ : Addr) = some ⟨b, o, none⟩ ∧ (w.alloc (.cells c E)).cell? ⟨b, o + j, none⟩ = some u := fun j u hu => by
  subst hl
  exact ⟨w.heap.size, 0, rfl, by rw [Nat.zero_add, cell_of_rowAt (rowAt_alloc_at w c E _ rfl), ← hu]; simp⟩
/-- append of elements to a row of the call's own. -/
theorem wl_append_rows {T : TypeId} {bytes : Nat} {z : Value} (hT : P.underlying T = some (.slice E)) (hi : (P.info? E).map (fun i => (i.zero, i.size, i.bytes)) = some (some z, k, bytes)) (hzc : z.cells.size = k) (hk : 0 < k)
    {ops : Array Oper} {rest : List Oper} {o : Oper} {a : Act} {Q : Exit → Act → World → Prop} (hgd : o.guard = none) (s x : Operand)
    (ho : o.op = .call { callee := .builtin .append, args := #[s, x], argTypes := #[T, T] }) (hs : a.eval s = v) (hown : w.ownsRow base E k v n xs)
    (A : Option Addr) (m c : Nat) (ys : List Value) (hx : a.eval x = .slice A m c) (hl : ys.length = m * k) (hA : A = none → c = 0 ∧ m = 0) (hcell : ∀ j u, ys[j]? = some u → ∃ b o, A = some ⟨b, o, none⟩ ∧ w.cell? ⟨b, o + j, none⟩ = some u)
    (h1 : ∀ u ∈ ys, u.oneCell' = true) (h63 : n + m ≤ 9223372036854775807) (hbytes : (n + m) * bytes ≤ 140737488355328) (hbase : base ≤ w.heap.size)
    (h : ∀ v' w', w'.ownsRow base E k v' (n + m) (xs ++ ys) → Below base w w' → wpList P ops Q rest (a.put o.dst v') w') : wpList P ops Q (o :: rest) a w := by
  obtain ⟨i0, hi0, hz0, hz1, hz2⟩ := info_parts hi
  cases A with
  | none =>
    obtain ⟨rfl, rfl⟩ := hA rfl
    have hy : ys = [] := List.eq_nil_of_length_eq_zero (by rw [hl, Nat.zero_mul])
    subst hy
    refine wpList_append_own_none hgd s x _ ho base E i0 k hT hi0 v _ _ hs hown hx (h _ _ (by rw [List.append_nil]; exact hown) (Below.refl _ _))
  | some ad =>
    refine wpList_append_own _ hgd s x _ ho base E i0 z k bytes hT hi0 hz0 hz1 hz2 hzc hk v _ _ hs hown ad m c ys hx hl ?_ h1 (by unfold maxLen; omega) hbytes hbase ?_
    · intro j u hu
      obtain ⟨b, off, h2, h3⟩ := hcell j u hu
      injection h2 with h2
      subst h2
      rw [Addr.add_lit, h3]
    · intro v' w' h2 h3 _
      exact h v' w' h2 (own_grown hown hbase h3)
/-- The same, with what has changed. -/
theorem wl_append_rows2 {T : TypeId} {bytes : Nat} {z : Value} (hT : P.underlying T = some (.slice E)) (hi : (P.info? E).map (fun i => (i.zero, i.size, i.bytes)) = some (some z, k, bytes)) (hzc : z.cells.size = k) (hk : 0 < k)
    {ops : Array Oper} {rest : List Oper} {o : Oper} {a : Act} {Q : Exit → Act → World → Prop} (hgd : o.guard = none) (s x : Operand)
    (ho : o.op = .call { callee := .builtin .append, args := #[s, x], argTypes := #[T, T] }) (hs : a.eval s = v) (hown : w.ownsRow base E k v n xs)
    (A : Option Addr) (m c : Nat) (ys : List Value) (hx : a.eval x = .slice A m c) (hl : ys.length = m * k) (hA : A = none → c = 0 ∧ m = 0) (hcell : ∀ j u, ys[j]? = some u → ∃ b o, A = some ⟨b, o, none⟩ ∧ w.cell? ⟨b, o + j, none⟩ = some u)
    (h1 : ∀ u ∈ ys, u.oneCell' = true) (h63 : n + m ≤ 9223372036854775807) (hbytes : (n + m) * bytes ≤ 140737488355328) (hbase : base ≤ w.heap.size)
    (h : ∀ v' w', w'.ownsRow base E k v' (n + m) (xs ++ ys) → Below base w w' → w.grownBy w' v.ownBlock → wpList P ops Q rest (a.put o.dst v') w') : wpList P ops Q (o :: rest) a w := by
  obtain ⟨i0, hi0, hz0, hz1, hz2⟩ := info_parts hi
  cases A with
  | none =>
    obtain ⟨rfl, rfl⟩ := hA rfl
    have hy : ys = [] := List.eq_nil_of_length_eq_zero (by rw [hl, Nat.zero_mul])
    subst hy
    refine wpList_append_own_none hgd s x _ ho base E i0 k hT hi0 v _ _ hs hown hx (h _ _ (by rw [List.append_nil]; exact hown) (Below.refl _ _) ⟨rfl, rfl, rfl, Nat.le_refl _, fun _ _ _ => rfl⟩)
  | some ad =>
    refine wpList_append_own _ hgd s x _ ho base E i0 z k bytes hT hi0 hz0 hz1 hz2 hzc hk v _ _ hs hown ad m c ys hx hl ?_ h1 (by unfold maxLen; omega) hbytes hbase ?_
    · intro j u hu
      obtain ⟨b, off, h2, h3⟩ := hcell j u hu
      injection h2 with h2
      subst h2
      rw [Addr.add_lit, h3]
    · intro v' w' h2 h3 _
      exact h v' w' h2 (own_grown hown hbase h3) h3
end
end Go.Proofs.YtinhaipnmmgplaaGreat

/-
  Of what lay there two blocks alone have changed.
-/
namespace Go.Proofs.YtinhaipnmmgplaaGreat
set_option maxRecDepth 20000
open Go.RowKit
set_option linter.unusedSimpArgs false
set_option linter.unusedVariables false
/-- Of what lay there, only the blocks g and q have changed. -/
def Two (g q : Nat) (w w' : World) : Prop := w.heap.size ≤ w'.heap.size ∧ Below q w w' ∧ ∀ k, k ≠ g → k ≠ q → k < w.heap.size → w'.heap[k]? = w.heap[k]?
theorem Two.refl (g q : Nat) (w : World) : Two g q w w := ⟨Nat.le_refl _, Below.refl _ _, fun _ _ _ _ => rfl⟩
theorem Two.trans {g q : Nat} {a b c : World} (h : Two g q a b) (k : Two g q b c) : Two g q a c :=
  ⟨Nat.le_trans h.1 k.1, h.2.1.trans k.2.1, fun i h1 h2 h3 => (k.2.2 i h1 h2 (by have := h.1; omega)).trans (h.2.2 i h1 h2 h3)⟩
theorem Two.of_below {g q : Nat} {w w' : World} (h : Below w.heap.size w w') (hq : q ≤ w.heap.size) : Two g q w w' := ⟨h.size, h.mono hq, fun i _ _ h3 => h.block i h3⟩
theorem Two.setG {g q i : Nat} {w : World} (hq : q ≤ g) (v : Value) : Two g q w (w.setCell ⟨g, i, none⟩ v) :=
  ⟨(below_setCell' (Below.refl q w) hq).size, below_setCell' (Below.refl q w) hq, fun k h1 _ _ => heap_setCell_other w ⟨g, i, none⟩ k v h1⟩
theorem Two.setQ {g q i : Nat} {w : World} (v : Value) : Two g q w (w.setCell ⟨q, i, none⟩ v) :=
  ⟨(below_setCell' (Below.refl q w) (Nat.le_refl _)).size, below_setCell' (Below.refl q w) (Nat.le_refl _), fun k _ h2 _ => heap_setCell_other w ⟨q, i, none⟩ k v h2⟩
theorem Two.cell {g q b o : Nat} {w w' : World} (h : Two g q w w') (h1 : b ≠ g) (h2 : b ≠ q) {v : Value} (hc : w.cell? ⟨b, o, none⟩ = some v) : w'.cell? ⟨b, o, none⟩ = some v :=
  (World.cell?_of_block (w := w) (h.2.2 b h1 h2 (World.block_lt_of_cell? _ _ hc))).trans hc
theorem Two.row {g q k : Nat} {w w' : World} (h : Two g q w w') (h1 : k ≠ g) (h2 : k ≠ q) {x : Array Value × TypeId} (hr : rowAt w k = some x) : rowAt w' k = some x := (rowAt_of_heap (h.2.2 k h1 h2 (rowAt_lt hr))).trans hr
theorem Two.by_ {g q : Nat} {w w' : World} (h : Two g q w w') {A : Option Addr} {l : List UInt8} (hb : IsBy w A l) (ho : ∀ x, A = some x → x.block ≠ g ∧ x.block ≠ q) : IsBy w' A l := fun i hi => by
  obtain ⟨b, o, h1, h2⟩ := hb i hi
  exact ⟨b, o, h1, h.cell (ho _ h1).1 (ho _ h1).2 h2⟩
theorem Two.of_only {g q : Nat} {w w' : World} (h : Only q w w') : Two g q w w' := ⟨h.1, h.2.1, fun k _ h2 h3 => h.2.2 k h2 h3⟩
theorem Two.of_onlyG {g q : Nat} {w w' : World} (h : Only g w w') (hq : q ≤ g) : Two g q w w' := ⟨h.1, h.2.1.mono hq, fun k h1 _ h3 => h.2.2 k h1 h3⟩
theorem Two.below {g q B : Nat} {a w w' : World} (h : Two g q w w') (hb : Below B a w) (hq : B ≤ q) : Below B a w' := hb.trans (h.2.1.mono hq)
end Go.Proofs.YtinhaipnmmgplaaGreat
