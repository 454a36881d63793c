/-
  Layer 15 (net): steps, and the reference's net, taken whole.
-/
import Derived.Test.YtlocoieknabiaaaGreatZMsgOps
namespace Go.Proofs.YtlocoieknabiaaaGreat
set_option maxRecDepth 20000
open Go.RowKit
set_option linter.unusedSimpArgs false
set_option linter.unusedVariables false
/-- A step's cells. -/
def doC (v k : Int) (m : Msg) : Array Value := #[.int .i64 v, .int .i64 k, .int .i64 m.kind, .int .i64 m.frm, .int .i64 m.to, .int .i64 m.ver, .int .i64 m.num, .bool m.yes, .slice m.fA m.fn m.fc, .int .i64 m.pk, .string (strT m.pn), .string (strT m.po), .int .i64 m.pa, .int .i64 m.pb]
theorem doC_size (v k : Int) (m : Msg) : (doC v k m).size = 14 := by simp [doC]
theorem doC_one (v k : Int) (m : Msg) : (doC v k m).all (fun v => v.oneCell') = true := by
  simp only [doC, Array.all_eq_true]
  intro i hi
  simp at hi
  rcases i with _ | _ | _ | _ | _ | _ | _ | _ | _ | _ | _ | _ | _ | _ | i <;> first | rfl | omega
theorem doC_get0 (v k : Int) (m : Msg) : (doC v k m)[0]? = some (.int .i64 v) := rfl
theorem doC_get1 (v k : Int) (m : Msg) : (doC v k m)[1]? = some (.int .i64 k) := rfl
theorem doC_getE0 (v k : Int) (m : Msg) (h : 0 < (doC v k m).size) : (doC v k m)[0] = .int .i64 v := rfl
theorem doC_getE1 (v k : Int) (m : Msg) (h : 1 < (doC v k m).size) : (doC v k m)[1] = .int .i64 k := rfl
theorem doC_cut (v k : Int) (m : Msg) : cut (doC v k m) 2 12 = m.cells := by simp [cut, doC, Msg.cells]
theorem doC_all (v k : Int) (m : Msg) : cut (doC v k m) 0 14 = doC v k m := by
  unfold cut
  rw [Nat.zero_add, ← doC_size v k m, Array.extract_size]
theorem doC_splice (v k : Int) (m : Msg) (c : Array Value) (h : c.size = 14) : splice c 0 (doC v k m) = doC v k m := by
  unfold splice
  rw [doC_size]
  simp [List.drop_of_length_le, h]
section
variable (ρ : Operand → Value) (d : Option Tmp) (T : TypeId) (p : String) (af : Array Edge) (gd : Option (Nat × Bool)) (x y : Operand) (w : World)
theorem xstore_do : (execOp ρ ⟨d, .store 36 x y, T, p, af, gd⟩).run Tryz.prog w = storeAgg Tryz.prog w 36 (ρ x) (ρ y) := rfl
theorem xload_do : (execOp ρ ⟨d, .load 36 x, T, p, af, gd⟩).run Tryz.prog w = loadAgg Tryz.prog w 36 (ρ x) := rfl
theorem xalloc_do : (execOp ρ ⟨d, .alloc 36, T, p, af, gd⟩).run Tryz.prog w = .ok (.value (.pointer (some ⟨w.heap.size, 0, none⟩))) (w.alloc (.cells (doC 0 0 msg0) 36)) :=
  (exec_alloc ..).trans (allocAgg_ok (by kernel_rfl))
end
theorem load_do (w : World) (g o : Nat) (h : (rowAt w g).isSome = true) (hn : o + 14 ≤ (rowCells w g).size) :
    loadAgg Tryz.prog w 36 (.pointer (some ⟨g, o, none⟩)) = .ok (.value (.agg (cut (rowCells w g) o 14))) w := loadAgg_row Tryz.underlying36 rfl (by kernel_rfl) h hn
theorem store_do (w : World) (g o : Nat) (v k : Int) (m : Msg) (h : (rowAt w g).isSome = true) (hn : o + 14 ≤ (rowCells w g).size) :
    storeAgg Tryz.prog w 36 (.pointer (some ⟨g, o, none⟩)) (.agg (doC v k m)) = .ok .skip (w.setRow g (splice (rowCells w g) o (doC v k m))) :=
  storeAgg_row (by rw [doC_size]; kernel_rfl) (doC_one v k m) h (by rw [doC_size]; exact hn)
theorem load_msg_at (w : World) (g o : Nat) (h : (rowAt w g).isSome = true) (hn : o + 12 ≤ (rowCells w g).size) :
    loadAgg Tryz.prog w 34 (.pointer (some ⟨g, o, none⟩)) = .ok (.value (.agg (cut (rowCells w g) o 12))) w := loadAgg_row Tryz.underlying34 rfl (by kernel_rfl) h hn
theorem load_msg_do {w : World} {g : Nat} {v k : Int} {m : Msg} {T : TypeId} (h : rowAt w g = some (doC v k m, T)) : loadAgg Tryz.prog w 34 (.pointer (some ⟨g, 2, none⟩)) = .ok (.value (.agg m.cells)) w := by
  have hs : rowCells w g = doC v k m := by simp [rowCells, h]
  rw [load_msg_at w g 2 (by rw [h]; rfl) (by rw [hs, doC_size]; decide), hs, doC_cut]
/-- A slice of steps. -/
structure DosIs (w : World) (A : Option Addr) (n : Nat) (V K : Nat → Int) (M : Nat → Msg) : Prop where
  cell : ∀ i, i < n → ∃ b o, A = some ⟨b, o, none⟩ ∧ ∀ j, j < 14 → w.cell? ⟨b, o + i * 14 + j, none⟩ = (doC (V i) (K i) (M i))[j]?
  ok : ∀ i, i < n → MsgOk w (M i)
theorem DosIs.below {w w' : World} {A : Option Addr} {n : Nat} {V K : Nat → Int} {M : Nat → Msg} (h : DosIs w A n V K M) (hb : Below w.heap.size w w') : DosIs w' A n V K M :=
  ⟨fun i hi => by
    obtain ⟨b, o, h1, h2⟩ := h.cell i hi
    refine ⟨b, o, h1, fun j hj => ?_⟩
    have h3 := h2 j hj
    have hs : (doC (V i) (K i) (M i))[j]? = some ((doC (V i) (K i) (M i))[j]'(by rw [doC_size]; exact hj)) := Array.getElem?_eq_getElem _
    rw [hs] at h3 ⊢
    exact (hb.cell (World.block_lt_of_cell? _ _ h3)).trans h3, fun i hi => (h.ok i hi).below hb⟩
theorem DosIs.load {w : World} {A : Option Addr} {n : Nat} {V K : Nat → Int} {M : Nat → Msg} (h : DosIs w A n V K M) {i : Nat} (hi : i < n) :
    ∃ b o, A = some ⟨b, o, none⟩ ∧ loadAgg Tryz.prog w 36 (.pointer (some ⟨b, o + i * 14, none⟩)) = .ok (.value (.agg (doC (V i) (K i) (M i)))) w := by
  obtain ⟨b, o, h1, h2⟩ := h.cell i hi
  exact ⟨b, o, h1, load_cellsAt Tryz.underlying36 rfl (by kernel_rfl) (doC_size _ _ _) h2⟩
/-- The reference's net. -/
def rnC (room : Int) (a : Option Addr) (n cap : Nat) (s c l d : Int) : Array Value := #[.int .i64 room, .slice a n cap, .int .i64 s, .int .i64 c, .int .i64 l, .int .i64 d]
theorem rnC_size (room : Int) (a : Option Addr) (n cap : Nat) (s c l d : Int) : (rnC room a n cap s c l d).size = 6 := by simp [rnC]
theorem rnC_one (room : Int) (a : Option Addr) (n cap : Nat) (s c l d : Int) : (rnC room a n cap s c l d).all (fun v => v.oneCell') = true := by
  simp only [rnC, Array.all_eq_true]
  intro i hi
  simp at hi
  rcases i with _ | _ | _ | _ | _ | _ | i <;> first | rfl | omega
theorem rnC_get0 (room : Int) (a : Option Addr) (n cap : Nat) (s c l d : Int) : (rnC room a n cap s c l d)[0]? = some (.int .i64 room) := rfl
theorem rnC_getE0 (room : Int) (a : Option Addr) (n cap : Nat) (s c l d : Int) (h : 0 < (rnC room a n cap s c l d).size) : (rnC room a n cap s c l d)[0] = .int .i64 room := rfl
theorem rnC_get1 (room : Int) (a : Option Addr) (n cap : Nat) (s c l d : Int) : (rnC room a n cap s c l d)[1]? = some (.slice a n cap) := rfl
theorem rnC_getE1 (room : Int) (a : Option Addr) (n cap : Nat) (s c l d : Int) (h : 1 < (rnC room a n cap s c l d).size) : (rnC room a n cap s c l d)[1] = .slice a n cap := rfl
theorem rnC_get2 (room : Int) (a : Option Addr) (n cap : Nat) (s c l d : Int) : (rnC room a n cap s c l d)[2]? = some (.int .i64 s) := rfl
theorem rnC_getE2 (room : Int) (a : Option Addr) (n cap : Nat) (s c l d : Int) (h : 2 < (rnC room a n cap s c l d).size) : (rnC room a n cap s c l d)[2] = .int .i64 s := rfl
theorem rnC_set2 (room : Int) (a : Option Addr) (n cap : Nat) (s c l d : Int) (x : Int) : (rnC room a n cap s c l d).setIfInBounds 2 (.int .i64 x) = rnC room a n cap x c l d := rfl
theorem rnC_get3 (room : Int) (a : Option Addr) (n cap : Nat) (s c l d : Int) : (rnC room a n cap s c l d)[3]? = some (.int .i64 c) := rfl
theorem rnC_getE3 (room : Int) (a : Option Addr) (n cap : Nat) (s c l d : Int) (h : 3 < (rnC room a n cap s c l d).size) : (rnC room a n cap s c l d)[3] = .int .i64 c := rfl
theorem rnC_set3 (room : Int) (a : Option Addr) (n cap : Nat) (s c l d : Int) (x : Int) : (rnC room a n cap s c l d).setIfInBounds 3 (.int .i64 x) = rnC room a n cap s x l d := rfl
theorem rnC_get4 (room : Int) (a : Option Addr) (n cap : Nat) (s c l d : Int) : (rnC room a n cap s c l d)[4]? = some (.int .i64 l) := rfl
theorem rnC_getE4 (room : Int) (a : Option Addr) (n cap : Nat) (s c l d : Int) (h : 4 < (rnC room a n cap s c l d).size) : (rnC room a n cap s c l d)[4] = .int .i64 l := rfl
theorem rnC_set4 (room : Int) (a : Option Addr) (n cap : Nat) (s c l d : Int) (x : Int) : (rnC room a n cap s c l d).setIfInBounds 4 (.int .i64 x) = rnC room a n cap s c x d := rfl
theorem rnC_get5 (room : Int) (a : Option Addr) (n cap : Nat) (s c l d : Int) : (rnC room a n cap s c l d)[5]? = some (.int .i64 d) := rfl
theorem rnC_getE5 (room : Int) (a : Option Addr) (n cap : Nat) (s c l d : Int) (h : 5 < (rnC room a n cap s c l d).size) : (rnC room a n cap s c l d)[5] = .int .i64 d := rfl
theorem rnC_set5 (room : Int) (a : Option Addr) (n cap : Nat) (s c l d : Int) (x : Int) : (rnC room a n cap s c l d).setIfInBounds 5 (.int .i64 x) = rnC room a n cap s c l x := rfl
theorem rnC_set1 (room : Int) (a : Option Addr) (n cap : Nat) (s c l d : Int) (a' : Option Addr) (n' cap' : Nat) : (rnC room a n cap s c l d).setIfInBounds 1 (.slice a' n' cap') = rnC room a' n' cap' s c l d := rfl
theorem rnC_all (room : Int) (a : Option Addr) (n cap : Nat) (s c l d : Int) : cut (rnC room a n cap s c l d) 0 6 = rnC room a n cap s c l d := rfl
theorem rnC_splice (room : Int) (a : Option Addr) (n cap : Nat) (s c l d : Int) (x : Array Value) (h : x.size = 6) : splice x 0 (rnC room a n cap s c l d) = rnC room a n cap s c l d := by
  unfold splice
  rw [rnC_size]
  simp [List.drop_of_length_le, h]
section
variable (ρ : Operand → Value) (d : Option Tmp) (T : TypeId) (p : String) (af : Array Edge) (gd : Option (Nat × Bool)) (x y : Operand) (w : World)
theorem xstore_rnet : (execOp ρ ⟨d, .store 29 x y, T, p, af, gd⟩).run Tryz.prog w = storeAgg Tryz.prog w 29 (ρ x) (ρ y) := rfl
theorem xload_rnet : (execOp ρ ⟨d, .load 29 x, T, p, af, gd⟩).run Tryz.prog w = loadAgg Tryz.prog w 29 (ρ x) := rfl
theorem xalloc_rnet : (execOp ρ ⟨d, .alloc 29, T, p, af, gd⟩).run Tryz.prog w = .ok (.value (.pointer (some ⟨w.heap.size, 0, none⟩))) (w.alloc (.cells (rnC 0 none 0 0 0 0 0 0) 29)) :=
  (exec_alloc ..).trans (allocAgg_ok (by kernel_rfl))
end
theorem load_rnet (w : World) (g o : Nat) (h : (rowAt w g).isSome = true) (hn : o + 6 ≤ (rowCells w g).size) :
    loadAgg Tryz.prog w 29 (.pointer (some ⟨g, o, none⟩)) = .ok (.value (.agg (cut (rowCells w g) o 6))) w := loadAgg_row Tryz.underlying29 rfl (by kernel_rfl) h hn
theorem load_rnet_row {w : World} {g : Nat} {room s c l d : Int} {a : Option Addr} {n cap : Nat} {T : TypeId} (h : rowAt w g = some (rnC room a n cap s c l d, T)) : loadAgg Tryz.prog w 29 (.pointer (some ⟨g, 0, none⟩)) = .ok (.value (.agg (rnC room a n cap s c l d))) w := by
  have hs : rowCells w g = rnC room a n cap s c l d := by simp [rowCells, h]
  rw [load_rnet w g 0 (by rw [h]; rfl) (by rw [hs, rnC_size]; decide), hs, rnC_all]
theorem store_rnet (w : World) (g o : Nat) (room : Int) (a : Option Addr) (n cap : Nat) (s c l d : Int) (h : (rowAt w g).isSome = true) (hn : o + 6 ≤ (rowCells w g).size) :
    storeAgg Tryz.prog w 29 (.pointer (some ⟨g, o, none⟩)) (.agg (rnC room a n cap s c l d)) = .ok .skip (w.setRow g (splice (rowCells w g) o (rnC room a n cap s c l d))) :=
  storeAgg_row (by rw [rnC_size]; kernel_rfl) (rnC_one room a n cap s c l d) h (by rw [rnC_size]; exact hn)
end Go.Proofs.YtlocoieknabiaaaGreat
