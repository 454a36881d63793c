/-
  Messages taken whole: what the operations on them do.
-/
import Derived.Test.YtlocoieknabiaaaGreatZMsgs
import Derived.Test.YtlocoieknabiaaaGreatZMFld
import Derived.Test.YtlocoieknabiaaaGreatZMsg1
namespace Go.Proofs.YtlocoieknabiaaaGreat
set_option maxRecDepth 20000
open Go.RowKit
set_option linter.unusedSimpArgs false
set_option linter.unusedVariables false
theorem Msg.one (m : Msg) : m.cells.all (fun v => v.oneCell') = true := by
  simp only [Msg.cells, Array.all_eq_true]
  intro i hi
  simp at hi
  rcases i with _ | _ | _ | _ | _ | _ | _ | _ | _ | _ | _ | _ | i <;> first | rfl | omega
section
variable (ρ : Operand → Value) (d : Option Tmp) (T : TypeId) (p : String) (af : Array Edge) (gd : Option (Nat × Bool)) (x y : Operand) (w : World)
theorem xstore_msg : (execOp ρ ⟨d, .store 34 x y, T, p, af, gd⟩).run Tryz.prog w = storeAgg Tryz.prog w 34 (ρ x) (ρ y) := rfl
theorem xload_msg : (execOp ρ ⟨d, .load 34 x, T, p, af, gd⟩).run Tryz.prog w = loadAgg Tryz.prog w 34 (ρ x) := rfl
theorem xalloc_msg : (execOp ρ ⟨d, .alloc 34, T, p, af, gd⟩).run Tryz.prog w = .ok (.value (.pointer (some ⟨w.heap.size, 0, none⟩))) (w.alloc (.cells msg0.cells 34)) :=
  (exec_alloc ..).trans (allocAgg_ok (by kernel_rfl))
theorem xbuild_msg0 : (execOp ρ ⟨d, .build 34 #[], T, p, af, gd⟩).run Tryz.prog w = .ok (.value (.agg msg0.cells)) w := by kernel_rfl
end
noncomputable def buildSM (w : World) (v : Value) : Result Next := ((do pure (Next.value (← Instr.buildSlice 27 1 #[(0, v)])) : Sem Next)).run Tryz.prog w
section
variable (ρ : Operand → Value) (d : Option Tmp) (T : TypeId) (p : String) (af : Array Edge) (gd : Option (Nat × Bool)) (x : Operand) (w : World)
theorem xbuildS_msg : (execOp ρ ⟨d, .buildSlice 27 1 #[(0, x)], T, p, af, gd⟩).run Tryz.prog w = buildSM w (ρ x) := by simp [execOp, buildSM]
end
theorem buildSM_agg (w : World) (m : Msg) : buildSM w (.agg m.cells) = .ok (.value (.slice (some ⟨w.heap.size, 0, none⟩) 1 1)) (w.alloc (.cells m.cells 34)) := by
  unfold buildSM
  rw [Sem.run_bind, run_buildSlice_agg (n := 12) (Z := msg0.cells) Tryz.underlying27 (by kernel_rfl) (Msg.size _) (by decide) (by decide) m.cells m.size]
  rfl
theorem info_msg : (Tryz.prog.info? 34).map (fun i => (i.zero, i.size, i.bytes)) = some (some (.agg msg0.cells), 12, 128) := by kernel_rfl
theorem load_msg (w : World) (g : Nat) (h : (rowAt w g).isSome = true) (hn : 0 + 12 ≤ (rowCells w g).size) :
    loadAgg Tryz.prog w 34 (.pointer (some ⟨g, 0, none⟩)) = .ok (.value (.agg (cut (rowCells w g) 0 12))) w := loadAgg_row Tryz.underlying34 rfl (by kernel_rfl) h hn
theorem load_msg_later {B : Nat} {w : World} (x : Later B w) (g o : Nat) (hg : g < B) :
    loadAgg Tryz.prog x.wd 34 (.pointer (some ⟨g, o, none⟩)) = if (rowAt w g).isSome = true ∧ o + 12 ≤ (rowCells w g).size then .ok (.value (.agg (cut (rowCells w g) o 12))) x.wd else stuckLoad Tryz.prog x.wd 34 g o :=
  loadAgg_later x Tryz.underlying34 rfl (by kernel_rfl) hg
theorem store_msg (w : World) (g : Nat) (m : Msg) (h : (rowAt w g).isSome = true) (hn : 0 + 12 ≤ (rowCells w g).size) :
    storeAgg Tryz.prog w 34 (.pointer (some ⟨g, 0, none⟩)) (.agg m.cells) = .ok .skip (w.setRow g (splice (rowCells w g) 0 m.cells)) :=
  storeAgg_row (by rw [Msg.size]; kernel_rfl) m.one h (by rw [Msg.size]; exact hn)
theorem Msg.cut_all (m : Msg) : cut m.cells 0 12 = m.cells := by
  unfold cut
  rw [Nat.zero_add, ← m.size, Array.extract_size]
theorem Msg.splice_all (m : Msg) (c : Array Value) (h : c.size = 12) : splice c 0 m.cells = m.cells := by
  unfold splice
  rw [m.size]
  simp [List.drop_of_length_le, h]
theorem MsgsIs.load {w : World} {A : Option Addr} {n : Nat} {M : Nat → Msg} (h : MsgsIs w A n M) {i : Nat} (hi : i < n) :
    ∃ b o, A = some ⟨b, o, none⟩ ∧ loadAgg Tryz.prog w 34 (.pointer (some ⟨b, o + i * 12, none⟩)) = .ok (.value (.agg (M i).cells)) w := by
  obtain ⟨b, o, h1, h2⟩ := h.cell i hi
  exact ⟨b, o, h1, load_cellsAt Tryz.underlying34 rfl (by kernel_rfl) (Msg.size _) h2⟩
/-- The cells of messages, one behind the other. -/
def msgV : List Msg → List Value
  | [] => []
  | m :: r => m.cells.toList ++ msgV r
theorem msgV_len : ∀ S, (msgV S).length = S.length * 12
  | [] => rfl
  | m :: r => by rw [msgV, List.length_append, msgV_len r, Array.length_toList, Msg.size, List.length_cons]; omega
theorem msgV_app : ∀ S T, msgV (S ++ T) = msgV S ++ msgV T
  | [], T => rfl
  | m :: r, T => by rw [List.cons_append, msgV, msgV, msgV_app r T, List.append_assoc]
theorem msgV_one (m : Msg) : msgV [m] = m.cells.toList := by simp [msgV]
theorem msgV_get : ∀ (S : List Msg) (i j : Nat), i < S.length → j < 12 → (msgV S)[i * 12 + j]? = (S.getD i msg0).cells[j]?
  | m :: r, 0, j, _, hj => by
    rw [msgV, List.getElem?_append_left (by rw [Array.length_toList, Msg.size]; omega)]
    simp
  | m :: r, i + 1, j, hi, hj => by
    rw [msgV, List.getElem?_append_right (by rw [Array.length_toList, Msg.size]; omega), Array.length_toList, Msg.size, show (i + 1) * 12 + j - 12 = i * 12 + j by omega, msgV_get r i j (by simpa using hi) hj]
    simp
theorem msgV_one' : ∀ S, ∀ u ∈ msgV S, u.oneCell' = true
  | [], u, h => by simp [msgV] at h
  | m :: r, u, h => by
    rw [msgV, List.mem_append] at h
    rcases h with h | h
    · exact (Array.all_eq_true_iff_forall_mem.1 m.one) u (by simpa using h)
    · exact msgV_one' r u h
/-- An element of a row of the call's own. -/
theorem own_msg {w : World} {B : Nat} {v : Value} {S : List Msg} (h : w.ownsRow B 34 12 v S.length (msgV S)) {i : Nat} (hi : i < S.length) :
    ∃ g c, v = .slice (some ⟨g, 0, none⟩) S.length c ∧ B ≤ g ∧ g < w.heap.size ∧ loadAgg Tryz.prog w 34 (.pointer (some ⟨g, i * 12, none⟩)) = .ok (.value (.agg (S.getD i msg0).cells)) w := by
  obtain ⟨a, c, e, _, _, _, hb, hc⟩ := own_open h (by decide)
  have key : ∀ j, j < 12 → ∃ g, a = some ⟨g, 0, none⟩ ∧ w.cell? ⟨g, i * 12 + j, none⟩ = (S.getD i msg0).cells[j]? := fun j hj => by
    have hs : (S.getD i msg0).cells[j]? = some ((S.getD i msg0).cells[j]'(by rw [Msg.size]; exact hj)) := Array.getElem?_eq_getElem _
    obtain ⟨g, e1, e2⟩ := hc _ _ ((msgV_get S i j hi hj).trans hs)
    exact ⟨g, e1, e2.trans hs.symm⟩
  obtain ⟨g, hg, _⟩ := key 0 (by decide)
  subst hg
  refine ⟨g, c, e, (hb _ rfl).1, (hb _ rfl).2, load_cellsAt Tryz.underlying34 rfl (by kernel_rfl) (Msg.size _) fun j hj => ?_⟩
  obtain ⟨g', hg', h2⟩ := key j hj
  injection hg' with hg'
  injection hg' with hg'
  subst hg'
  exact h2
theorem own_slice {w : World} {B : Nat} {v : Value} {S : List Msg} (h : w.ownsRow B 34 12 v S.length (msgV S)) : ∃ a c, v = .slice a S.length c := by
  obtain ⟨a, c, e, _⟩ := own_open h (by decide)
  exact ⟨a, c, e⟩
end Go.Proofs.YtlocoieknabiaaaGreat
