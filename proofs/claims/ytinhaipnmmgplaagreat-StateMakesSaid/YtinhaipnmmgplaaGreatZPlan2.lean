/-
  Layer 13 (plan): the rules of plans, and whether a plan may be.
-/
import Derived.Test.YtinhaipnmmgplaaGreatZPlan1
namespace Go.Proofs.YtinhaipnmmgplaaGreat
set_option maxRecDepth 20000
open Go.RowKit
set_option linter.unusedSimpArgs false
attribute [local go_sem] rowCells rowAt_drewN get_ints getE_ints set_ints size_ints rowAt_alloc rowAt_drew setRow_alloc setRow_drewN setRow_drew setCell_alloc setCell_drewN splice_upd splice_put splice_all load_vec_cut load_vecs_cut load_rights_cut load_counter store_vec store_rights store_counter eql_vec neq_vec index_vec eql_rights neq_rights eql_counter index_vecs cut_ints sub_zero
attribute [local go_sem ↓] xload_vec xstore_vec xalloc_vec xeql_vec xneq_vec xindex_vec xbuild_vec0 xload_rights xstore_rights xalloc_rights xeql_rights xneq_rights xbuild_rights0 xload_vecs xindex_vecs xload_counter xstore_counter xalloc_counter xbuild_counter0 xeql_counter xbuild_counter3
attribute [local go_sem] rowAt_setRow rowAt_setCell load_vec_cut_later load_rights_later load_counter_later Later.cell Later.frozen build3_ints
attribute [local go_sem ↓] xload_field xstore_field xalloc_field xload_lock
attribute [local go_sem] load_field load_field_later store_field load_counter_cut load_lock_cut load_lock_later Fld.size Fld.get0 Fld.get1 Fld.get2 Fld.get586 Fld.getE0 Fld.getE1 Fld.getE2 Fld.getE586 Fld.cut_cnt Fld.cut_lock Fld.cut_all Fld.splice_all strT_size

theorem run_map_put {T et : TypeId} (hu : Tryz.prog.underlying T = some (.map 3 et)) (w : World) (es : Array MapEntry) (clk : Nat) (k : Int) (v : Value) (hf : ∀ W : World, (Instr.findKey 3 (.int .i64 k) es.toList).run Tryz.prog W = .ok none W) {r : Nat} (hr : r = w.heap.size) :
    (Instr.mapUpdate T (.map (some r)) (.int .i64 k) v).run Tryz.prog (w.alloc (.map es clk)) = .ok () (w.alloc (.map (es.push { key := .int .i64 k, val := v, born := clk }) (clk + 1))) := by
  subst hr
  have hb : (w.alloc (.map es clk)).heap[w.heap.size]? = some (.map es clk) := by show (w.heap.push _)[w.heap.size]? = _; simp
  have hc : ∀ W : World, (Instr.checkKey false 10000 3 (.int .i64 k)).run Tryz.prog W = .ok () W := fun W => by kernel_rfl
  unfold Instr.mapUpdate
  simp only [Sem.run_bind, run_underlying hu, Result.andThen_ok, obj_get hb, hc, hf, obj_set _ hb]
  rw [setSize]
theorem store_fn (w : World) (x : Value) (f : FuncId) (T : TypeId) : (store ⟨w.heap.size, 0, none⟩ (.func (.func f) #[] #[])).run Tryz.prog (w.alloc (.cells #[x] T)) = .ok () (w.alloc (.cells #[.func (.func f) #[] #[]] T)) := by
  have hr : rowAt (w.alloc (.cells #[x] T)) w.heap.size = some (#[x], T) := rowAt_alloc_at _ _ _ _ rfl
  have c0 : (w.alloc (.cells #[x] T)).cell? ⟨w.heap.size, 0, none⟩ = some x := by rw [cell_of_rowAt hr]; rfl
  have f0 := frozen_of_rowAt hr 0
  rw [run_store _ _ _ _ _ rfl]
  simp [c0, f0, setCell_alloc]
def rulE (p : Nat) : Array MapEntry := #[{ key := .int .i64 1, val := .func (.func 85) #[] #[.pointer (some ⟨p, 0, none⟩)], born := 0 }, { key := .int .i64 2, val := .func (.func 85) #[] #[.pointer (some ⟨p, 0, none⟩)], born := 1 }, { key := .int .i64 3, val := .func (.func 86) #[] #[.pointer (some ⟨p, 0, none⟩)], born := 2 }, { key := .int .i64 4, val := .func (.func 87) #[] #[.pointer (some ⟨p, 0, none⟩)], born := 3 }, { key := .int .i64 5, val := .func (.func 88) #[] #[.pointer (some ⟨p + 1, 0, none⟩)], born := 4 }, { key := .int .i64 6, val := .func (.func 89) #[] #[.pointer (some ⟨p + 1, 0, none⟩)], born := 5 }]
set_option maxHeartbeats 1000000 in
theorem rules_any (w : World) : Calls Tryz.prog 64 #[] w fun e w' => e = .returned (.map (some (w.heap.size + 2))) ∧
    w' = ((w.alloc (.cells noneR 96)).alloc (.cells otherR 96)).alloc (.map (rulE w.heap.size) 6) := by
  have hmm := @run_makeMap Tryz.prog
  have hmf : ∀ (fn : Fn) (first cap : Array Value) (w : World), (Instr.makeFunc fn first cap).run Tryz.prog w = .ok (.func fn first cap) w := fun _ _ _ _ => rfl
  obtain ⟨W, hW⟩ : ∃ W, ((w.alloc (.cells noneR 96)).alloc (.cells otherR 96)) = W := ⟨_, rfl⟩
  have hs : W.heap.size = w.heap.size + 1 + 1 := by rw [← hW]; simp
  rw [hW]
  have h1 : (Instr.mapUpdate 117 (.map (some (w.heap.size + 1 + 1))) (.int .i64 1) (.func (.func 85) #[] #[.pointer (some ⟨w.heap.size, 0, none⟩)])).run Tryz.prog (W.alloc (.map (#[]) 0)) = .ok () (W.alloc (.map (#[{ key := .int .i64 1, val := .func (.func 85) #[] #[.pointer (some ⟨w.heap.size, 0, none⟩)], born := 0 }]) 1)) := run_map_put Tryz.underlying117 W _ 0 1 _ (fun W => by kernel_rfl) hs.symm
  have h2 : (Instr.mapUpdate 117 (.map (some (w.heap.size + 1 + 1))) (.int .i64 2) (.func (.func 85) #[] #[.pointer (some ⟨w.heap.size, 0, none⟩)])).run Tryz.prog (W.alloc (.map (#[{ key := .int .i64 1, val := .func (.func 85) #[] #[.pointer (some ⟨w.heap.size, 0, none⟩)], born := 0 }]) 1)) = .ok () (W.alloc (.map (#[{ key := .int .i64 1, val := .func (.func 85) #[] #[.pointer (some ⟨w.heap.size, 0, none⟩)], born := 0 }, { key := .int .i64 2, val := .func (.func 85) #[] #[.pointer (some ⟨w.heap.size, 0, none⟩)], born := 1 }]) 2)) := run_map_put Tryz.underlying117 W _ 1 2 _ (fun W => by kernel_rfl) hs.symm
  have h3 : (Instr.mapUpdate 117 (.map (some (w.heap.size + 1 + 1))) (.int .i64 3) (.func (.func 86) #[] #[.pointer (some ⟨w.heap.size, 0, none⟩)])).run Tryz.prog (W.alloc (.map (#[{ key := .int .i64 1, val := .func (.func 85) #[] #[.pointer (some ⟨w.heap.size, 0, none⟩)], born := 0 }, { key := .int .i64 2, val := .func (.func 85) #[] #[.pointer (some ⟨w.heap.size, 0, none⟩)], born := 1 }]) 2)) = .ok () (W.alloc (.map (#[{ key := .int .i64 1, val := .func (.func 85) #[] #[.pointer (some ⟨w.heap.size, 0, none⟩)], born := 0 }, { key := .int .i64 2, val := .func (.func 85) #[] #[.pointer (some ⟨w.heap.size, 0, none⟩)], born := 1 }, { key := .int .i64 3, val := .func (.func 86) #[] #[.pointer (some ⟨w.heap.size, 0, none⟩)], born := 2 }]) 3)) := run_map_put Tryz.underlying117 W _ 2 3 _ (fun W => by kernel_rfl) hs.symm
  have h4 : (Instr.mapUpdate 117 (.map (some (w.heap.size + 1 + 1))) (.int .i64 4) (.func (.func 87) #[] #[.pointer (some ⟨w.heap.size, 0, none⟩)])).run Tryz.prog (W.alloc (.map (#[{ key := .int .i64 1, val := .func (.func 85) #[] #[.pointer (some ⟨w.heap.size, 0, none⟩)], born := 0 }, { key := .int .i64 2, val := .func (.func 85) #[] #[.pointer (some ⟨w.heap.size, 0, none⟩)], born := 1 }, { key := .int .i64 3, val := .func (.func 86) #[] #[.pointer (some ⟨w.heap.size, 0, none⟩)], born := 2 }]) 3)) = .ok () (W.alloc (.map (#[{ key := .int .i64 1, val := .func (.func 85) #[] #[.pointer (some ⟨w.heap.size, 0, none⟩)], born := 0 }, { key := .int .i64 2, val := .func (.func 85) #[] #[.pointer (some ⟨w.heap.size, 0, none⟩)], born := 1 }, { key := .int .i64 3, val := .func (.func 86) #[] #[.pointer (some ⟨w.heap.size, 0, none⟩)], born := 2 }, { key := .int .i64 4, val := .func (.func 87) #[] #[.pointer (some ⟨w.heap.size, 0, none⟩)], born := 3 }]) 4)) := run_map_put Tryz.underlying117 W _ 3 4 _ (fun W => by kernel_rfl) hs.symm
  have h5 : (Instr.mapUpdate 117 (.map (some (w.heap.size + 1 + 1))) (.int .i64 5) (.func (.func 88) #[] #[.pointer (some ⟨w.heap.size + 1, 0, none⟩)])).run Tryz.prog (W.alloc (.map (#[{ key := .int .i64 1, val := .func (.func 85) #[] #[.pointer (some ⟨w.heap.size, 0, none⟩)], born := 0 }, { key := .int .i64 2, val := .func (.func 85) #[] #[.pointer (some ⟨w.heap.size, 0, none⟩)], born := 1 }, { key := .int .i64 3, val := .func (.func 86) #[] #[.pointer (some ⟨w.heap.size, 0, none⟩)], born := 2 }, { key := .int .i64 4, val := .func (.func 87) #[] #[.pointer (some ⟨w.heap.size, 0, none⟩)], born := 3 }]) 4)) = .ok () (W.alloc (.map (#[{ key := .int .i64 1, val := .func (.func 85) #[] #[.pointer (some ⟨w.heap.size, 0, none⟩)], born := 0 }, { key := .int .i64 2, val := .func (.func 85) #[] #[.pointer (some ⟨w.heap.size, 0, none⟩)], born := 1 }, { key := .int .i64 3, val := .func (.func 86) #[] #[.pointer (some ⟨w.heap.size, 0, none⟩)], born := 2 }, { key := .int .i64 4, val := .func (.func 87) #[] #[.pointer (some ⟨w.heap.size, 0, none⟩)], born := 3 }, { key := .int .i64 5, val := .func (.func 88) #[] #[.pointer (some ⟨w.heap.size + 1, 0, none⟩)], born := 4 }]) 5)) := run_map_put Tryz.underlying117 W _ 4 5 _ (fun W => by kernel_rfl) hs.symm
  have h6 : (Instr.mapUpdate 117 (.map (some (w.heap.size + 1 + 1))) (.int .i64 6) (.func (.func 89) #[] #[.pointer (some ⟨w.heap.size + 1, 0, none⟩)])).run Tryz.prog (W.alloc (.map (#[{ key := .int .i64 1, val := .func (.func 85) #[] #[.pointer (some ⟨w.heap.size, 0, none⟩)], born := 0 }, { key := .int .i64 2, val := .func (.func 85) #[] #[.pointer (some ⟨w.heap.size, 0, none⟩)], born := 1 }, { key := .int .i64 3, val := .func (.func 86) #[] #[.pointer (some ⟨w.heap.size, 0, none⟩)], born := 2 }, { key := .int .i64 4, val := .func (.func 87) #[] #[.pointer (some ⟨w.heap.size, 0, none⟩)], born := 3 }, { key := .int .i64 5, val := .func (.func 88) #[] #[.pointer (some ⟨w.heap.size + 1, 0, none⟩)], born := 4 }]) 5)) = .ok () (W.alloc (.map (#[{ key := .int .i64 1, val := .func (.func 85) #[] #[.pointer (some ⟨w.heap.size, 0, none⟩)], born := 0 }, { key := .int .i64 2, val := .func (.func 85) #[] #[.pointer (some ⟨w.heap.size, 0, none⟩)], born := 1 }, { key := .int .i64 3, val := .func (.func 86) #[] #[.pointer (some ⟨w.heap.size, 0, none⟩)], born := 2 }, { key := .int .i64 4, val := .func (.func 87) #[] #[.pointer (some ⟨w.heap.size, 0, none⟩)], born := 3 }, { key := .int .i64 5, val := .func (.func 88) #[] #[.pointer (some ⟨w.heap.size + 1, 0, none⟩)], born := 4 }, { key := .int .i64 6, val := .func (.func 89) #[] #[.pointer (some ⟨w.heap.size + 1, 0, none⟩)], born := 5 }]) 6)) := run_map_put Tryz.underlying117 W _ 5 6 _ (fun W => by kernel_rfl) hs.symm
  unfold noneR otherR at hW
  have hst1 := store_fn w .nilFunc 83 96
  have hst2 : (store ⟨w.heap.size + 1, 0, none⟩ (.func (.func 84) #[] #[])).run Tryz.prog ((w.alloc (.cells #[.func (.func 83) #[] #[]] 96)).alloc (.cells #[.nilFunc] 96)) = .ok () W := by
    have := store_fn (w.alloc (.cells #[.func (.func 83) #[] #[]] 96)) .nilFunc 84 96
    rw [World.size_alloc] at this
    rw [this, ← hW]
  go_enter Tryz.func64, Tryz.ntmps64
  go_wp2_with fail
  go_ret
  exact ⟨rfl, rfl⟩
def ruleB (k : Int) (n o : List UInt8) (u v : Int) : Bool :=
  if k ≤ 2 then noneB o && decide (0 ≤ u) && decide (0 ≤ v) && decide (0 < u + v)
  else if k = 3 then noneB o && (u == 0) && (v == 0)
  else if k = 4 then noneB o && decide (u ≤ v)
  else if k = 5 then (nameB o && neB o n) && decide (1 ≤ u) && (v == 0)
  else (nameB o && neB o n) && (u == 0) && (v == 0)
def planB (k : Int) (n o : List UInt8) (u v : Int) : Bool := decide (1 ≤ k) && decide (k ≤ 6) && nameB n && isB u && isB v && ruleB k n o u v
theorem look_hit {w : World} {r p : Nat} (hb : w.heap[r]? = some (.map (rulE p) 6)) {k : Int} {i : Nat} {x : Value} (hf : ∀ W : World, (Instr.findKey 3 (.int .i64 k) (rulE p).toList).run Tryz.prog W = .ok (some (i, x)) W) :
    (Instr.lookup 117 (.map (some r)) (.int .i64 k) true).run Tryz.prog w = .ok (.tuple #[x, .bool true]) w := by
  have hu : Tryz.prog.underlying 117 = some (.map 3 _) := Tryz.underlying117
  have hc : ∀ W : World, (Instr.checkKey (Array.isEmpty (rulE p)) 10000 3 (.int .i64 k)).run Tryz.prog W = .ok () W := fun W => by kernel_rfl
  unfold Instr.lookup
  simp only [Sem.run_bind, run_underlying hu, Result.andThen_ok, obj_get hb, hc, hf, Sem.run_pure]
  rfl
theorem look_miss {w : World} {r p : Nat} (hb : w.heap[r]? = some (.map (rulE p) 6)) {k : Int} (hk : ¬ (1 ≤ k ∧ k ≤ 6)) :
    (Instr.lookup 117 (.map (some r)) (.int .i64 k) true).run Tryz.prog w = .ok (.tuple #[.nilFunc, .bool false]) w := by
  have hu : Tryz.prog.underlying 117 = some (.map 3 96) := Tryz.underlying117
  have hc : ∀ W : World, (Instr.checkKey (Array.isEmpty (rulE p)) 10000 3 (.int .i64 k)).run Tryz.prog W = .ok () W := fun W => by kernel_rfl
  have hf : ∀ W : World, (Instr.findKey 3 (.int .i64 k) (rulE p).toList).run Tryz.prog W = .ok none W := fun W => by
    have n1 : (k == 1) = false := beq_eq_false_iff_ne.2 (by omega)
    have n2 : (k == 2) = false := beq_eq_false_iff_ne.2 (by omega)
    have n3 : (k == 3) = false := beq_eq_false_iff_ne.2 (by omega)
    have n4 : (k == 4) = false := beq_eq_false_iff_ne.2 (by omega)
    have n5 : (k == 5) = false := beq_eq_false_iff_ne.2 (by omega)
    have n6 : (k == 6) = false := beq_eq_false_iff_ne.2 (by omega)
    unfold Instr.findKey rulE
    simp only [Sem.run_bind, run_underlying Tryz.underlying3, Result.andThen_ok, Instr.findNow, Instr.sameNow, if_true, n1, n2, n3, n4, n5, n6]
    rfl
  have hz : ∀ W : World, (zeroValue 96).run Tryz.prog W = .ok .nilFunc W := fun W => by kernel_rfl
  unfold Instr.lookup
  simp only [Sem.run_bind, run_underlying hu, Result.andThen_ok, obj_get hb, hc, hf, Sem.run_pure, hz]
  rfl
theorem rules_look {w : World} {r p : Nat} (hb : w.heap[r]? = some (.map (rulE p) 6)) {k : Int} (hk : 1 ≤ k ∧ k ≤ 6) :
    ∃ f p', (Instr.lookup 117 (.map (some r)) (.int .i64 k) true).run Tryz.prog w = .ok (.tuple #[.func (.func f) #[] #[.pointer (some ⟨p', 0, none⟩)], .bool true]) w ∧ (∀ (args : Array Value) (W : World), (callFunc f args).run Tryz.prog W = .ok (.enter f args) W) ∧
      ∀ (n o : List UInt8) (u v : Int) (W : World), rowAt W p = some (noneR, 96) → rowAt W (p + 1) = some (otherR, 96) → o.length ≤ 9223372036854775807 → IntKind.i64.wrap (u + v) = u + v →
        Calls Tryz.prog f #[planA k n o u v, .pointer (some ⟨p', 0, none⟩)] W fun e w' => e = .returned (.bool (ruleB k n o u v)) ∧ Below W.heap.size W w' := by
  have hv : k = 1 ∨ k = 2 ∨ k = 3 ∨ k = 4 ∨ k = 5 ∨ k = 6 := by omega
  rcases hv with rfl | rfl | rfl | rfl | rfl | rfl
  · exact ⟨_, _, look_hit (i := 0) hb (fun W => by kernel_rfl), fun args W => by kernel_rfl, fun n o u v W h1 h2 h3 h4 => r3_any 1 n o u v h3 p h4 W h1⟩
  · exact ⟨_, _, look_hit (i := 1) hb (fun W => by kernel_rfl), fun args W => by kernel_rfl, fun n o u v W h1 h2 h3 h4 => r3_any 2 n o u v h3 p h4 W h1⟩
  · exact ⟨_, _, look_hit (i := 2) hb (fun W => by kernel_rfl), fun args W => by kernel_rfl, fun n o u v W h1 h2 h3 h4 => r4_any 3 n o u v h3 p h4 W h1⟩
  · exact ⟨_, _, look_hit (i := 3) hb (fun W => by kernel_rfl), fun args W => by kernel_rfl, fun n o u v W h1 h2 h3 h4 => r5_any 4 n o u v h3 p h4 W h1⟩
  · exact ⟨_, _, look_hit (i := 4) hb (fun W => by kernel_rfl), fun args W => by kernel_rfl, fun n o u v W h1 h2 h3 h4 => r6_any 5 n o u v h3 (p + 1) h4 W h2⟩
  · exact ⟨_, _, look_hit (i := 5) hb (fun W => by kernel_rfl), fun args W => by kernel_rfl, fun n o u v W h1 h2 h3 h4 => r7_any 6 n o u v h3 (p + 1) h4 W h2⟩
theorem rules_heap {w w' : World} (h : w' = ((w.alloc (.cells noneR 96)).alloc (.cells otherR 96)).alloc (.map (rulE w.heap.size) 6)) : w'.heap[w.heap.size + 2]? = some (.map (rulE w.heap.size) 6) := by
  have key : ∀ (W : World) (o : Obj) (i : Nat), i = W.heap.size → (W.alloc o).heap[i]? = some o := fun W o i hi => by subst hi; show (W.heap.push o)[W.heap.size]? = _; simp
  rw [h]
  exact key _ _ _ (by simp)
theorem rules_row1 {w w' : World} (h : w' = ((w.alloc (.cells noneR 96)).alloc (.cells otherR 96)).alloc (.map (rulE w.heap.size) 6)) : rowAt w' w.heap.size = some (noneR, 96) := by
  rw [h]; exact rowPast (rowPast (rowAt_alloc_at _ _ _ _ rfl))
theorem rules_row2 {w w' : World} (h : w' = ((w.alloc (.cells noneR 96)).alloc (.cells otherR 96)).alloc (.map (rulE w.heap.size) 6)) : rowAt w' (w.heap.size + 1) = some (otherR, 96) := by
  rw [h]; exact rowPast (rowAt_alloc_at _ _ _ _ (by simp))
theorem rule_at {f : FuncId} {k u v : Int} {n o : List UInt8} {p p' : Nat} {w : World} {r : Bool}
    (h : Hid (∀ W : World, rowAt W p = some (noneR, 96) → rowAt W (p + 1) = some (otherR, 96) → o.length ≤ 9223372036854775807 → IntKind.i64.wrap (u + v) = u + v →
        Calls Tryz.prog f #[planA k n o u v, .pointer (some ⟨p', 0, none⟩)] W fun e w' => e = .returned (.bool (ruleB k n o u v)) ∧ Below W.heap.size W w'))
    (h1 : Hid (rowAt w p = some (noneR, 96))) (h2 : Hid (rowAt w (p + 1) = some (otherR, 96))) (ho : o.length ≤ 9223372036854775807) (hw : IntKind.i64.wrap (u + v) = u + v) (e : ruleB k n o u v = r) (x : Later w.heap.size w) :
    Calls Tryz.prog f #[planA k n o u v, .pointer (some ⟨p', 0, none⟩)] x.wd fun e w' => e = .returned (.bool r) ∧ Below x.wd.heap.size x.wd w' := by
  rw [← e]
  exact h.out x.wd (rowKeep x.below h1.out) (rowKeep x.below h2.out) ho hw
set_option maxHeartbeats 4000000 in
theorem planRight_any (k : Int) (n o : List UInt8) (u v : Int) (hn : n.length ≤ 9223372036854775807) (ho : o.length ≤ 9223372036854775807) (w : World) : Calls Tryz.prog 44 #[planA k n o u v] w fun e w' => e = .returned (.bool (planB k n o u v)) ∧ Below w.heap.size w w' := by
  have hB0 : Below w.heap.size w (w.alloc (.cells #[.int .i64 k, .string (strT n), .string (strT o), .int .i64 u, .int .i64 v] 25)) := (Below.refl _ _).alloc (Nat.le_refl _) _
  have HR : Hid (rowAt (w.alloc (.cells #[.int .i64 k, .string (strT n), .string (strT o), .int .i64 u, .int .i64 v] 25)).drew w.heap.size = some (#[.int .i64 k, .string (strT n), .string (strT o), .int .i64 u, .int .i64 v], 25)) := Lib.hid (rowAt_alloc_at _ _ _ _ rfl)
  have HB : Hid (Hid (Below w.heap.size w (w.alloc (.cells #[.int .i64 k, .string (strT n), .string (strT o), .int .i64 u, .int .i64 v] 25)).drew)) := Lib.hid (Lib.hid hB0.drew)
  clear hB0
  by_cases hk : 1 ≤ k ∧ k ≤ 6
  · cases eN : nameB n with
    | false =>
      rw [show planB k n o u v = false by simp [planB, eN]]
      unfold planA
      go_enter Tryz.func44, Tryz.ntmps44
      go_upto_region 1 with fail
      refine wp_region_held_drew (S := fun w' : World => rowAt w' w.heap.size = some (#[.int .i64 k, .string (strT n), .string (strT o), .int .i64 u, .int .i64 v], 25) ∧ Hid (Below w.heap.size w w')) (by kernel_rfl) ⟨HR.out, HB.out⟩ (fun hS => ?_)
      clear HR HB
      generalize HW7 : World.drew _ = W7 at *
      clear HW7
      refine held_take (i := 1) (by simp only [List.getElem?_toArray, List.getElem?_cons_succ, List.getElem?_cons_zero]; rfl) (by decide +kernel) (by decide +kernel) (by decide +kernel) (by exact fun _ _ _ _ h => h) hS (by rfl) ?_
      apply Exists.intro
      refine ⟨fun w' hSw => ?_, ?_⟩
      · go_simp
        with_reducible rfl
      (try simp only [act_put, act_put_none, List.set_cons_zero, List.set_cons_succ])
      refine held_take (i := 2) (by simp only [List.getElem?_toArray, List.getElem?_cons_succ, List.getElem?_cons_zero]; rfl) (by decide +kernel) (by decide +kernel) (by decide +kernel) (by exact fun _ _ _ _ h => h) hS (by rfl) ?_
      apply Exists.intro
      refine ⟨fun w' hSw => ?_, ?_⟩
      · obtain ⟨q_row, _⟩ := hSw
        have q1 : w'.cell? ⟨w.heap.size, 0, none⟩ = some (.int .i64 k) := by rw [cell_of_rowAt q_row]; rfl
        go_simp
        with_reducible rfl
      (try simp only [act_put, act_put_none, List.set_cons_zero, List.set_cons_succ])
      refine wpAnyH_ready (rs := [0]) (by decide +kernel) (by simp) ?_
      refine AllReadyH.cons (i := 0) (by simp only [List.getElem?_toArray, List.getElem?_cons_succ, List.getElem?_cons_zero]; rfl) (fun K hK => ?_) ?_
      · go_simp
        go_at_call 64
        refine (rules_any _).mono ?_
        rintro e w3 ⟨rfl, hw3⟩
        have HX : Below _ _ w3 := hw3 ▸ (((Below.refl _ _).alloc (Nat.le_refl _) _).alloc (by simp) _).alloc (by simp; omega) _
        have HM := Lib.hid (rules_heap hw3)
        have HM1 := Lib.hid (rules_row1 hw3)
        have HM2 := Lib.hid (rules_row2 hw3)
        clear hw3
        go_simp
        refine hK.out _ _ ⟨rowKeep HX hS.1, Lib.hid (bthen (Hid.out hS.2) HX)⟩ (fun hS2 => ?_)
        clear hS hK K
        have hS := hS2
        clear hS2
        clear HX
        (try simp only [act_put, act_put_none, List.set_cons_zero, List.set_cons_succ])
        have hS := And.intro (HM2) hS
        refine held_more (S2 := fun w' : World => Hid (rowAt w' (W7.heap.size + 1) = some (otherR, 96)) ∧ rowAt w' w.heap.size = some (#[.int .i64 k, .string (strT n), .string (strT o), .int .i64 u, .int .i64 v], 25) ∧ Hid (Below w.heap.size w w')) (fun _ h => h.2) ?_
        have hS := And.intro (HM1) hS
        refine held_more (S2 := fun w' : World => Hid (rowAt w' W7.heap.size = some (noneR, 96)) ∧ Hid (rowAt w' (W7.heap.size + 1) = some (otherR, 96)) ∧ rowAt w' w.heap.size = some (#[.int .i64 k, .string (strT n), .string (strT o), .int .i64 u, .int .i64 v], 25) ∧ Hid (Below w.heap.size w w')) (fun _ h => h.2) ?_
        have hS := And.intro (HM) hS
        refine held_more (S2 := fun w' : World => Hid (w'.heap[W7.heap.size + 2]? = some (Obj.map (rulE W7.heap.size) 6)) ∧ Hid (rowAt w' W7.heap.size = some (noneR, 96)) ∧ Hid (rowAt w' (W7.heap.size + 1) = some (otherR, 96)) ∧ rowAt w' w.heap.size = some (#[.int .i64 k, .string (strT n), .string (strT o), .int .i64 u, .int .i64 v], 25) ∧ Hid (Below w.heap.size w w')) (fun _ h => h.2) ?_
        refine wpAnyH_ready (rs := [3]) (by decide +kernel) (by simp) ?_
        refine AllReadyH.cons (i := 3) (by simp only [List.getElem?_toArray, List.getElem?_cons_succ, List.getElem?_cons_zero]; rfl) (fun K hK => ?_) ?_
        · obtain ⟨f, p', hlk, hcf, hcl⟩ := rules_look (Hid.out (hS.1)) hk
          have HCL := Lib.hid (hcl n o u v)
          clear hcl
          go_simp
          refine hK.out _ _ hS (fun hS2 => ?_)
          clear hK K hS2 hlk
          (try simp only [act_put, act_put_none, List.set_cons_zero, List.set_cons_succ])
          refine held_take (i := 4) (by simp only [List.getElem?_toArray, List.getElem?_cons_succ, List.getElem?_cons_zero]; rfl) (by decide +kernel) (by decide +kernel) (by decide +kernel) (by exact fun _ _ _ _ h => h) hS (by rfl) ?_
          apply Exists.intro
          refine ⟨fun w' hSw => ?_, ?_⟩
          · go_simp
            with_reducible rfl
          (try simp only [act_put, act_put_none, List.set_cons_zero, List.set_cons_succ])
          refine held_take (i := 5) (by simp only [List.getElem?_toArray, List.getElem?_cons_succ, List.getElem?_cons_zero]; rfl) (by decide +kernel) (by decide +kernel) (by decide +kernel) (by exact fun _ _ _ _ h => h) hS (by rfl) ?_
          apply Exists.intro
          refine ⟨fun w' hSw => ?_, ?_⟩
          · go_simp
            with_reducible rfl
          (try simp only [act_put, act_put_none, List.set_cons_zero, List.set_cons_succ])
          refine held_take (i := 6) (by simp only [List.getElem?_toArray, List.getElem?_cons_succ, List.getElem?_cons_zero]; rfl) (by decide +kernel) (by decide +kernel) (by decide +kernel) (by exact fun _ _ _ _ h => h) hS (by rfl) ?_
          apply Exists.intro
          refine ⟨fun w' hSw => ?_, ?_⟩
          · go_simp
            with_reducible rfl
          (try simp only [act_put, act_put_none, List.set_cons_zero, List.set_cons_succ])
          refine held_take (i := 7) (by simp only [List.getElem?_toArray, List.getElem?_cons_succ, List.getElem?_cons_zero]; rfl) (by decide +kernel) (by decide +kernel) (by decide +kernel) (by exact fun _ _ _ _ h => h) hS (by rfl) ?_
          apply Exists.intro
          refine ⟨fun w' hSw => ?_, ?_⟩
          · go_simp
            with_reducible rfl
          (try simp only [act_put, act_put_none, List.set_cons_zero, List.set_cons_succ])
          refine held_take (i := 8) (by simp only [List.getElem?_toArray, List.getElem?_cons_succ, List.getElem?_cons_zero]; rfl) (by decide +kernel) (by decide +kernel) (by decide +kernel) (by exact fun _ _ _ _ h => h) hS (by rfl) ?_
          apply Exists.intro
          refine ⟨fun w' hSw => ?_, ?_⟩
          · go_simp
            with_reducible rfl
          (try simp only [act_put, act_put_none, List.set_cons_zero, List.set_cons_succ])
          refine wpAnyH_done (by decide +kernel) ?_ _
          have hrow := hS.2.2.2.1
          have HF := hS.2.2.2.2
          have HR1 := hS.2.1
          have HR2 := hS.2.2.1
          clear hS
          have c1 : w3.cell? ⟨w.heap.size, 1, none⟩ = some (.string (strT n)) := by rw [cell_of_rowAt hrow]; rfl
          have c3 : w3.cell? ⟨w.heap.size, 3, none⟩ = some (.int .i64 u) := by rw [cell_of_rowAt hrow]; rfl
          have c4 : w3.cell? ⟨w.heap.size, 4, none⟩ = some (.int .i64 v) := by rw [cell_of_rowAt hrow]; rfl
          have c0 : w3.cell? ⟨w.heap.size, 0, none⟩ = some (.int .i64 k) := by rw [cell_of_rowAt hrow]; rfl
          have c2 : w3.cell? ⟨w.heap.size, 2, none⟩ = some (.string (strT o)) := by rw [cell_of_rowAt hrow]; rfl
          have nl := rowAt_lt hrow
          clear hrow
          go_upto_region 2 with fail
          refine region_seq ?_
          repeat (go_big_quiet_step ((first | (go_at_call 54; exact quiet_call (by simp) (name_at eN hn _)) | (go_at_call 43; first | exact quiet_call (by simp) (is_at eU _) | exact quiet_call (by simp) (is_at eV _)))))
          refine wpQuiet_nil ?_
          intro w5 hb5
          have HF5 := Lib.hid (bthen HF.out hb5)
          clear hb5
          go_wp2
          go_ret
          exact ⟨by first | rfl | simp [*], HF5.out⟩
        exact AllReadyH.nil
      exact AllReadyH.nil
    | true =>
      cases eU : isB u with
      | false =>
        rw [show planB k n o u v = false by simp [planB, eU]]
        unfold planA
        go_enter Tryz.func44, Tryz.ntmps44
        go_upto_region 1 with fail
        refine wp_region_held_drew (S := fun w' : World => rowAt w' w.heap.size = some (#[.int .i64 k, .string (strT n), .string (strT o), .int .i64 u, .int .i64 v], 25) ∧ Hid (Below w.heap.size w w')) (by kernel_rfl) ⟨HR.out, HB.out⟩ (fun hS => ?_)
        clear HR HB
        generalize HW7 : World.drew _ = W7 at *
        clear HW7
        refine held_take (i := 1) (by simp only [List.getElem?_toArray, List.getElem?_cons_succ, List.getElem?_cons_zero]; rfl) (by decide +kernel) (by decide +kernel) (by decide +kernel) (by exact fun _ _ _ _ h => h) hS (by rfl) ?_
        apply Exists.intro
        refine ⟨fun w' hSw => ?_, ?_⟩
        · go_simp
          with_reducible rfl
        (try simp only [act_put, act_put_none, List.set_cons_zero, List.set_cons_succ])
        refine held_take (i := 2) (by simp only [List.getElem?_toArray, List.getElem?_cons_succ, List.getElem?_cons_zero]; rfl) (by decide +kernel) (by decide +kernel) (by decide +kernel) (by exact fun _ _ _ _ h => h) hS (by rfl) ?_
        apply Exists.intro
        refine ⟨fun w' hSw => ?_, ?_⟩
        · obtain ⟨q_row, _⟩ := hSw
          have q1 : w'.cell? ⟨w.heap.size, 0, none⟩ = some (.int .i64 k) := by rw [cell_of_rowAt q_row]; rfl
          go_simp
          with_reducible rfl
        (try simp only [act_put, act_put_none, List.set_cons_zero, List.set_cons_succ])
        refine wpAnyH_ready (rs := [0]) (by decide +kernel) (by simp) ?_
        refine AllReadyH.cons (i := 0) (by simp only [List.getElem?_toArray, List.getElem?_cons_succ, List.getElem?_cons_zero]; rfl) (fun K hK => ?_) ?_
        · go_simp
          go_at_call 64
          refine (rules_any _).mono ?_
          rintro e w3 ⟨rfl, hw3⟩
          have HX : Below _ _ w3 := hw3 ▸ (((Below.refl _ _).alloc (Nat.le_refl _) _).alloc (by simp) _).alloc (by simp; omega) _
          have HM := Lib.hid (rules_heap hw3)
          have HM1 := Lib.hid (rules_row1 hw3)
          have HM2 := Lib.hid (rules_row2 hw3)
          clear hw3
          go_simp
          refine hK.out _ _ ⟨rowKeep HX hS.1, Lib.hid (bthen (Hid.out hS.2) HX)⟩ (fun hS2 => ?_)
          clear hS hK K
          have hS := hS2
          clear hS2
          clear HX
          (try simp only [act_put, act_put_none, List.set_cons_zero, List.set_cons_succ])
          have hS := And.intro (HM2) hS
          refine held_more (S2 := fun w' : World => Hid (rowAt w' (W7.heap.size + 1) = some (otherR, 96)) ∧ rowAt w' w.heap.size = some (#[.int .i64 k, .string (strT n), .string (strT o), .int .i64 u, .int .i64 v], 25) ∧ Hid (Below w.heap.size w w')) (fun _ h => h.2) ?_
          have hS := And.intro (HM1) hS
          refine held_more (S2 := fun w' : World => Hid (rowAt w' W7.heap.size = some (noneR, 96)) ∧ Hid (rowAt w' (W7.heap.size + 1) = some (otherR, 96)) ∧ rowAt w' w.heap.size = some (#[.int .i64 k, .string (strT n), .string (strT o), .int .i64 u, .int .i64 v], 25) ∧ Hid (Below w.heap.size w w')) (fun _ h => h.2) ?_
          have hS := And.intro (HM) hS
          refine held_more (S2 := fun w' : World => Hid (w'.heap[W7.heap.size + 2]? = some (Obj.map (rulE W7.heap.size) 6)) ∧ Hid (rowAt w' W7.heap.size = some (noneR, 96)) ∧ Hid (rowAt w' (W7.heap.size + 1) = some (otherR, 96)) ∧ rowAt w' w.heap.size = some (#[.int .i64 k, .string (strT n), .string (strT o), .int .i64 u, .int .i64 v], 25) ∧ Hid (Below w.heap.size w w')) (fun _ h => h.2) ?_
          refine wpAnyH_ready (rs := [3]) (by decide +kernel) (by simp) ?_
          refine AllReadyH.cons (i := 3) (by simp only [List.getElem?_toArray, List.getElem?_cons_succ, List.getElem?_cons_zero]; rfl) (fun K hK => ?_) ?_
          · obtain ⟨f, p', hlk, hcf, hcl⟩ := rules_look (Hid.out (hS.1)) hk
            have HCL := Lib.hid (hcl n o u v)
            clear hcl
            go_simp
            refine hK.out _ _ hS (fun hS2 => ?_)
            clear hK K hS2 hlk
            (try simp only [act_put, act_put_none, List.set_cons_zero, List.set_cons_succ])
            refine held_take (i := 4) (by simp only [List.getElem?_toArray, List.getElem?_cons_succ, List.getElem?_cons_zero]; rfl) (by decide +kernel) (by decide +kernel) (by decide +kernel) (by exact fun _ _ _ _ h => h) hS (by rfl) ?_
            apply Exists.intro
            refine ⟨fun w' hSw => ?_, ?_⟩
            · go_simp
              with_reducible rfl
            (try simp only [act_put, act_put_none, List.set_cons_zero, List.set_cons_succ])
            refine held_take (i := 5) (by simp only [List.getElem?_toArray, List.getElem?_cons_succ, List.getElem?_cons_zero]; rfl) (by decide +kernel) (by decide +kernel) (by decide +kernel) (by exact fun _ _ _ _ h => h) hS (by rfl) ?_
            apply Exists.intro
            refine ⟨fun w' hSw => ?_, ?_⟩
            · go_simp
              with_reducible rfl
            (try simp only [act_put, act_put_none, List.set_cons_zero, List.set_cons_succ])
            refine held_take (i := 6) (by simp only [List.getElem?_toArray, List.getElem?_cons_succ, List.getElem?_cons_zero]; rfl) (by decide +kernel) (by decide +kernel) (by decide +kernel) (by exact fun _ _ _ _ h => h) hS (by rfl) ?_
            apply Exists.intro
            refine ⟨fun w' hSw => ?_, ?_⟩
            · go_simp
              with_reducible rfl
            (try simp only [act_put, act_put_none, List.set_cons_zero, List.set_cons_succ])
            refine held_take (i := 7) (by simp only [List.getElem?_toArray, List.getElem?_cons_succ, List.getElem?_cons_zero]; rfl) (by decide +kernel) (by decide +kernel) (by decide +kernel) (by exact fun _ _ _ _ h => h) hS (by rfl) ?_
            apply Exists.intro
            refine ⟨fun w' hSw => ?_, ?_⟩
            · go_simp
              with_reducible rfl
            (try simp only [act_put, act_put_none, List.set_cons_zero, List.set_cons_succ])
            refine held_take (i := 8) (by simp only [List.getElem?_toArray, List.getElem?_cons_succ, List.getElem?_cons_zero]; rfl) (by decide +kernel) (by decide +kernel) (by decide +kernel) (by exact fun _ _ _ _ h => h) hS (by rfl) ?_
            apply Exists.intro
            refine ⟨fun w' hSw => ?_, ?_⟩
            · go_simp
              with_reducible rfl
            (try simp only [act_put, act_put_none, List.set_cons_zero, List.set_cons_succ])
            refine wpAnyH_done (by decide +kernel) ?_ _
            have hrow := hS.2.2.2.1
            have HF := hS.2.2.2.2
            have HR1 := hS.2.1
            have HR2 := hS.2.2.1
            clear hS
            have c1 : w3.cell? ⟨w.heap.size, 1, none⟩ = some (.string (strT n)) := by rw [cell_of_rowAt hrow]; rfl
            have c3 : w3.cell? ⟨w.heap.size, 3, none⟩ = some (.int .i64 u) := by rw [cell_of_rowAt hrow]; rfl
            have c4 : w3.cell? ⟨w.heap.size, 4, none⟩ = some (.int .i64 v) := by rw [cell_of_rowAt hrow]; rfl
            have c0 : w3.cell? ⟨w.heap.size, 0, none⟩ = some (.int .i64 k) := by rw [cell_of_rowAt hrow]; rfl
            have c2 : w3.cell? ⟨w.heap.size, 2, none⟩ = some (.string (strT o)) := by rw [cell_of_rowAt hrow]; rfl
            have nl := rowAt_lt hrow
            clear hrow
            go_upto_region 2 with fail
            refine region_seq ?_
            repeat (go_big_quiet_step ((first | (go_at_call 54; exact quiet_call (by simp) (name_at eN hn _)) | (go_at_call 43; first | exact quiet_call (by simp) (is_at eU _) | exact quiet_call (by simp) (is_at eV _)))))
            refine wpQuiet_nil ?_
            intro w5 hb5
            have HF5 := Lib.hid (bthen HF.out hb5)
            clear hb5
            go_wp2
            go_ret
            exact ⟨by first | rfl | simp [*], HF5.out⟩
          exact AllReadyH.nil
        exact AllReadyH.nil
      | true =>
        cases eV : isB v with
        | false =>
          rw [show planB k n o u v = false by simp [planB, eV]]
          unfold planA
          go_enter Tryz.func44, Tryz.ntmps44
          go_upto_region 1 with fail
          refine wp_region_held_drew (S := fun w' : World => rowAt w' w.heap.size = some (#[.int .i64 k, .string (strT n), .string (strT o), .int .i64 u, .int .i64 v], 25) ∧ Hid (Below w.heap.size w w')) (by kernel_rfl) ⟨HR.out, HB.out⟩ (fun hS => ?_)
          clear HR HB
          generalize HW7 : World.drew _ = W7 at *
          clear HW7
          refine held_take (i := 1) (by simp only [List.getElem?_toArray, List.getElem?_cons_succ, List.getElem?_cons_zero]; rfl) (by decide +kernel) (by decide +kernel) (by decide +kernel) (by exact fun _ _ _ _ h => h) hS (by rfl) ?_
          apply Exists.intro
          refine ⟨fun w' hSw => ?_, ?_⟩
          · go_simp
            with_reducible rfl
          (try simp only [act_put, act_put_none, List.set_cons_zero, List.set_cons_succ])
          refine held_take (i := 2) (by simp only [List.getElem?_toArray, List.getElem?_cons_succ, List.getElem?_cons_zero]; rfl) (by decide +kernel) (by decide +kernel) (by decide +kernel) (by exact fun _ _ _ _ h => h) hS (by rfl) ?_
          apply Exists.intro
          refine ⟨fun w' hSw => ?_, ?_⟩
          · obtain ⟨q_row, _⟩ := hSw
            have q1 : w'.cell? ⟨w.heap.size, 0, none⟩ = some (.int .i64 k) := by rw [cell_of_rowAt q_row]; rfl
            go_simp
            with_reducible rfl
          (try simp only [act_put, act_put_none, List.set_cons_zero, List.set_cons_succ])
          refine wpAnyH_ready (rs := [0]) (by decide +kernel) (by simp) ?_
          refine AllReadyH.cons (i := 0) (by simp only [List.getElem?_toArray, List.getElem?_cons_succ, List.getElem?_cons_zero]; rfl) (fun K hK => ?_) ?_
          · go_simp
            go_at_call 64
            refine (rules_any _).mono ?_
            rintro e w3 ⟨rfl, hw3⟩
            have HX : Below _ _ w3 := hw3 ▸ (((Below.refl _ _).alloc (Nat.le_refl _) _).alloc (by simp) _).alloc (by simp; omega) _
            have HM := Lib.hid (rules_heap hw3)
            have HM1 := Lib.hid (rules_row1 hw3)
            have HM2 := Lib.hid (rules_row2 hw3)
            clear hw3
            go_simp
            refine hK.out _ _ ⟨rowKeep HX hS.1, Lib.hid (bthen (Hid.out hS.2) HX)⟩ (fun hS2 => ?_)
            clear hS hK K
            have hS := hS2
            clear hS2
            clear HX
            (try simp only [act_put, act_put_none, List.set_cons_zero, List.set_cons_succ])
            have hS := And.intro (HM2) hS
            refine held_more (S2 := fun w' : World => Hid (rowAt w' (W7.heap.size + 1) = some (otherR, 96)) ∧ rowAt w' w.heap.size = some (#[.int .i64 k, .string (strT n), .string (strT o), .int .i64 u, .int .i64 v], 25) ∧ Hid (Below w.heap.size w w')) (fun _ h => h.2) ?_
            have hS := And.intro (HM1) hS
            refine held_more (S2 := fun w' : World => Hid (rowAt w' W7.heap.size = some (noneR, 96)) ∧ Hid (rowAt w' (W7.heap.size + 1) = some (otherR, 96)) ∧ rowAt w' w.heap.size = some (#[.int .i64 k, .string (strT n), .string (strT o), .int .i64 u, .int .i64 v], 25) ∧ Hid (Below w.heap.size w w')) (fun _ h => h.2) ?_
            have hS := And.intro (HM) hS
            refine held_more (S2 := fun w' : World => Hid (w'.heap[W7.heap.size + 2]? = some (Obj.map (rulE W7.heap.size) 6)) ∧ Hid (rowAt w' W7.heap.size = some (noneR, 96)) ∧ Hid (rowAt w' (W7.heap.size + 1) = some (otherR, 96)) ∧ rowAt w' w.heap.size = some (#[.int .i64 k, .string (strT n), .string (strT o), .int .i64 u, .int .i64 v], 25) ∧ Hid (Below w.heap.size w w')) (fun _ h => h.2) ?_
            refine wpAnyH_ready (rs := [3]) (by decide +kernel) (by simp) ?_
            refine AllReadyH.cons (i := 3) (by simp only [List.getElem?_toArray, List.getElem?_cons_succ, List.getElem?_cons_zero]; rfl) (fun K hK => ?_) ?_
            · obtain ⟨f, p', hlk, hcf, hcl⟩ := rules_look (Hid.out (hS.1)) hk
              have HCL := Lib.hid (hcl n o u v)
              clear hcl
              go_simp
              refine hK.out _ _ hS (fun hS2 => ?_)
              clear hK K hS2 hlk
              (try simp only [act_put, act_put_none, List.set_cons_zero, List.set_cons_succ])
              refine held_take (i := 4) (by simp only [List.getElem?_toArray, List.getElem?_cons_succ, List.getElem?_cons_zero]; rfl) (by decide +kernel) (by decide +kernel) (by decide +kernel) (by exact fun _ _ _ _ h => h) hS (by rfl) ?_
              apply Exists.intro
              refine ⟨fun w' hSw => ?_, ?_⟩
              · go_simp
                with_reducible rfl
              (try simp only [act_put, act_put_none, List.set_cons_zero, List.set_cons_succ])
              refine held_take (i := 5) (by simp only [List.getElem?_toArray, List.getElem?_cons_succ, List.getElem?_cons_zero]; rfl) (by decide +kernel) (by decide +kernel) (by decide +kernel) (by exact fun _ _ _ _ h => h) hS (by rfl) ?_
              apply Exists.intro
              refine ⟨fun w' hSw => ?_, ?_⟩
              · go_simp
                with_reducible rfl
              (try simp only [act_put, act_put_none, List.set_cons_zero, List.set_cons_succ])
              refine held_take (i := 6) (by simp only [List.getElem?_toArray, List.getElem?_cons_succ, List.getElem?_cons_zero]; rfl) (by decide +kernel) (by decide +kernel) (by decide +kernel) (by exact fun _ _ _ _ h => h) hS (by rfl) ?_
              apply Exists.intro
              refine ⟨fun w' hSw => ?_, ?_⟩
              · go_simp
                with_reducible rfl
              (try simp only [act_put, act_put_none, List.set_cons_zero, List.set_cons_succ])
              refine held_take (i := 7) (by simp only [List.getElem?_toArray, List.getElem?_cons_succ, List.getElem?_cons_zero]; rfl) (by decide +kernel) (by decide +kernel) (by decide +kernel) (by exact fun _ _ _ _ h => h) hS (by rfl) ?_
              apply Exists.intro
              refine ⟨fun w' hSw => ?_, ?_⟩
              · go_simp
                with_reducible rfl
              (try simp only [act_put, act_put_none, List.set_cons_zero, List.set_cons_succ])
              refine held_take (i := 8) (by simp only [List.getElem?_toArray, List.getElem?_cons_succ, List.getElem?_cons_zero]; rfl) (by decide +kernel) (by decide +kernel) (by decide +kernel) (by exact fun _ _ _ _ h => h) hS (by rfl) ?_
              apply Exists.intro
              refine ⟨fun w' hSw => ?_, ?_⟩
              · go_simp
                with_reducible rfl
              (try simp only [act_put, act_put_none, List.set_cons_zero, List.set_cons_succ])
              refine wpAnyH_done (by decide +kernel) ?_ _
              have hrow := hS.2.2.2.1
              have HF := hS.2.2.2.2
              have HR1 := hS.2.1
              have HR2 := hS.2.2.1
              clear hS
              have c1 : w3.cell? ⟨w.heap.size, 1, none⟩ = some (.string (strT n)) := by rw [cell_of_rowAt hrow]; rfl
              have c3 : w3.cell? ⟨w.heap.size, 3, none⟩ = some (.int .i64 u) := by rw [cell_of_rowAt hrow]; rfl
              have c4 : w3.cell? ⟨w.heap.size, 4, none⟩ = some (.int .i64 v) := by rw [cell_of_rowAt hrow]; rfl
              have c0 : w3.cell? ⟨w.heap.size, 0, none⟩ = some (.int .i64 k) := by rw [cell_of_rowAt hrow]; rfl
              have c2 : w3.cell? ⟨w.heap.size, 2, none⟩ = some (.string (strT o)) := by rw [cell_of_rowAt hrow]; rfl
              have nl := rowAt_lt hrow
              clear hrow
              go_upto_region 2 with fail
              refine region_seq ?_
              repeat (go_big_quiet_step ((first | (go_at_call 54; exact quiet_call (by simp) (name_at eN hn _)) | (go_at_call 43; first | exact quiet_call (by simp) (is_at eU _) | exact quiet_call (by simp) (is_at eV _)))))
              refine wpQuiet_nil ?_
              intro w5 hb5
              have HF5 := Lib.hid (bthen HF.out hb5)
              clear hb5
              go_wp2
              go_ret
              exact ⟨by first | rfl | simp [*], HF5.out⟩
            exact AllReadyH.nil
          exact AllReadyH.nil
        | true =>
          obtain ⟨R, eR⟩ : ∃ R, ruleB k n o u v = R := ⟨_, rfl⟩
          rw [show planB k n o u v = R by simp [planB, eN, eU, eV, eR, hk.1, hk.2]]
          have hw : IntKind.i64.wrap (u + v) = u + v := by
            rw [isB_iff] at eU eV
            exact IntWalk.i64_in _ (by omega)
          unfold planA
          go_enter Tryz.func44, Tryz.ntmps44
          go_upto_region 1 with fail
          refine wp_region_held_drew (S := fun w' : World => rowAt w' w.heap.size = some (#[.int .i64 k, .string (strT n), .string (strT o), .int .i64 u, .int .i64 v], 25) ∧ Hid (Below w.heap.size w w')) (by kernel_rfl) ⟨HR.out, HB.out⟩ (fun hS => ?_)
          clear HR HB
          generalize HW7 : World.drew _ = W7 at *
          clear HW7
          refine held_take (i := 1) (by simp only [List.getElem?_toArray, List.getElem?_cons_succ, List.getElem?_cons_zero]; rfl) (by decide +kernel) (by decide +kernel) (by decide +kernel) (by exact fun _ _ _ _ h => h) hS (by rfl) ?_
          apply Exists.intro
          refine ⟨fun w' hSw => ?_, ?_⟩
          · go_simp
            with_reducible rfl
          (try simp only [act_put, act_put_none, List.set_cons_zero, List.set_cons_succ])
          refine held_take (i := 2) (by simp only [List.getElem?_toArray, List.getElem?_cons_succ, List.getElem?_cons_zero]; rfl) (by decide +kernel) (by decide +kernel) (by decide +kernel) (by exact fun _ _ _ _ h => h) hS (by rfl) ?_
          apply Exists.intro
          refine ⟨fun w' hSw => ?_, ?_⟩
          · obtain ⟨q_row, _⟩ := hSw
            have q1 : w'.cell? ⟨w.heap.size, 0, none⟩ = some (.int .i64 k) := by rw [cell_of_rowAt q_row]; rfl
            go_simp
            with_reducible rfl
          (try simp only [act_put, act_put_none, List.set_cons_zero, List.set_cons_succ])
          refine wpAnyH_ready (rs := [0]) (by decide +kernel) (by simp) ?_
          refine AllReadyH.cons (i := 0) (by simp only [List.getElem?_toArray, List.getElem?_cons_succ, List.getElem?_cons_zero]; rfl) (fun K hK => ?_) ?_
          · go_simp
            go_at_call 64
            refine (rules_any _).mono ?_
            rintro e w3 ⟨rfl, hw3⟩
            have HX : Below _ _ w3 := hw3 ▸ (((Below.refl _ _).alloc (Nat.le_refl _) _).alloc (by simp) _).alloc (by simp; omega) _
            have HM := Lib.hid (rules_heap hw3)
            have HM1 := Lib.hid (rules_row1 hw3)
            have HM2 := Lib.hid (rules_row2 hw3)
            clear hw3
            go_simp
            refine hK.out _ _ ⟨rowKeep HX hS.1, Lib.hid (bthen (Hid.out hS.2) HX)⟩ (fun hS2 => ?_)
            clear hS hK K
            have hS := hS2
            clear hS2
            clear HX
            (try simp only [act_put, act_put_none, List.set_cons_zero, List.set_cons_succ])
            have hS := And.intro (HM2) hS
            refine held_more (S2 := fun w' : World => Hid (rowAt w' (W7.heap.size + 1) = some (otherR, 96)) ∧ rowAt w' w.heap.size = some (#[.int .i64 k, .string (strT n), .string (strT o), .int .i64 u, .int .i64 v], 25) ∧ Hid (Below w.heap.size w w')) (fun _ h => h.2) ?_
            have hS := And.intro (HM1) hS
            refine held_more (S2 := fun w' : World => Hid (rowAt w' W7.heap.size = some (noneR, 96)) ∧ Hid (rowAt w' (W7.heap.size + 1) = some (otherR, 96)) ∧ rowAt w' w.heap.size = some (#[.int .i64 k, .string (strT n), .string (strT o), .int .i64 u, .int .i64 v], 25) ∧ Hid (Below w.heap.size w w')) (fun _ h => h.2) ?_
            have hS := And.intro (HM) hS
            refine held_more (S2 := fun w' : World => Hid (w'.heap[W7.heap.size + 2]? = some (Obj.map (rulE W7.heap.size) 6)) ∧ Hid (rowAt w' W7.heap.size = some (noneR, 96)) ∧ Hid (rowAt w' (W7.heap.size + 1) = some (otherR, 96)) ∧ rowAt w' w.heap.size = some (#[.int .i64 k, .string (strT n), .string (strT o), .int .i64 u, .int .i64 v], 25) ∧ Hid (Below w.heap.size w w')) (fun _ h => h.2) ?_
            refine wpAnyH_ready (rs := [3]) (by decide +kernel) (by simp) ?_
            refine AllReadyH.cons (i := 3) (by simp only [List.getElem?_toArray, List.getElem?_cons_succ, List.getElem?_cons_zero]; rfl) (fun K hK => ?_) ?_
            · obtain ⟨f, p', hlk, hcf, hcl⟩ := rules_look (Hid.out (hS.1)) hk
              have HCL := Lib.hid (hcl n o u v)
              clear hcl
              go_simp
              refine hK.out _ _ hS (fun hS2 => ?_)
              clear hK K hS2 hlk
              (try simp only [act_put, act_put_none, List.set_cons_zero, List.set_cons_succ])
              refine held_take (i := 4) (by simp only [List.getElem?_toArray, List.getElem?_cons_succ, List.getElem?_cons_zero]; rfl) (by decide +kernel) (by decide +kernel) (by decide +kernel) (by exact fun _ _ _ _ h => h) hS (by rfl) ?_
              apply Exists.intro
              refine ⟨fun w' hSw => ?_, ?_⟩
              · go_simp
                with_reducible rfl
              (try simp only [act_put, act_put_none, List.set_cons_zero, List.set_cons_succ])
              refine held_take (i := 5) (by simp only [List.getElem?_toArray, List.getElem?_cons_succ, List.getElem?_cons_zero]; rfl) (by decide +kernel) (by decide +kernel) (by decide +kernel) (by exact fun _ _ _ _ h => h) hS (by rfl) ?_
              apply Exists.intro
              refine ⟨fun w' hSw => ?_, ?_⟩
              · go_simp
                with_reducible rfl
              (try simp only [act_put, act_put_none, List.set_cons_zero, List.set_cons_succ])
              refine held_take (i := 6) (by simp only [List.getElem?_toArray, List.getElem?_cons_succ, List.getElem?_cons_zero]; rfl) (by decide +kernel) (by decide +kernel) (by decide +kernel) (by exact fun _ _ _ _ h => h) hS (by rfl) ?_
              apply Exists.intro
              refine ⟨fun w' hSw => ?_, ?_⟩
              · go_simp
                with_reducible rfl
              (try simp only [act_put, act_put_none, List.set_cons_zero, List.set_cons_succ])
              refine held_take (i := 7) (by simp only [List.getElem?_toArray, List.getElem?_cons_succ, List.getElem?_cons_zero]; rfl) (by decide +kernel) (by decide +kernel) (by decide +kernel) (by exact fun _ _ _ _ h => h) hS (by rfl) ?_
              apply Exists.intro
              refine ⟨fun w' hSw => ?_, ?_⟩
              · go_simp
                with_reducible rfl
              (try simp only [act_put, act_put_none, List.set_cons_zero, List.set_cons_succ])
              refine held_take (i := 8) (by simp only [List.getElem?_toArray, List.getElem?_cons_succ, List.getElem?_cons_zero]; rfl) (by decide +kernel) (by decide +kernel) (by decide +kernel) (by exact fun _ _ _ _ h => h) hS (by rfl) ?_
              apply Exists.intro
              refine ⟨fun w' hSw => ?_, ?_⟩
              · go_simp
                with_reducible rfl
              (try simp only [act_put, act_put_none, List.set_cons_zero, List.set_cons_succ])
              refine wpAnyH_done (by decide +kernel) ?_ _
              have hrow := hS.2.2.2.1
              have HF := hS.2.2.2.2
              have HR1 := hS.2.1
              have HR2 := hS.2.2.1
              clear hS
              have c1 : w3.cell? ⟨w.heap.size, 1, none⟩ = some (.string (strT n)) := by rw [cell_of_rowAt hrow]; rfl
              have c3 : w3.cell? ⟨w.heap.size, 3, none⟩ = some (.int .i64 u) := by rw [cell_of_rowAt hrow]; rfl
              have c4 : w3.cell? ⟨w.heap.size, 4, none⟩ = some (.int .i64 v) := by rw [cell_of_rowAt hrow]; rfl
              have c0 : w3.cell? ⟨w.heap.size, 0, none⟩ = some (.int .i64 k) := by rw [cell_of_rowAt hrow]; rfl
              have c2 : w3.cell? ⟨w.heap.size, 2, none⟩ = some (.string (strT o)) := by rw [cell_of_rowAt hrow]; rfl
              have nl := rowAt_lt hrow
              clear hrow
              go_upto_region 2 with fail
              refine region_seq ?_
              repeat (go_big_quiet_step ((first | (go_at_call 54; exact quiet_call (by simp) (name_at eN hn _)) | (go_at_call 43; first | exact quiet_call (by simp) (is_at eU _) | exact quiet_call (by simp) (is_at eV _)) | (refine quiet_call (by simp) (rule_at HCL HR1 HR2 ho hw eR _)))))
              refine wpQuiet_nil ?_
              intro w5 hb5
              have HF5 := Lib.hid (bthen HF.out hb5)
              clear hb5
              go_wp2
              go_ret
              exact ⟨by first | rfl | simp [*], HF5.out⟩
            exact AllReadyH.nil
          exact AllReadyH.nil
  · rw [show planB k n o u v = false by simp only [planB]; by_cases h1 : 1 ≤ k <;> simp [h1] <;> omega]
    unfold planA
    go_enter Tryz.func44, Tryz.ntmps44
    go_upto_region 1 with fail
    refine wp_region_held_drew (S := fun w' : World => rowAt w' w.heap.size = some (#[.int .i64 k, .string (strT n), .string (strT o), .int .i64 u, .int .i64 v], 25) ∧ Hid (Below w.heap.size w w')) (by kernel_rfl) ⟨HR.out, HB.out⟩ (fun hS => ?_)
    clear HR HB
    generalize HW7 : World.drew _ = W7 at *
    clear HW7
    refine held_take (i := 1) (by simp only [List.getElem?_toArray, List.getElem?_cons_succ, List.getElem?_cons_zero]; rfl) (by decide +kernel) (by decide +kernel) (by decide +kernel) (by exact fun _ _ _ _ h => h) hS (by rfl) ?_
    apply Exists.intro
    refine ⟨fun w' hSw => ?_, ?_⟩
    · go_simp
      with_reducible rfl
    (try simp only [act_put, act_put_none, List.set_cons_zero, List.set_cons_succ])
    refine held_take (i := 2) (by simp only [List.getElem?_toArray, List.getElem?_cons_succ, List.getElem?_cons_zero]; rfl) (by decide +kernel) (by decide +kernel) (by decide +kernel) (by exact fun _ _ _ _ h => h) hS (by rfl) ?_
    apply Exists.intro
    refine ⟨fun w' hSw => ?_, ?_⟩
    · obtain ⟨q_row, _⟩ := hSw
      have q1 : w'.cell? ⟨w.heap.size, 0, none⟩ = some (.int .i64 k) := by rw [cell_of_rowAt q_row]; rfl
      go_simp
      with_reducible rfl
    (try simp only [act_put, act_put_none, List.set_cons_zero, List.set_cons_succ])
    refine wpAnyH_ready (rs := [0]) (by decide +kernel) (by simp) ?_
    refine AllReadyH.cons (i := 0) (by simp only [List.getElem?_toArray, List.getElem?_cons_succ, List.getElem?_cons_zero]; rfl) (fun K hK => ?_) ?_
    · go_simp
      go_at_call 64
      refine (rules_any _).mono ?_
      rintro e w3 ⟨rfl, hw3⟩
      have HX : Below _ _ w3 := hw3 ▸ (((Below.refl _ _).alloc (Nat.le_refl _) _).alloc (by simp) _).alloc (by simp; omega) _
      have HM := Lib.hid (rules_heap hw3)
      have HM1 := Lib.hid (rules_row1 hw3)
      have HM2 := Lib.hid (rules_row2 hw3)
      clear hw3
      go_simp
      refine hK.out _ _ ⟨rowKeep HX hS.1, Lib.hid (bthen (Hid.out hS.2) HX)⟩ (fun hS2 => ?_)
      clear hS hK K
      have hS := hS2
      clear hS2
      clear HX
      (try simp only [act_put, act_put_none, List.set_cons_zero, List.set_cons_succ])
      have hS := And.intro (HM2) hS
      refine held_more (S2 := fun w' : World => Hid (rowAt w' (W7.heap.size + 1) = some (otherR, 96)) ∧ rowAt w' w.heap.size = some (#[.int .i64 k, .string (strT n), .string (strT o), .int .i64 u, .int .i64 v], 25) ∧ Hid (Below w.heap.size w w')) (fun _ h => h.2) ?_
      have hS := And.intro (HM1) hS
      refine held_more (S2 := fun w' : World => Hid (rowAt w' W7.heap.size = some (noneR, 96)) ∧ Hid (rowAt w' (W7.heap.size + 1) = some (otherR, 96)) ∧ rowAt w' w.heap.size = some (#[.int .i64 k, .string (strT n), .string (strT o), .int .i64 u, .int .i64 v], 25) ∧ Hid (Below w.heap.size w w')) (fun _ h => h.2) ?_
      have hS := And.intro (HM) hS
      refine held_more (S2 := fun w' : World => Hid (w'.heap[W7.heap.size + 2]? = some (Obj.map (rulE W7.heap.size) 6)) ∧ Hid (rowAt w' W7.heap.size = some (noneR, 96)) ∧ Hid (rowAt w' (W7.heap.size + 1) = some (otherR, 96)) ∧ rowAt w' w.heap.size = some (#[.int .i64 k, .string (strT n), .string (strT o), .int .i64 u, .int .i64 v], 25) ∧ Hid (Below w.heap.size w w')) (fun _ h => h.2) ?_
      refine wpAnyH_ready (rs := [3]) (by decide +kernel) (by simp) ?_
      refine AllReadyH.cons (i := 3) (by simp only [List.getElem?_toArray, List.getElem?_cons_succ, List.getElem?_cons_zero]; rfl) (fun K hK => ?_) ?_
      · have hlk := look_miss (Hid.out (hS.1)) hk
        go_simp
        refine hK.out _ _ hS (fun hS2 => ?_)
        clear hK K hS2 hlk
        (try simp only [act_put, act_put_none, List.set_cons_zero, List.set_cons_succ])
        refine held_take (i := 4) (by simp only [List.getElem?_toArray, List.getElem?_cons_succ, List.getElem?_cons_zero]; rfl) (by decide +kernel) (by decide +kernel) (by decide +kernel) (by exact fun _ _ _ _ h => h) hS (by rfl) ?_
        apply Exists.intro
        refine ⟨fun w' hSw => ?_, ?_⟩
        · go_simp
          with_reducible rfl
        (try simp only [act_put, act_put_none, List.set_cons_zero, List.set_cons_succ])
        refine held_take (i := 5) (by simp only [List.getElem?_toArray, List.getElem?_cons_succ, List.getElem?_cons_zero]; rfl) (by decide +kernel) (by decide +kernel) (by decide +kernel) (by exact fun _ _ _ _ h => h) hS (by rfl) ?_
        apply Exists.intro
        refine ⟨fun w' hSw => ?_, ?_⟩
        · go_simp
          with_reducible rfl
        (try simp only [act_put, act_put_none, List.set_cons_zero, List.set_cons_succ])
        refine held_take (i := 6) (by simp only [List.getElem?_toArray, List.getElem?_cons_succ, List.getElem?_cons_zero]; rfl) (by decide +kernel) (by decide +kernel) (by decide +kernel) (by exact fun _ _ _ _ h => h) hS (by rfl) ?_
        apply Exists.intro
        refine ⟨fun w' hSw => ?_, ?_⟩
        · go_simp
          with_reducible rfl
        (try simp only [act_put, act_put_none, List.set_cons_zero, List.set_cons_succ])
        refine held_take (i := 7) (by simp only [List.getElem?_toArray, List.getElem?_cons_succ, List.getElem?_cons_zero]; rfl) (by decide +kernel) (by decide +kernel) (by decide +kernel) (by exact fun _ _ _ _ h => h) hS (by rfl) ?_
        apply Exists.intro
        refine ⟨fun w' hSw => ?_, ?_⟩
        · go_simp
          with_reducible rfl
        (try simp only [act_put, act_put_none, List.set_cons_zero, List.set_cons_succ])
        refine held_take (i := 8) (by simp only [List.getElem?_toArray, List.getElem?_cons_succ, List.getElem?_cons_zero]; rfl) (by decide +kernel) (by decide +kernel) (by decide +kernel) (by exact fun _ _ _ _ h => h) hS (by rfl) ?_
        apply Exists.intro
        refine ⟨fun w' hSw => ?_, ?_⟩
        · go_simp
          with_reducible rfl
        (try simp only [act_put, act_put_none, List.set_cons_zero, List.set_cons_succ])
        refine wpAnyH_done (by decide +kernel) ?_ _
        have hrow := hS.2.2.2.1
        have HF := hS.2.2.2.2
        have HR1 := hS.2.1
        have HR2 := hS.2.2.1
        clear hS
        have c1 : w3.cell? ⟨w.heap.size, 1, none⟩ = some (.string (strT n)) := by rw [cell_of_rowAt hrow]; rfl
        have c3 : w3.cell? ⟨w.heap.size, 3, none⟩ = some (.int .i64 u) := by rw [cell_of_rowAt hrow]; rfl
        have c4 : w3.cell? ⟨w.heap.size, 4, none⟩ = some (.int .i64 v) := by rw [cell_of_rowAt hrow]; rfl
        have c0 : w3.cell? ⟨w.heap.size, 0, none⟩ = some (.int .i64 k) := by rw [cell_of_rowAt hrow]; rfl
        have c2 : w3.cell? ⟨w.heap.size, 2, none⟩ = some (.string (strT o)) := by rw [cell_of_rowAt hrow]; rfl
        have nl := rowAt_lt hrow
        clear hrow
        go_upto_region 2 with fail
        refine region_seq ?_
        repeat (go_big_quiet_step ((first | (go_at_call 54; exact quiet_call (by simp) (name_at eN hn _)) | (go_at_call 43; first | exact quiet_call (by simp) (is_at eU _) | exact quiet_call (by simp) (is_at eV _)))))
        refine wpQuiet_nil ?_
        intro w5 hb5
        have HF5 := Lib.hid (bthen HF.out hb5)
        clear hb5
        go_wp2
        go_ret
        exact ⟨by first | rfl | simp [*], HF5.out⟩
      exact AllReadyH.nil
    exact AllReadyH.nil
--PR
end Go.Proofs.YtinhaipnmmgplaaGreat
