/-
  Layer 10 (wire): what a format can say; the reference's.
-/
import Derived.Test.YtinhaipnmmgplaaGreatZField5
import Derived.Test.YtinhaipnmmgplaaGreatZGA
namespace Go.Proofs.YtinhaipnmmgplaaGreat
set_option maxRecDepth 20000
open Go.RowKit
set_option linter.unusedSimpArgs false
attribute [local go_sem] rowCells rowAt_drewN get_ints getE_ints set_ints size_ints rowAt_alloc rowAt_drew setRow_alloc setRow_drewN setRow_drew setCell_alloc setCell_drewN splice_upd splice_put splice_all load_vec_cut load_vecs_cut load_rights_cut load_counter store_vec store_rights store_counter eql_vec neq_vec index_vec eql_rights neq_rights eql_counter index_vecs cut_ints sub_zero
attribute [local go_sem ↓] xload_vec xstore_vec xalloc_vec xeql_vec xneq_vec xindex_vec xbuild_vec0 xload_rights xstore_rights xalloc_rights xeql_rights xneq_rights xbuild_rights0 xload_vecs xindex_vecs xload_counter xstore_counter xalloc_counter xbuild_counter0 xeql_counter xbuild_counter3
attribute [local go_sem] rowAt_setRow rowAt_setCell load_vec_cut_later load_rights_later load_counter_later Later.cell Later.frozen build3_ints
attribute [local go_sem ↓] xload_field xstore_field xalloc_field xload_lock
attribute [local go_sem] load_field load_field_later store_field load_counter_cut load_lock_cut load_lock_later Fld.size Fld.get0 Fld.get1 Fld.get2 Fld.get586 Fld.getE0 Fld.getE1 Fld.getE2 Fld.getE586 Fld.cut_cnt Fld.cut_lock Fld.cut_all Fld.splice_all strT_size

def isV (v : Int) : Bool := decide (1 ≤ v) && decide (v ≤ 3)
theorem wireIs_any (v : Int) (w : World) : Calls Tryz.prog 72 #[.int .i64 v] w fun e w' => e = .returned (.bool (isV v)) ∧ Below w.heap.size w w' := by
  by_cases h : 1 ≤ v
  all_goals
    go_enter Tryz.func72, Tryz.ntmps72
    go_wp2
    go_ret
    exact ⟨by simp [isV, h] <;> omega, Below.refl _ _⟩
def saysB (v : Int) (F : Fld) : Bool := if v = 1 then decide (F.epoch = 0) && decide (F.hn = 0) else if v = 2 then decide (F.epoch = 0) else true
theorem says1_any (F : Fld) (w : World) : Calls Tryz.prog 96 #[.agg F.cells] w fun e w' => e = .returned (.bool (decide (F.epoch = 0) && decide (F.hn = 0))) ∧ Below w.heap.size w w' := by
  have g4 : decide ((F.hn : Int) = 0) = decide (F.hn = 0) := decide_eq_decide.2 (by omega)
  by_cases h : F.epoch = 0
  all_goals
    go_enter Tryz.func96, Tryz.ntmps96
    go_wp2_with fail
    go_ret
    exact ⟨by simp [h] <;> omega, below_allocS (Below.refl _ _) _⟩
theorem says2_any (F : Fld) (w : World) : Calls Tryz.prog 97 #[.agg F.cells] w fun e w' => e = .returned (.bool (decide (F.epoch = 0))) ∧ Below w.heap.size w w' := by
  go_enter Tryz.func97, Tryz.ntmps97
  go_wp2_with fail
  go_ret
  exact ⟨by simp <;> rfl, below_allocS (Below.refl _ _) _⟩
theorem says3_any (F : Fld) (w : World) : Calls Tryz.prog 98 #[.agg F.cells] w fun e w' => e = .returned (.bool true) ∧ Below w.heap.size w w' := by
  go_enter Tryz.func98, Tryz.ntmps98
  go_wp2_with fail
  go_ret
  exact ⟨rfl, below_allocS (Below.refl _ _) _⟩
def sayT : TypeId := 136
def ent (k : Int) (f : FuncId) (n : Nat) : MapEntry := { key := .int .i64 k, val := .func (.func f) #[] #[], born := n }
theorem setSize {w : World} {o o' : Obj} : { w.alloc o with heap := (w.alloc o).heap.setIfInBounds w.heap.size o' } = w.alloc o' := by
  have : (w.heap.push o).setIfInBounds w.heap.size o' = w.heap.push o' := by
    apply Array.ext_getElem?
    intro i
    rw [Array.getElem?_setIfInBounds]
    by_cases h : w.heap.size = i
    · subst h; simp
    · rw [if_neg h]
      by_cases h2 : i < w.heap.size
      · simp [Array.getElem?_push, h2, Nat.ne_of_lt h2]
      · simp [Array.getElem?_push, show ¬ i = w.heap.size from fun e => h e.symm]
  exact world_ext this rfl rfl rfl rfl
theorem obj_get {w : World} {r : Nat} {es : Array MapEntry} {clk : Nat} (hb : w.heap[r]? = some (.map es clk)) : (getObj r).run Tryz.prog w = .ok (.map es clk) w := by simp [getObj, Sem.run, hb]
theorem obj_set {w : World} {r : Nat} {es : Array MapEntry} {clk : Nat} (o : Obj) (hb : w.heap[r]? = some (.map es clk)) : (setObj r o).run Tryz.prog w = .ok () { w with heap := w.heap.setIfInBounds r o } := by simp [setObj, Sem.run, hb]
theorem run_says_put (w : World) (es : Array MapEntry) (clk : Nat) (k : Int) (v : Value) (hf : ∀ W : World, (Instr.findKey 3 (.int .i64 k) es.toList).run Tryz.prog W = .ok none W) :
    (Instr.mapUpdate sayT (.map (some w.heap.size)) (.int .i64 k) v).run Tryz.prog (w.alloc (.map es clk)) = .ok () (w.alloc (.map (es.push { key := .int .i64 k, val := v, born := clk }) (clk + 1))) := by
  have hb : (w.alloc (.map es clk)).heap[w.heap.size]? = some (.map es clk) := by show (w.heap.push _)[w.heap.size]? = _; simp
  have hu : Tryz.prog.underlying sayT = some (.map 3 _) := Tryz.underlying136
  have hc : ∀ W : World, (Instr.checkKey false 10000 3 (.int .i64 k)).run Tryz.prog W = .ok () W := fun W => by kernel_rfl
  unfold Instr.mapUpdate
  simp only [Sem.run_bind, run_underlying hu, Result.andThen_ok, obj_get hb, hc, hf, obj_set _ hb]
  rw [setSize]
def sayE : Array MapEntry := #[ent 1 96 0, ent 2 97 1, ent 3 98 2]
theorem says_any (w : World) : Calls Tryz.prog 90 #[] w fun e w' => e = .returned (.map (some w.heap.size)) ∧ w' = w.alloc (.map sayE 3) := by
  have hmm := @run_makeMap Tryz.prog
  have h1 : (Instr.mapUpdate 136 (.map (some w.heap.size)) (.int .i64 1) (.func (.func 96) #[] #[])).run Tryz.prog (w.alloc (.map #[] 0)) = .ok () (w.alloc (.map #[ent 1 96 0] 1)) := run_says_put w #[] 0 1 _ (fun W => by kernel_rfl)
  have h2 : (Instr.mapUpdate 136 (.map (some w.heap.size)) (.int .i64 2) (.func (.func 97) #[] #[])).run Tryz.prog (w.alloc (.map #[ent 1 96 0] 1)) = .ok () (w.alloc (.map #[ent 1 96 0, ent 2 97 1] 2)) := run_says_put w _ 1 2 _ (fun W => by kernel_rfl)
  have h3 : (Instr.mapUpdate 136 (.map (some w.heap.size)) (.int .i64 3) (.func (.func 98) #[] #[])).run Tryz.prog (w.alloc (.map #[ent 1 96 0, ent 2 97 1] 2)) = .ok () (w.alloc (.map sayE 3)) := run_says_put w _ 2 3 _ (fun W => by kernel_rfl)
  go_enter Tryz.func90, Tryz.ntmps90
  go_wp2_with fail
  go_ret
  exact ⟨rfl, rfl⟩
theorem says_look (w : World) (r : Nat) (hb : w.heap[r]? = some (.map sayE 3)) (v : Int) (h : isV v = true) : ∃ f, (Instr.lookup 136 (.map (some r)) (.int .i64 v) false).run Tryz.prog w = .ok (.func (.func f) #[] #[]) w ∧
    ∀ F : Fld, ∀ w : World, Calls Tryz.prog f #[.agg F.cells] w fun e w' => e = .returned (.bool (saysB v F)) ∧ Below w.heap.size w w' := by
  have hu : Tryz.prog.underlying 136 = some (.map 3 _) := Tryz.underlying136
  have hc : ∀ W : World, (Instr.checkKey (Array.isEmpty sayE) 10000 3 (.int .i64 v)).run Tryz.prog W = .ok () W := fun W => by kernel_rfl
  have hv : v = 1 ∨ v = 2 ∨ v = 3 := by simp only [isV, Bool.and_eq_true, decide_eq_true_eq] at h; omega
  rcases hv with rfl | rfl | rfl
  · have hf : ∀ W : World, (Instr.findKey 3 (.int .i64 1) sayE.toList).run Tryz.prog W = .ok (some (0, .func (.func 96) #[] #[])) W := fun W => by kernel_rfl
    refine ⟨96, ?_, fun F w => says1_any F w⟩
    unfold Instr.lookup
    simp only [Sem.run_bind, run_underlying hu, Result.andThen_ok, obj_get hb, hc, hf, Sem.run_pure]
    rfl
  · have hf : ∀ W : World, (Instr.findKey 3 (.int .i64 2) sayE.toList).run Tryz.prog W = .ok (some (1, .func (.func 97) #[] #[])) W := fun W => by kernel_rfl
    refine ⟨97, ?_, fun F w => says2_any F w⟩
    unfold Instr.lookup
    simp only [Sem.run_bind, run_underlying hu, Result.andThen_ok, obj_get hb, hc, hf, Sem.run_pure]
    rfl
  · have hf : ∀ W : World, (Instr.findKey 3 (.int .i64 3) sayE.toList).run Tryz.prog W = .ok (some (2, .func (.func 98) #[] #[])) W := fun W => by kernel_rfl
    refine ⟨98, ?_, fun F w => says3_any F w⟩
    unfold Instr.lookup
    simp only [Sem.run_bind, run_underlying hu, Result.andThen_ok, obj_get hb, hc, hf, Sem.run_pure]
    rfl
theorem fieldRight_at {F : Fld} {b : Bool} (e : rightF F = b) {w : World} (h : FldOk w F) : Calls Tryz.prog 33 #[.agg F.cells] w fun e w' => e = .returned (.bool b) ∧ Below w.heap.size w w' := by rw [← e]; exact fieldRight_any F w h
theorem wireIs_at {v : Int} {b : Bool} (e : isV v = b) (w : World) : Calls Tryz.prog 72 #[.int .i64 v] w fun e w' => e = .returned (.bool b) ∧ Below w.heap.size w w' := by rw [← e]; exact wireIs_any v w
theorem says_heap {w w' : World} (h : w' = w.alloc (.map sayE 3)) : w'.heap[w.heap.size]? = some (.map sayE 3) := by
  rw [h]
  show (w.heap.push _)[w.heap.size]? = _
  simp
theorem map_lt {w : World} {r : Nat} {o : Obj} (h : w.heap[r]? = some o) : r < w.heap.size := (Array.getElem?_eq_some_iff.1 h).1
theorem says_look1 {w : World} {r : Nat} (hb : w.heap[r]? = some (.map sayE 3)) : (Instr.lookup 136 (.map (some r)) (.int .i64 1) false).run Tryz.prog w = .ok (.func (.func 96) #[] #[]) w := by
  have hu : Tryz.prog.underlying 136 = some (.map 3 _) := Tryz.underlying136
  have hc : ∀ W : World, (Instr.checkKey (Array.isEmpty sayE) 10000 3 (.int .i64 1)).run Tryz.prog W = .ok () W := fun W => by kernel_rfl
  have hf : ∀ W : World, (Instr.findKey 3 (.int .i64 1) sayE.toList).run Tryz.prog W = .ok (some (0, .func (.func 96) #[] #[])) W := fun W => by kernel_rfl
  unfold Instr.lookup
  simp only [Sem.run_bind, run_underlying hu, Result.andThen_ok, obj_get hb, hc, hf, Sem.run_pure]
  rfl
theorem says_look2 {w : World} {r : Nat} (hb : w.heap[r]? = some (.map sayE 3)) : (Instr.lookup 136 (.map (some r)) (.int .i64 2) false).run Tryz.prog w = .ok (.func (.func 97) #[] #[]) w := by
  have hu : Tryz.prog.underlying 136 = some (.map 3 _) := Tryz.underlying136
  have hc : ∀ W : World, (Instr.checkKey (Array.isEmpty sayE) 10000 3 (.int .i64 2)).run Tryz.prog W = .ok () W := fun W => by kernel_rfl
  have hf : ∀ W : World, (Instr.findKey 3 (.int .i64 2) sayE.toList).run Tryz.prog W = .ok (some (1, .func (.func 97) #[] #[])) W := fun W => by kernel_rfl
  unfold Instr.lookup
  simp only [Sem.run_bind, run_underlying hu, Result.andThen_ok, obj_get hb, hc, hf, Sem.run_pure]
  rfl
theorem says_look3 {w : World} {r : Nat} (hb : w.heap[r]? = some (.map sayE 3)) : (Instr.lookup 136 (.map (some r)) (.int .i64 3) false).run Tryz.prog w = .ok (.func (.func 98) #[] #[]) w := by
  have hu : Tryz.prog.underlying 136 = some (.map 3 _) := Tryz.underlying136
  have hc : ∀ W : World, (Instr.checkKey (Array.isEmpty sayE) 10000 3 (.int .i64 3)).run Tryz.prog W = .ok () W := fun W => by kernel_rfl
  have hf : ∀ W : World, (Instr.findKey 3 (.int .i64 3) sayE.toList).run Tryz.prog W = .ok (some (2, .func (.func 98) #[] #[])) W := fun W => by kernel_rfl
  unfold Instr.lookup
  simp only [Sem.run_bind, run_underlying hu, Result.andThen_ok, obj_get hb, hc, hf, Sem.run_pure]
  rfl
def sayB (v : Int) (F : Fld) : Bool := rightF F && isV v && saysB v F
set_option maxHeartbeats 4000000 in
theorem saysW_any (v : Int) (F : Fld) (w : World) (h : FldOk w F) : Calls Tryz.prog 65 #[.int .i64 v, .agg F.cells] w fun e w' => e = .returned (.bool (sayB v F)) ∧ Below w.heap.size w w' := by
  have hB0 : Below w.heap.size w (w.alloc (.cells F.cells 58)) := (Below.refl _ _).alloc (Nat.le_refl _) _
  have HR : Hid (rowAt (w.alloc (.cells F.cells 58)).drew w.heap.size = some (F.cells, 58)) := Lib.hid (rowAt_alloc_at _ _ _ _ rfl)
  have HO : Hid (FldOk (w.alloc (.cells F.cells 58)).drew F) := Lib.hid (h.below hB0.drew)
  have HB : Hid (Hid (Below w.heap.size w (w.alloc (.cells F.cells 58)).drew)) := Lib.hid (Lib.hid hB0.drew)
  clear h hB0
  cases eR : rightF F with
  | false =>
    rw [show sayB v F = false by simp [sayB, eR]]
    go_enter Tryz.func65, Tryz.ntmps65
    go_upto_region 1 with fail
    refine wp_region_held_drew (S := fun w' : World => rowAt w' w.heap.size = some (F.cells, 58) ∧ FldOk w' F ∧ Hid (Below w.heap.size w w')) (by kernel_rfl) ⟨HR.out, HO.out, HB.out⟩ (fun hS => ?_)
    clear HR HO HB
    generalize HW7 : World.drew _ = W7 at *
    clear HW7
    refine held_take (i := 0) (by simp only [List.getElem?_toArray, List.getElem?_cons_succ, List.getElem?_cons_zero]; rfl) (by decide +kernel) (by decide +kernel) (by decide +kernel) (by exact fun _ _ _ _ h => h) hS (by rfl) ?_
    apply Exists.intro
    refine ⟨fun w' hSw => ?_, ?_⟩
    · obtain ⟨q_row, _, _⟩ := hSw
      go_simp
      with_reducible rfl
    (try simp only [act_put, act_put_none, List.set_cons_zero, List.set_cons_succ])
    refine wpAnyH_ready (rs := [1]) (by decide +kernel) (by simp) ?_
    refine AllReadyH.cons (i := 1) (by simp only [List.getElem?_toArray, List.getElem?_cons_succ, List.getElem?_cons_zero]; rfl) (fun K hK => ?_) ?_
    · go_simp
      go_at_call 33
      refine (fieldRight_at eR hS.2.1).mono ?_
      rintro e w1 ⟨rfl, hb⟩
      have HX := hb
      clear hb
      go_simp
      refine hK.out _ _ ⟨rowKeep HX hS.1, FldOk.below hS.2.1 HX, Lib.hid (bthen (Hid.out hS.2.2) HX)⟩ (fun hS2 => ?_)
      clear hS hK K
      have hS := hS2
      clear hS2
      clear HX
      (try simp only [act_put, act_put_none, List.set_cons_zero, List.set_cons_succ])
      refine held_take (i := 2) (by simp only [List.getElem?_toArray, List.getElem?_cons_succ, List.getElem?_cons_zero]; rfl) (by decide +kernel) (by decide +kernel) (by decide +kernel) (by exact fun _ _ _ _ h => h) hS (by rfl) ?_
      apply Exists.intro
      refine ⟨fun w' hSw => ?_, ?_⟩
      · go_simp
        with_reducible rfl
      (try simp only [act_put, act_put_none, List.set_cons_zero, List.set_cons_succ])
      refine held_skip (i := 3) (by simp only [List.getElem?_toArray, List.getElem?_cons_succ, List.getElem?_cons_zero]; rfl) (by decide +kernel) (by decide +kernel) (by decide +kernel) (by exact fun _ _ _ _ h => h) hS (by rfl) ?_
      (try simp only [act_put, act_put_none, List.set_cons_zero, List.set_cons_succ])
      refine held_skip (i := 4) (by simp only [List.getElem?_toArray, List.getElem?_cons_succ, List.getElem?_cons_zero]; rfl) (by decide +kernel) (by decide +kernel) (by decide +kernel) (by exact fun _ _ _ _ h => h) hS (by rfl) ?_
      (try simp only [act_put, act_put_none, List.set_cons_zero, List.set_cons_succ])
      refine held_take (i := 5) (by simp only [List.getElem?_toArray, List.getElem?_cons_succ, List.getElem?_cons_zero]; rfl) (by decide +kernel) (by decide +kernel) (by decide +kernel) (by exact fun _ _ _ _ h => h) hS (by rfl) ?_
      apply Exists.intro
      refine ⟨fun w' hSw => ?_, ?_⟩
      · go_simp
        with_reducible rfl
      (try simp only [act_put, act_put_none, List.set_cons_zero, List.set_cons_succ])
      refine held_take (i := 6) (by simp only [List.getElem?_toArray, List.getElem?_cons_succ, List.getElem?_cons_zero]; rfl) (by decide +kernel) (by decide +kernel) (by decide +kernel) (by exact fun _ _ _ _ h => h) hS (by rfl) ?_
      apply Exists.intro
      refine ⟨fun w' hSw => ?_, ?_⟩
      · go_simp
        with_reducible rfl
      (try simp only [act_put, act_put_none, List.set_cons_zero, List.set_cons_succ])
      refine held_skip (i := 7) (by simp only [List.getElem?_toArray, List.getElem?_cons_succ, List.getElem?_cons_zero]; rfl) (by decide +kernel) (by decide +kernel) (by decide +kernel) (by exact fun _ _ _ _ h => h) hS (by rfl) ?_
      (try simp only [act_put, act_put_none, List.set_cons_zero, List.set_cons_succ])
      refine held_skip (i := 8) (by simp only [List.getElem?_toArray, List.getElem?_cons_succ, List.getElem?_cons_zero]; rfl) (by decide +kernel) (by decide +kernel) (by decide +kernel) (by exact fun _ _ _ _ h => h) hS (by rfl) ?_
      (try simp only [act_put, act_put_none, List.set_cons_zero, List.set_cons_succ])
      refine held_skip (i := 9) (by simp only [List.getElem?_toArray, List.getElem?_cons_succ, List.getElem?_cons_zero]; rfl) (by decide +kernel) (by decide +kernel) (by decide +kernel) (by exact fun _ _ _ _ h => h) hS (by rfl) ?_
      (try simp only [act_put, act_put_none, List.set_cons_zero, List.set_cons_succ])
      refine held_skip (i := 10) (by simp only [List.getElem?_toArray, List.getElem?_cons_succ, List.getElem?_cons_zero]; rfl) (by decide +kernel) (by decide +kernel) (by decide +kernel) (by exact fun _ _ _ _ h => h) hS (by rfl) ?_
      (try simp only [act_put, act_put_none, List.set_cons_zero, List.set_cons_succ])
      refine held_skip (i := 11) (by simp only [List.getElem?_toArray, List.getElem?_cons_succ, List.getElem?_cons_zero]; rfl) (by decide +kernel) (by decide +kernel) (by decide +kernel) (by exact fun _ _ _ _ h => h) hS (by rfl) ?_
      (try simp only [act_put, act_put_none, List.set_cons_zero, List.set_cons_succ])
      refine held_take (i := 12) (by simp only [List.getElem?_toArray, List.getElem?_cons_succ, List.getElem?_cons_zero]; rfl) (by decide +kernel) (by decide +kernel) (by decide +kernel) (by exact fun _ _ _ _ h => h) hS (by rfl) ?_
      apply Exists.intro
      refine ⟨fun w' hSw => ?_, ?_⟩
      · go_simp
        with_reducible rfl
      (try simp only [act_put, act_put_none, List.set_cons_zero, List.set_cons_succ])
      refine held_take (i := 13) (by simp only [List.getElem?_toArray, List.getElem?_cons_succ, List.getElem?_cons_zero]; rfl) (by decide +kernel) (by decide +kernel) (by decide +kernel) (by exact fun _ _ _ _ h => h) hS (by rfl) ?_
      apply Exists.intro
      refine ⟨fun w' hSw => ?_, ?_⟩
      · go_simp
        with_reducible rfl
      (try simp only [act_put, act_put_none, List.set_cons_zero, List.set_cons_succ])
      refine wpAnyH_done (by decide +kernel) ?_ _
      have HF := hS.2.2
      clear hS
      go_wp2_with fail
      go_ret
      exact ⟨by first | rfl | simp [*], HF.out⟩
    exact AllReadyH.nil
  | true =>
    cases eV : isV v with
    | false =>
      rw [show sayB v F = false by simp [sayB, eV]]
      go_enter Tryz.func65, Tryz.ntmps65
      go_upto_region 1 with fail
      refine wp_region_held_drew (S := fun w' : World => rowAt w' w.heap.size = some (F.cells, 58) ∧ FldOk w' F ∧ Hid (Below w.heap.size w w')) (by kernel_rfl) ⟨HR.out, HO.out, HB.out⟩ (fun hS => ?_)
      clear HR HO HB
      generalize HW7 : World.drew _ = W7 at *
      clear HW7
      refine held_take (i := 0) (by simp only [List.getElem?_toArray, List.getElem?_cons_succ, List.getElem?_cons_zero]; rfl) (by decide +kernel) (by decide +kernel) (by decide +kernel) (by exact fun _ _ _ _ h => h) hS (by rfl) ?_
      apply Exists.intro
      refine ⟨fun w' hSw => ?_, ?_⟩
      · obtain ⟨q_row, _, _⟩ := hSw
        go_simp
        with_reducible rfl
      (try simp only [act_put, act_put_none, List.set_cons_zero, List.set_cons_succ])
      refine wpAnyH_ready (rs := [1]) (by decide +kernel) (by simp) ?_
      refine AllReadyH.cons (i := 1) (by simp only [List.getElem?_toArray, List.getElem?_cons_succ, List.getElem?_cons_zero]; rfl) (fun K hK => ?_) ?_
      · go_simp
        go_at_call 33
        refine (fieldRight_at eR hS.2.1).mono ?_
        rintro e w1 ⟨rfl, hb⟩
        have HX := hb
        clear hb
        go_simp
        refine hK.out _ _ ⟨rowKeep HX hS.1, FldOk.below hS.2.1 HX, Lib.hid (bthen (Hid.out hS.2.2) HX)⟩ (fun hS2 => ?_)
        clear hS hK K
        have hS := hS2
        clear hS2
        clear HX
        (try simp only [act_put, act_put_none, List.set_cons_zero, List.set_cons_succ])
        refine held_take (i := 2) (by simp only [List.getElem?_toArray, List.getElem?_cons_succ, List.getElem?_cons_zero]; rfl) (by decide +kernel) (by decide +kernel) (by decide +kernel) (by exact fun _ _ _ _ h => h) hS (by rfl) ?_
        apply Exists.intro
        refine ⟨fun w' hSw => ?_, ?_⟩
        · go_simp
          with_reducible rfl
        (try simp only [act_put, act_put_none, List.set_cons_zero, List.set_cons_succ])
        refine held_take (i := 3) (by simp only [List.getElem?_toArray, List.getElem?_cons_succ, List.getElem?_cons_zero]; rfl) (by decide +kernel) (by decide +kernel) (by decide +kernel) (by exact fun _ _ _ _ h => h) hS (by rfl) ?_
        apply Exists.intro
        refine ⟨fun w' hSw => ?_, ?_⟩
        · go_simp
          with_reducible rfl
        (try simp only [act_put, act_put_none, List.set_cons_zero, List.set_cons_succ])
        refine wpAnyH_ready (rs := [4]) (by decide +kernel) (by simp) ?_
        refine AllReadyH.cons (i := 4) (by simp only [List.getElem?_toArray, List.getElem?_cons_succ, List.getElem?_cons_zero]; rfl) (fun K hK => ?_) ?_
        · go_simp
          go_at_call 72
          refine (wireIs_at eV _).mono ?_
          rintro e w2 ⟨rfl, hb⟩
          have HX := hb
          clear hb
          go_simp
          refine hK.out _ _ ⟨rowKeep HX hS.1, FldOk.below hS.2.1 HX, Lib.hid (bthen (Hid.out hS.2.2) HX)⟩ (fun hS2 => ?_)
          clear hS hK K
          have hS := hS2
          clear hS2
          clear HX
          (try simp only [act_put, act_put_none, List.set_cons_zero, List.set_cons_succ])
          refine held_take (i := 5) (by simp only [List.getElem?_toArray, List.getElem?_cons_succ, List.getElem?_cons_zero]; rfl) (by decide +kernel) (by decide +kernel) (by decide +kernel) (by exact fun _ _ _ _ h => h) hS (by rfl) ?_
          apply Exists.intro
          refine ⟨fun w' hSw => ?_, ?_⟩
          · go_simp
            with_reducible rfl
          (try simp only [act_put, act_put_none, List.set_cons_zero, List.set_cons_succ])
          refine held_take (i := 6) (by simp only [List.getElem?_toArray, List.getElem?_cons_succ, List.getElem?_cons_zero]; rfl) (by decide +kernel) (by decide +kernel) (by decide +kernel) (by exact fun _ _ _ _ h => h) hS (by rfl) ?_
          apply Exists.intro
          refine ⟨fun w' hSw => ?_, ?_⟩
          · go_simp
            with_reducible rfl
          (try simp only [act_put, act_put_none, List.set_cons_zero, List.set_cons_succ])
          refine held_skip (i := 7) (by simp only [List.getElem?_toArray, List.getElem?_cons_succ, List.getElem?_cons_zero]; rfl) (by decide +kernel) (by decide +kernel) (by decide +kernel) (by exact fun _ _ _ _ h => h) hS (by rfl) ?_
          (try simp only [act_put, act_put_none, List.set_cons_zero, List.set_cons_succ])
          refine held_skip (i := 8) (by simp only [List.getElem?_toArray, List.getElem?_cons_succ, List.getElem?_cons_zero]; rfl) (by decide +kernel) (by decide +kernel) (by decide +kernel) (by exact fun _ _ _ _ h => h) hS (by rfl) ?_
          (try simp only [act_put, act_put_none, List.set_cons_zero, List.set_cons_succ])
          refine held_skip (i := 9) (by simp only [List.getElem?_toArray, List.getElem?_cons_succ, List.getElem?_cons_zero]; rfl) (by decide +kernel) (by decide +kernel) (by decide +kernel) (by exact fun _ _ _ _ h => h) hS (by rfl) ?_
          (try simp only [act_put, act_put_none, List.set_cons_zero, List.set_cons_succ])
          refine held_skip (i := 10) (by simp only [List.getElem?_toArray, List.getElem?_cons_succ, List.getElem?_cons_zero]; rfl) (by decide +kernel) (by decide +kernel) (by decide +kernel) (by exact fun _ _ _ _ h => h) hS (by rfl) ?_
          (try simp only [act_put, act_put_none, List.set_cons_zero, List.set_cons_succ])
          refine held_skip (i := 11) (by simp only [List.getElem?_toArray, List.getElem?_cons_succ, List.getElem?_cons_zero]; rfl) (by decide +kernel) (by decide +kernel) (by decide +kernel) (by exact fun _ _ _ _ h => h) hS (by rfl) ?_
          (try simp only [act_put, act_put_none, List.set_cons_zero, List.set_cons_succ])
          refine held_take (i := 12) (by simp only [List.getElem?_toArray, List.getElem?_cons_succ, List.getElem?_cons_zero]; rfl) (by decide +kernel) (by decide +kernel) (by decide +kernel) (by exact fun _ _ _ _ h => h) hS (by rfl) ?_
          apply Exists.intro
          refine ⟨fun w' hSw => ?_, ?_⟩
          · go_simp
            with_reducible rfl
          (try simp only [act_put, act_put_none, List.set_cons_zero, List.set_cons_succ])
          refine held_take (i := 13) (by simp only [List.getElem?_toArray, List.getElem?_cons_succ, List.getElem?_cons_zero]; rfl) (by decide +kernel) (by decide +kernel) (by decide +kernel) (by exact fun _ _ _ _ h => h) hS (by rfl) ?_
          apply Exists.intro
          refine ⟨fun w' hSw => ?_, ?_⟩
          · go_simp
            with_reducible rfl
          (try simp only [act_put, act_put_none, List.set_cons_zero, List.set_cons_succ])
          refine wpAnyH_done (by decide +kernel) ?_ _
          have HF := hS.2.2
          clear hS
          go_wp2_with fail
          go_ret
          exact ⟨by first | rfl | simp [*], HF.out⟩
        exact AllReadyH.nil
      exact AllReadyH.nil
    | true =>
      have hv : v = 1 ∨ v = 2 ∨ v = 3 := by simp only [isV, Bool.and_eq_true, decide_eq_true_eq] at eV; omega
      rcases hv with rfl | rfl | rfl
      · rw [show sayB 1 F = (decide (F.epoch = 0) && decide (F.hn = 0)) by simp [sayB, eR, eV, saysB]]
        go_enter Tryz.func65, Tryz.ntmps65
        go_upto_region 1 with fail
        refine wp_region_held_drew (S := fun w' : World => rowAt w' w.heap.size = some (F.cells, 58) ∧ FldOk w' F ∧ Hid (Below w.heap.size w w')) (by kernel_rfl) ⟨HR.out, HO.out, HB.out⟩ (fun hS => ?_)
        clear HR HO HB
        generalize HW7 : World.drew _ = W7 at *
        clear HW7
        refine held_take (i := 0) (by simp only [List.getElem?_toArray, List.getElem?_cons_succ, List.getElem?_cons_zero]; rfl) (by decide +kernel) (by decide +kernel) (by decide +kernel) (by exact fun _ _ _ _ h => h) hS (by rfl) ?_
        apply Exists.intro
        refine ⟨fun w' hSw => ?_, ?_⟩
        · obtain ⟨q_row, _, _⟩ := hSw
          go_simp
          with_reducible rfl
        (try simp only [act_put, act_put_none, List.set_cons_zero, List.set_cons_succ])
        refine wpAnyH_ready (rs := [1]) (by decide +kernel) (by simp) ?_
        refine AllReadyH.cons (i := 1) (by simp only [List.getElem?_toArray, List.getElem?_cons_succ, List.getElem?_cons_zero]; rfl) (fun K hK => ?_) ?_
        · go_simp
          go_at_call 33
          refine (fieldRight_at eR hS.2.1).mono ?_
          rintro e w1 ⟨rfl, hb⟩
          have HX := hb
          clear hb
          go_simp
          refine hK.out _ _ ⟨rowKeep HX hS.1, FldOk.below hS.2.1 HX, Lib.hid (bthen (Hid.out hS.2.2) HX)⟩ (fun hS2 => ?_)
          clear hS hK K
          have hS := hS2
          clear hS2
          clear HX
          (try simp only [act_put, act_put_none, List.set_cons_zero, List.set_cons_succ])
          refine held_take (i := 2) (by simp only [List.getElem?_toArray, List.getElem?_cons_succ, List.getElem?_cons_zero]; rfl) (by decide +kernel) (by decide +kernel) (by decide +kernel) (by exact fun _ _ _ _ h => h) hS (by rfl) ?_
          apply Exists.intro
          refine ⟨fun w' hSw => ?_, ?_⟩
          · go_simp
            with_reducible rfl
          (try simp only [act_put, act_put_none, List.set_cons_zero, List.set_cons_succ])
          refine held_take (i := 3) (by simp only [List.getElem?_toArray, List.getElem?_cons_succ, List.getElem?_cons_zero]; rfl) (by decide +kernel) (by decide +kernel) (by decide +kernel) (by exact fun _ _ _ _ h => h) hS (by rfl) ?_
          apply Exists.intro
          refine ⟨fun w' hSw => ?_, ?_⟩
          · go_simp
            with_reducible rfl
          (try simp only [act_put, act_put_none, List.set_cons_zero, List.set_cons_succ])
          refine wpAnyH_ready (rs := [4]) (by decide +kernel) (by simp) ?_
          refine AllReadyH.cons (i := 4) (by simp only [List.getElem?_toArray, List.getElem?_cons_succ, List.getElem?_cons_zero]; rfl) (fun K hK => ?_) ?_
          · go_simp
            go_at_call 72
            refine (wireIs_at eV _).mono ?_
            rintro e w2 ⟨rfl, hb⟩
            have HX := hb
            clear hb
            go_simp
            refine hK.out _ _ ⟨rowKeep HX hS.1, FldOk.below hS.2.1 HX, Lib.hid (bthen (Hid.out hS.2.2) HX)⟩ (fun hS2 => ?_)
            clear hS hK K
            have hS := hS2
            clear hS2
            clear HX
            (try simp only [act_put, act_put_none, List.set_cons_zero, List.set_cons_succ])
            refine held_take (i := 5) (by simp only [List.getElem?_toArray, List.getElem?_cons_succ, List.getElem?_cons_zero]; rfl) (by decide +kernel) (by decide +kernel) (by decide +kernel) (by exact fun _ _ _ _ h => h) hS (by rfl) ?_
            apply Exists.intro
            refine ⟨fun w' hSw => ?_, ?_⟩
            · go_simp
              with_reducible rfl
            (try simp only [act_put, act_put_none, List.set_cons_zero, List.set_cons_succ])
            refine held_take (i := 6) (by simp only [List.getElem?_toArray, List.getElem?_cons_succ, List.getElem?_cons_zero]; rfl) (by decide +kernel) (by decide +kernel) (by decide +kernel) (by exact fun _ _ _ _ h => h) hS (by rfl) ?_
            apply Exists.intro
            refine ⟨fun w' hSw => ?_, ?_⟩
            · go_simp
              with_reducible rfl
            (try simp only [act_put, act_put_none, List.set_cons_zero, List.set_cons_succ])
            refine held_take (i := 8) (by simp only [List.getElem?_toArray, List.getElem?_cons_succ, List.getElem?_cons_zero]; rfl) (by decide +kernel) (by decide +kernel) (by decide +kernel) (by exact fun _ _ _ _ h => h) hS (by rfl) ?_
            apply Exists.intro
            refine ⟨fun w' hSw => ?_, ?_⟩
            · go_simp
              with_reducible rfl
            (try simp only [act_put, act_put_none, List.set_cons_zero, List.set_cons_succ])
            refine held_take (i := 10) (by simp only [List.getElem?_toArray, List.getElem?_cons_succ, List.getElem?_cons_zero]; rfl) (by decide +kernel) (by decide +kernel) (by decide +kernel) (by exact fun _ _ _ _ h => h) hS (by rfl) ?_
            apply Exists.intro
            refine ⟨fun w' hSw => ?_, ?_⟩
            · obtain ⟨q_row, _, _⟩ := hSw
              go_simp
              with_reducible rfl
            (try simp only [act_put, act_put_none, List.set_cons_zero, List.set_cons_succ])
            refine wpAnyH_ready (rs := [7]) (by decide +kernel) (by simp) ?_
            refine AllReadyH.cons (i := 7) (by simp only [List.getElem?_toArray, List.getElem?_cons_succ, List.getElem?_cons_zero]; rfl) (fun K hK => ?_) ?_
            · go_simp
              go_at_call 90
              refine (says_any _).mono ?_
              rintro e w3 ⟨rfl, hw3⟩
              have HX : Below _ _ w3 := hw3 ▸ (Below.refl _ _).alloc (Nat.le_refl _) _
              have HM := Lib.hid (says_heap hw3)
              clear hw3
              go_simp
              refine hK.out _ _ ⟨rowKeep HX hS.1, FldOk.below hS.2.1 HX, Lib.hid (bthen (Hid.out hS.2.2) HX)⟩ (fun hS2 => ?_)
              clear hS hK K
              have hS := hS2
              clear hS2
              clear HX
              (try simp only [act_put, act_put_none, List.set_cons_zero, List.set_cons_succ])
              have hS := And.intro (HM) hS
              refine held_more (S2 := fun w' : World => Hid (w'.heap[w2.heap.size]? = some (Obj.map sayE 3)) ∧ rowAt w' w.heap.size = some (F.cells, 58) ∧ FldOk w' F ∧ Hid (Below w.heap.size w w')) (fun _ h => h.2) ?_
              refine wpAnyH_ready (rs := [9]) (by decide +kernel) (by simp) ?_
              refine AllReadyH.cons (i := 9) (by simp only [List.getElem?_toArray, List.getElem?_cons_succ, List.getElem?_cons_zero]; rfl) (fun K hK => ?_) ?_
              · have hlk := says_look1 (Hid.out (hS.1))
                go_simp
                refine hK.out _ _ hS (fun hS2 => ?_)
                clear hK K hS2 hlk
                (try simp only [act_put, act_put_none, List.set_cons_zero, List.set_cons_succ])
                refine wpAnyH_ready (rs := [11]) (by decide +kernel) (by simp) ?_
                refine AllReadyH.cons (i := 11) (by simp only [List.getElem?_toArray, List.getElem?_cons_succ, List.getElem?_cons_zero]; rfl) (fun K hK => ?_) ?_
                · go_simp
                  go_at_call 96
                  refine (says1_any F _).mono ?_
                  rintro e w4 ⟨rfl, hb⟩
                  have HX := hb
                  clear hb
                  go_simp
                  refine hK.out _ _ ⟨Lib.hid ((HX.block _ (map_lt (Hid.out hS.1))).trans (Hid.out hS.1)), rowKeep HX hS.2.1, FldOk.below hS.2.2.1 HX, Lib.hid (bthen (Hid.out hS.2.2.2) HX)⟩ (fun hS2 => ?_)
                  clear hS hK K
                  have hS := hS2
                  clear hS2
                  clear HX
                  (try simp only [act_put, act_put_none, List.set_cons_zero, List.set_cons_succ])
                  refine held_take (i := 12) (by simp only [List.getElem?_toArray, List.getElem?_cons_succ, List.getElem?_cons_zero]; rfl) (by decide +kernel) (by decide +kernel) (by decide +kernel) (by exact fun _ _ _ _ h => h) hS (by rfl) ?_
                  apply Exists.intro
                  refine ⟨fun w' hSw => ?_, ?_⟩
                  · go_simp
                    with_reducible rfl
                  (try simp only [act_put, act_put_none, List.set_cons_zero, List.set_cons_succ])
                  refine held_take (i := 13) (by simp only [List.getElem?_toArray, List.getElem?_cons_succ, List.getElem?_cons_zero]; rfl) (by decide +kernel) (by decide +kernel) (by decide +kernel) (by exact fun _ _ _ _ h => h) hS (by rfl) ?_
                  apply Exists.intro
                  refine ⟨fun w' hSw => ?_, ?_⟩
                  · go_simp
                    with_reducible rfl
                  (try simp only [act_put, act_put_none, List.set_cons_zero, List.set_cons_succ])
                  refine wpAnyH_done (by decide +kernel) ?_ _
                  have HF := hS.2.2.2
                  clear hS
                  go_wp2_with fail
                  go_ret
                  exact ⟨by first | rfl | simp [*], HF.out⟩
                exact AllReadyH.nil
              exact AllReadyH.nil
            exact AllReadyH.nil
          exact AllReadyH.nil
        exact AllReadyH.nil
      · rw [show sayB 2 F = decide (F.epoch = 0) by simp [sayB, eR, eV, saysB]]
        go_enter Tryz.func65, Tryz.ntmps65
        go_upto_region 1 with fail
        refine wp_region_held_drew (S := fun w' : World => rowAt w' w.heap.size = some (F.cells, 58) ∧ FldOk w' F ∧ Hid (Below w.heap.size w w')) (by kernel_rfl) ⟨HR.out, HO.out, HB.out⟩ (fun hS => ?_)
        clear HR HO HB
        generalize HW7 : World.drew _ = W7 at *
        clear HW7
        refine held_take (i := 0) (by simp only [List.getElem?_toArray, List.getElem?_cons_succ, List.getElem?_cons_zero]; rfl) (by decide +kernel) (by decide +kernel) (by decide +kernel) (by exact fun _ _ _ _ h => h) hS (by rfl) ?_
        apply Exists.intro
        refine ⟨fun w' hSw => ?_, ?_⟩
        · obtain ⟨q_row, _, _⟩ := hSw
          go_simp
          with_reducible rfl
        (try simp only [act_put, act_put_none, List.set_cons_zero, List.set_cons_succ])
        refine wpAnyH_ready (rs := [1]) (by decide +kernel) (by simp) ?_
        refine AllReadyH.cons (i := 1) (by simp only [List.getElem?_toArray, List.getElem?_cons_succ, List.getElem?_cons_zero]; rfl) (fun K hK => ?_) ?_
        · go_simp
          go_at_call 33
          refine (fieldRight_at eR hS.2.1).mono ?_
          rintro e w1 ⟨rfl, hb⟩
          have HX := hb
          clear hb
          go_simp
          refine hK.out _ _ ⟨rowKeep HX hS.1, FldOk.below hS.2.1 HX, Lib.hid (bthen (Hid.out hS.2.2) HX)⟩ (fun hS2 => ?_)
          clear hS hK K
          have hS := hS2
          clear hS2
          clear HX
          (try simp only [act_put, act_put_none, List.set_cons_zero, List.set_cons_succ])
          refine held_take (i := 2) (by simp only [List.getElem?_toArray, List.getElem?_cons_succ, List.getElem?_cons_zero]; rfl) (by decide +kernel) (by decide +kernel) (by decide +kernel) (by exact fun _ _ _ _ h => h) hS (by rfl) ?_
          apply Exists.intro
          refine ⟨fun w' hSw => ?_, ?_⟩
          · go_simp
            with_reducible rfl
          (try simp only [act_put, act_put_none, List.set_cons_zero, List.set_cons_succ])
          refine held_take (i := 3) (by simp only [List.getElem?_toArray, List.getElem?_cons_succ, List.getElem?_cons_zero]; rfl) (by decide +kernel) (by decide +kernel) (by decide +kernel) (by exact fun _ _ _ _ h => h) hS (by rfl) ?_
          apply Exists.intro
          refine ⟨fun w' hSw => ?_, ?_⟩
          · go_simp
            with_reducible rfl
          (try simp only [act_put, act_put_none, List.set_cons_zero, List.set_cons_succ])
          refine wpAnyH_ready (rs := [4]) (by decide +kernel) (by simp) ?_
          refine AllReadyH.cons (i := 4) (by simp only [List.getElem?_toArray, List.getElem?_cons_succ, List.getElem?_cons_zero]; rfl) (fun K hK => ?_) ?_
          · go_simp
            go_at_call 72
            refine (wireIs_at eV _).mono ?_
            rintro e w2 ⟨rfl, hb⟩
            have HX := hb
            clear hb
            go_simp
            refine hK.out _ _ ⟨rowKeep HX hS.1, FldOk.below hS.2.1 HX, Lib.hid (bthen (Hid.out hS.2.2) HX)⟩ (fun hS2 => ?_)
            clear hS hK K
            have hS := hS2
            clear hS2
            clear HX
            (try simp only [act_put, act_put_none, List.set_cons_zero, List.set_cons_succ])
            refine held_take (i := 5) (by simp only [List.getElem?_toArray, List.getElem?_cons_succ, List.getElem?_cons_zero]; rfl) (by decide +kernel) (by decide +kernel) (by decide +kernel) (by exact fun _ _ _ _ h => h) hS (by rfl) ?_
            apply Exists.intro
            refine ⟨fun w' hSw => ?_, ?_⟩
            · go_simp
              with_reducible rfl
            (try simp only [act_put, act_put_none, List.set_cons_zero, List.set_cons_succ])
            refine held_take (i := 6) (by simp only [List.getElem?_toArray, List.getElem?_cons_succ, List.getElem?_cons_zero]; rfl) (by decide +kernel) (by decide +kernel) (by decide +kernel) (by exact fun _ _ _ _ h => h) hS (by rfl) ?_
            apply Exists.intro
            refine ⟨fun w' hSw => ?_, ?_⟩
            · go_simp
              with_reducible rfl
            (try simp only [act_put, act_put_none, List.set_cons_zero, List.set_cons_succ])
            refine held_take (i := 8) (by simp only [List.getElem?_toArray, List.getElem?_cons_succ, List.getElem?_cons_zero]; rfl) (by decide +kernel) (by decide +kernel) (by decide +kernel) (by exact fun _ _ _ _ h => h) hS (by rfl) ?_
            apply Exists.intro
            refine ⟨fun w' hSw => ?_, ?_⟩
            · go_simp
              with_reducible rfl
            (try simp only [act_put, act_put_none, List.set_cons_zero, List.set_cons_succ])
            refine held_take (i := 10) (by simp only [List.getElem?_toArray, List.getElem?_cons_succ, List.getElem?_cons_zero]; rfl) (by decide +kernel) (by decide +kernel) (by decide +kernel) (by exact fun _ _ _ _ h => h) hS (by rfl) ?_
            apply Exists.intro
            refine ⟨fun w' hSw => ?_, ?_⟩
            · obtain ⟨q_row, _, _⟩ := hSw
              go_simp
              with_reducible rfl
            (try simp only [act_put, act_put_none, List.set_cons_zero, List.set_cons_succ])
            refine wpAnyH_ready (rs := [7]) (by decide +kernel) (by simp) ?_
            refine AllReadyH.cons (i := 7) (by simp only [List.getElem?_toArray, List.getElem?_cons_succ, List.getElem?_cons_zero]; rfl) (fun K hK => ?_) ?_
            · go_simp
              go_at_call 90
              refine (says_any _).mono ?_
              rintro e w3 ⟨rfl, hw3⟩
              have HX : Below _ _ w3 := hw3 ▸ (Below.refl _ _).alloc (Nat.le_refl _) _
              have HM := Lib.hid (says_heap hw3)
              clear hw3
              go_simp
              refine hK.out _ _ ⟨rowKeep HX hS.1, FldOk.below hS.2.1 HX, Lib.hid (bthen (Hid.out hS.2.2) HX)⟩ (fun hS2 => ?_)
              clear hS hK K
              have hS := hS2
              clear hS2
              clear HX
              (try simp only [act_put, act_put_none, List.set_cons_zero, List.set_cons_succ])
              have hS := And.intro (HM) hS
              refine held_more (S2 := fun w' : World => Hid (w'.heap[w2.heap.size]? = some (Obj.map sayE 3)) ∧ rowAt w' w.heap.size = some (F.cells, 58) ∧ FldOk w' F ∧ Hid (Below w.heap.size w w')) (fun _ h => h.2) ?_
              refine wpAnyH_ready (rs := [9]) (by decide +kernel) (by simp) ?_
              refine AllReadyH.cons (i := 9) (by simp only [List.getElem?_toArray, List.getElem?_cons_succ, List.getElem?_cons_zero]; rfl) (fun K hK => ?_) ?_
              · have hlk := says_look2 (Hid.out (hS.1))
                go_simp
                refine hK.out _ _ hS (fun hS2 => ?_)
                clear hK K hS2 hlk
                (try simp only [act_put, act_put_none, List.set_cons_zero, List.set_cons_succ])
                refine wpAnyH_ready (rs := [11]) (by decide +kernel) (by simp) ?_
                refine AllReadyH.cons (i := 11) (by simp only [List.getElem?_toArray, List.getElem?_cons_succ, List.getElem?_cons_zero]; rfl) (fun K hK => ?_) ?_
                · go_simp
                  go_at_call 97
                  refine (says2_any F _).mono ?_
                  rintro e w4 ⟨rfl, hb⟩
                  have HX := hb
                  clear hb
                  go_simp
                  refine hK.out _ _ ⟨Lib.hid ((HX.block _ (map_lt (Hid.out hS.1))).trans (Hid.out hS.1)), rowKeep HX hS.2.1, FldOk.below hS.2.2.1 HX, Lib.hid (bthen (Hid.out hS.2.2.2) HX)⟩ (fun hS2 => ?_)
                  clear hS hK K
                  have hS := hS2
                  clear hS2
                  clear HX
                  (try simp only [act_put, act_put_none, List.set_cons_zero, List.set_cons_succ])
                  refine held_take (i := 12) (by simp only [List.getElem?_toArray, List.getElem?_cons_succ, List.getElem?_cons_zero]; rfl) (by decide +kernel) (by decide +kernel) (by decide +kernel) (by exact fun _ _ _ _ h => h) hS (by rfl) ?_
                  apply Exists.intro
                  refine ⟨fun w' hSw => ?_, ?_⟩
                  · go_simp
                    with_reducible rfl
                  (try simp only [act_put, act_put_none, List.set_cons_zero, List.set_cons_succ])
                  refine held_take (i := 13) (by simp only [List.getElem?_toArray, List.getElem?_cons_succ, List.getElem?_cons_zero]; rfl) (by decide +kernel) (by decide +kernel) (by decide +kernel) (by exact fun _ _ _ _ h => h) hS (by rfl) ?_
                  apply Exists.intro
                  refine ⟨fun w' hSw => ?_, ?_⟩
                  · go_simp
                    with_reducible rfl
                  (try simp only [act_put, act_put_none, List.set_cons_zero, List.set_cons_succ])
                  refine wpAnyH_done (by decide +kernel) ?_ _
                  have HF := hS.2.2.2
                  clear hS
                  go_wp2_with fail
                  go_ret
                  exact ⟨by first | rfl | simp [*], HF.out⟩
                exact AllReadyH.nil
              exact AllReadyH.nil
            exact AllReadyH.nil
          exact AllReadyH.nil
        exact AllReadyH.nil
      · rw [show sayB 3 F = true by simp [sayB, eR, eV, saysB]]
        go_enter Tryz.func65, Tryz.ntmps65
        go_upto_region 1 with fail
        refine wp_region_held_drew (S := fun w' : World => rowAt w' w.heap.size = some (F.cells, 58) ∧ FldOk w' F ∧ Hid (Below w.heap.size w w')) (by kernel_rfl) ⟨HR.out, HO.out, HB.out⟩ (fun hS => ?_)
        clear HR HO HB
        generalize HW7 : World.drew _ = W7 at *
        clear HW7
        refine held_take (i := 0) (by simp only [List.getElem?_toArray, List.getElem?_cons_succ, List.getElem?_cons_zero]; rfl) (by decide +kernel) (by decide +kernel) (by decide +kernel) (by exact fun _ _ _ _ h => h) hS (by rfl) ?_
        apply Exists.intro
        refine ⟨fun w' hSw => ?_, ?_⟩
        · obtain ⟨q_row, _, _⟩ := hSw
          go_simp
          with_reducible rfl
        (try simp only [act_put, act_put_none, List.set_cons_zero, List.set_cons_succ])
        refine wpAnyH_ready (rs := [1]) (by decide +kernel) (by simp) ?_
        refine AllReadyH.cons (i := 1) (by simp only [List.getElem?_toArray, List.getElem?_cons_succ, List.getElem?_cons_zero]; rfl) (fun K hK => ?_) ?_
        · go_simp
          go_at_call 33
          refine (fieldRight_at eR hS.2.1).mono ?_
          rintro e w1 ⟨rfl, hb⟩
          have HX := hb
          clear hb
          go_simp
          refine hK.out _ _ ⟨rowKeep HX hS.1, FldOk.below hS.2.1 HX, Lib.hid (bthen (Hid.out hS.2.2) HX)⟩ (fun hS2 => ?_)
          clear hS hK K
          have hS := hS2
          clear hS2
          clear HX
          (try simp only [act_put, act_put_none, List.set_cons_zero, List.set_cons_succ])
          refine held_take (i := 2) (by simp only [List.getElem?_toArray, List.getElem?_cons_succ, List.getElem?_cons_zero]; rfl) (by decide +kernel) (by decide +kernel) (by decide +kernel) (by exact fun _ _ _ _ h => h) hS (by rfl) ?_
          apply Exists.intro
          refine ⟨fun w' hSw => ?_, ?_⟩
          · go_simp
            with_reducible rfl
          (try simp only [act_put, act_put_none, List.set_cons_zero, List.set_cons_succ])
          refine held_take (i := 3) (by simp only [List.getElem?_toArray, List.getElem?_cons_succ, List.getElem?_cons_zero]; rfl) (by decide +kernel) (by decide +kernel) (by decide +kernel) (by exact fun _ _ _ _ h => h) hS (by rfl) ?_
          apply Exists.intro
          refine ⟨fun w' hSw => ?_, ?_⟩
          · go_simp
            with_reducible rfl
          (try simp only [act_put, act_put_none, List.set_cons_zero, List.set_cons_succ])
          refine wpAnyH_ready (rs := [4]) (by decide +kernel) (by simp) ?_
          refine AllReadyH.cons (i := 4) (by simp only [List.getElem?_toArray, List.getElem?_cons_succ, List.getElem?_cons_zero]; rfl) (fun K hK => ?_) ?_
          · go_simp
            go_at_call 72
            refine (wireIs_at eV _).mono ?_
            rintro e w2 ⟨rfl, hb⟩
            have HX := hb
            clear hb
            go_simp
            refine hK.out _ _ ⟨rowKeep HX hS.1, FldOk.below hS.2.1 HX, Lib.hid (bthen (Hid.out hS.2.2) HX)⟩ (fun hS2 => ?_)
            clear hS hK K
            have hS := hS2
            clear hS2
            clear HX
            (try simp only [act_put, act_put_none, List.set_cons_zero, List.set_cons_succ])
            refine held_take (i := 5) (by simp only [List.getElem?_toArray, List.getElem?_cons_succ, List.getElem?_cons_zero]; rfl) (by decide +kernel) (by decide +kernel) (by decide +kernel) (by exact fun _ _ _ _ h => h) hS (by rfl) ?_
            apply Exists.intro
            refine ⟨fun w' hSw => ?_, ?_⟩
            · go_simp
              with_reducible rfl
            (try simp only [act_put, act_put_none, List.set_cons_zero, List.set_cons_succ])
            refine held_take (i := 6) (by simp only [List.getElem?_toArray, List.getElem?_cons_succ, List.getElem?_cons_zero]; rfl) (by decide +kernel) (by decide +kernel) (by decide +kernel) (by exact fun _ _ _ _ h => h) hS (by rfl) ?_
            apply Exists.intro
            refine ⟨fun w' hSw => ?_, ?_⟩
            · go_simp
              with_reducible rfl
            (try simp only [act_put, act_put_none, List.set_cons_zero, List.set_cons_succ])
            refine held_take (i := 8) (by simp only [List.getElem?_toArray, List.getElem?_cons_succ, List.getElem?_cons_zero]; rfl) (by decide +kernel) (by decide +kernel) (by decide +kernel) (by exact fun _ _ _ _ h => h) hS (by rfl) ?_
            apply Exists.intro
            refine ⟨fun w' hSw => ?_, ?_⟩
            · go_simp
              with_reducible rfl
            (try simp only [act_put, act_put_none, List.set_cons_zero, List.set_cons_succ])
            refine held_take (i := 10) (by simp only [List.getElem?_toArray, List.getElem?_cons_succ, List.getElem?_cons_zero]; rfl) (by decide +kernel) (by decide +kernel) (by decide +kernel) (by exact fun _ _ _ _ h => h) hS (by rfl) ?_
            apply Exists.intro
            refine ⟨fun w' hSw => ?_, ?_⟩
            · obtain ⟨q_row, _, _⟩ := hSw
              go_simp
              with_reducible rfl
            (try simp only [act_put, act_put_none, List.set_cons_zero, List.set_cons_succ])
            refine wpAnyH_ready (rs := [7]) (by decide +kernel) (by simp) ?_
            refine AllReadyH.cons (i := 7) (by simp only [List.getElem?_toArray, List.getElem?_cons_succ, List.getElem?_cons_zero]; rfl) (fun K hK => ?_) ?_
            · go_simp
              go_at_call 90
              refine (says_any _).mono ?_
              rintro e w3 ⟨rfl, hw3⟩
              have HX : Below _ _ w3 := hw3 ▸ (Below.refl _ _).alloc (Nat.le_refl _) _
              have HM := Lib.hid (says_heap hw3)
              clear hw3
              go_simp
              refine hK.out _ _ ⟨rowKeep HX hS.1, FldOk.below hS.2.1 HX, Lib.hid (bthen (Hid.out hS.2.2) HX)⟩ (fun hS2 => ?_)
              clear hS hK K
              have hS := hS2
              clear hS2
              clear HX
              (try simp only [act_put, act_put_none, List.set_cons_zero, List.set_cons_succ])
              have hS := And.intro (HM) hS
              refine held_more (S2 := fun w' : World => Hid (w'.heap[w2.heap.size]? = some (Obj.map sayE 3)) ∧ rowAt w' w.heap.size = some (F.cells, 58) ∧ FldOk w' F ∧ Hid (Below w.heap.size w w')) (fun _ h => h.2) ?_
              refine wpAnyH_ready (rs := [9]) (by decide +kernel) (by simp) ?_
              refine AllReadyH.cons (i := 9) (by simp only [List.getElem?_toArray, List.getElem?_cons_succ, List.getElem?_cons_zero]; rfl) (fun K hK => ?_) ?_
              · have hlk := says_look3 (Hid.out (hS.1))
                go_simp
                refine hK.out _ _ hS (fun hS2 => ?_)
                clear hK K hS2 hlk
                (try simp only [act_put, act_put_none, List.set_cons_zero, List.set_cons_succ])
                refine wpAnyH_ready (rs := [11]) (by decide +kernel) (by simp) ?_
                refine AllReadyH.cons (i := 11) (by simp only [List.getElem?_toArray, List.getElem?_cons_succ, List.getElem?_cons_zero]; rfl) (fun K hK => ?_) ?_
                · go_simp
                  go_at_call 98
                  refine (says3_any F _).mono ?_
                  rintro e w4 ⟨rfl, hb⟩
                  have HX := hb
                  clear hb
                  go_simp
                  refine hK.out _ _ ⟨Lib.hid ((HX.block _ (map_lt (Hid.out hS.1))).trans (Hid.out hS.1)), rowKeep HX hS.2.1, FldOk.below hS.2.2.1 HX, Lib.hid (bthen (Hid.out hS.2.2.2) HX)⟩ (fun hS2 => ?_)
                  clear hS hK K
                  have hS := hS2
                  clear hS2
                  clear HX
                  (try simp only [act_put, act_put_none, List.set_cons_zero, List.set_cons_succ])
                  refine held_take (i := 12) (by simp only [List.getElem?_toArray, List.getElem?_cons_succ, List.getElem?_cons_zero]; rfl) (by decide +kernel) (by decide +kernel) (by decide +kernel) (by exact fun _ _ _ _ h => h) hS (by rfl) ?_
                  apply Exists.intro
                  refine ⟨fun w' hSw => ?_, ?_⟩
                  · go_simp
                    with_reducible rfl
                  (try simp only [act_put, act_put_none, List.set_cons_zero, List.set_cons_succ])
                  refine held_take (i := 13) (by simp only [List.getElem?_toArray, List.getElem?_cons_succ, List.getElem?_cons_zero]; rfl) (by decide +kernel) (by decide +kernel) (by decide +kernel) (by exact fun _ _ _ _ h => h) hS (by rfl) ?_
                  apply Exists.intro
                  refine ⟨fun w' hSw => ?_, ?_⟩
                  · go_simp
                    with_reducible rfl
                  (try simp only [act_put, act_put_none, List.set_cons_zero, List.set_cons_succ])
                  refine wpAnyH_done (by decide +kernel) ?_ _
                  have HF := hS.2.2.2
                  clear hS
                  go_wp2_with fail
                  go_ret
                  exact ⟨by first | rfl | simp [*], HF.out⟩
                exact AllReadyH.nil
              exact AllReadyH.nil
            exact AllReadyH.nil
          exact AllReadyH.nil
        exact AllReadyH.nil
--SAYS
end Go.Proofs.YtinhaipnmmgplaaGreat
