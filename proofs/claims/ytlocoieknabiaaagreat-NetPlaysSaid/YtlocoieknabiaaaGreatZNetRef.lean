/-
  Layer 15 (net): what the operations of the reference do.
-/
import Derived.Test.YtlocoieknabiaaaGreatZDos15
import Derived.Test.YtlocoieknabiaaaGreatZGV
import Derived.Test.YtlocoieknabiaaaGreatZHeldR
namespace Go.Proofs.YtlocoieknabiaaaGreat
set_option maxRecDepth 20000
open Go.RowKit
set_option linter.unusedSimpArgs false
set_option linter.unusedVariables false
attribute [local go_sem] rowCells rowAt_drewN rowAt_alloc rowAt_drew setRow_alloc setRow_drewN setRow_drew setCell_alloc setCell_drewN rowAt_setRow rowAt_setCell Later.cell Later.frozen
attribute [local go_sem ↓] xload_msg xstore_msg xalloc_msg xbuildS_msg xbuild_msg0 xload_do xstore_do xalloc_do xload_rnet xstore_rnet xalloc_rnet
attribute [local go_sem] load_msg load_msg_later store_msg Msg.size Msg.cut_all Msg.splice_all buildSM_agg load_do store_do doC_size doC_all doC_splice doC_cut doC_get0 doC_get1 doC_getE0 doC_getE1 load_rnet store_rnet rnC_size rnC_all rnC_splice load_msg_at rnC_get0 rnC_get1 rnC_get2 rnC_get3 rnC_get4 rnC_get5 rnC_getE0 rnC_getE1 rnC_getE2 rnC_getE3 rnC_getE4 rnC_getE5 rnC_set1 rnC_set2 rnC_set3 rnC_set4 rnC_set5

theorem infoM : ∃ i, Tryz.prog.info? 34 = some i ∧ i.zero = some (.agg msg0.cells) ∧ i.size = 12 ∧ i.bytes = 128 := by
  have h := info_msg
  cases hi : Tryz.prog.info? 34 with
  | none => rw [hi] at h; cases h
  | some i =>
    rw [hi] at h
    injection h with h
    injection h with h1 h2
    injection h2 with h2 h3
    exact ⟨i, rfl, h1, h2, h3⟩
theorem msgs_slice_to {ops : Array Oper} {rest : List Oper} {o : Oper} {a : Act} {w : World} {Q : Exit → Act → World → Prop} (hgd : o.guard = none) (x y : Operand)
    (ho : o.op = .slice 27 x none (some y) none) (A : Option Addr) (n c k : Nat) (hx : a.eval x = .slice A n c) (hy : a.eval y = .int .i64 k) (hk : k ≤ c)
    (h : wpList Tryz.prog ops Q rest (a.put o.dst (.slice A k c)) w) : wpList Tryz.prog ops Q (o :: rest) a w := by
  refine wpList_plain hgd fun K hK => ?_
  obtain ⟨i0, hi, _, _, _⟩ := infoM
  unfold Oper.wp execOp
  have e : (A.map fun x => x.add 0) = A := by cases A <;> simp [Addr.add]
  simp [ho, hx, hy, Instr.sliceAt, Instr.slice, Sem.run_bind, run_underlying Tryz.underlying27, Instr.sliceBounds, Instr.sliceBound, asIntOf, hk, sizeOf, typeInfo, hi, e]
  exact hK _ _ h
theorem msgs_slice_from {ops : Array Oper} {rest : List Oper} {o : Oper} {a : Act} {w : World} {Q : Exit → Act → World → Prop} (hgd : o.guard = none) (x y : Operand)
    (ho : o.op = .slice 27 x (some y) none none) (A : Option Addr) (n c k : Nat) (hx : a.eval x = .slice A n c) (hy : a.eval y = .int .i64 k) (hk : k ≤ n)
    (h : ∀ A', (k < c → A' = A.map (·.add (k * 12))) → (A' = none → A = none) → wpList Tryz.prog ops Q rest (a.put o.dst (.slice A' (n - k) (c - k))) w) : wpList Tryz.prog ops Q (o :: rest) a w := by
  refine wpList_plain hgd fun K hK => ?_
  obtain ⟨i0, hi, _, hz1, _⟩ := infoM
  unfold Oper.wp execOp
  simp [ho, hx, hy, Instr.sliceAt, Instr.slice, Sem.run_bind, run_underlying Tryz.underlying27, Instr.sliceBounds, Instr.sliceBound, asIntOf, hk, sizeOf, typeInfo, hi, hz1]
  exact hK _ _ (h (if c = k then A else A.map (·.add (k * 12))) (fun hlt => by rw [if_neg (by omega)]) (fun h0 => by split at h0 <;> simp_all))
theorem wp_append_msgs {o : Oper} {a : Act} {w : World} {K : Act → World → Prop} {Q : Exit → Act → World → Prop} (s x : Operand)
    (ho : o.op = .call { callee := .builtin .append, args := #[s, x], argTypes := #[27, 27] }) {base n : Nat} {v : Value} {xs : List Value} (hs : a.eval s = v) (hown : w.ownsRow base 34 12 v n xs)
    (A : Option Addr) (m c : Nat) (S : List Msg) (hx : a.eval x = .slice A m c) (hm : S.length = m) (hA : A = none → c = 0 ∧ m = 0) (hcell : ∀ j u, (msgV S)[j]? = some u → ∃ b o, A = some ⟨b, o, none⟩ ∧ w.cell? ⟨b, o + j, none⟩ = some u)
    (hlen : n + m ≤ 1000000) (hbase : base ≤ w.heap.size)
    (h : ∀ v' w', w'.ownsRow base 34 12 v' (n + m) (xs ++ msgV S) → Below base w w' → w.grownBy w' v.ownBlock → K (a.put o.dst v') w') : o.wp Tryz.prog a w K Q := by
  obtain ⟨i0, hi0, hz0, hz1, hz2⟩ := infoM
  cases A with
  | none =>
    obtain ⟨rfl, rfl⟩ := hA rfl
    have hS : S = [] := List.eq_nil_of_length_eq_zero hm
    subst hS
    have hrun := run_append_owned_none (P := Tryz.prog) (w := w) base 27 o.type 34 i0 12 Tryz.underlying27 hi0 v n xs hown
    unfold Oper.wp
    simp [execOp, ho, resolve, invoke, builtin, hs, hx, hrun, Result.andThen]
    exact h v w (by simpa [msgV] using hown) (Below.refl _ _) ⟨rfl, rfl, rfl, Nat.le_refl _, fun _ _ _ => rfl⟩
  | some ad =>
    refine wp_append_own w s x _ ho base 34 i0 (.agg msg0.cells) 12 128 Tryz.underlying27 hi0 hz0 hz1 hz2 (Msg.size _) (by decide) v _ _ hs hown ad m c (msgV S) hx (by rw [msgV_len, hm]) (fun j u hu => ?_) (msgV_one' S) (by unfold maxLen; omega) (by omega) hbase fun v' w' h2 h3 _ => h v' w' h2 (own_grown hown hbase h3) h3
    obtain ⟨b, off, h2, h3⟩ := hcell j u hu
    injection h2 with h2
    subst h2
    rw [Addr.add_lit, h3]
theorem wl_append_msgs {ops : Array Oper} {rest : List Oper} {o : Oper} {a : Act} {w : World} {Q : Exit → Act → World → Prop} (hgd : o.guard = none) (s x : Operand)
    (ho : o.op = .call { callee := .builtin .append, args := #[s, x], argTypes := #[27, 27] }) {base n : Nat} {v : Value} {xs : List Value} (hs : a.eval s = v) (hown : w.ownsRow base 34 12 v n xs)
    (A : Option Addr) (m c : Nat) (S : List Msg) (hx : a.eval x = .slice A m c) (hm : S.length = m) (hA : A = none → c = 0 ∧ m = 0) (hcell : ∀ j u, (msgV S)[j]? = some u → ∃ b o, A = some ⟨b, o, none⟩ ∧ w.cell? ⟨b, o + j, none⟩ = some u)
    (hlen : n + m ≤ 1000000) (hbase : base ≤ w.heap.size)
    (h : ∀ v' w', w'.ownsRow base 34 12 v' (n + m) (xs ++ msgV S) → Below base w w' → wpList Tryz.prog ops Q rest (a.put o.dst v') w') : wpList Tryz.prog ops Q (o :: rest) a w :=
  wpList_plain hgd fun K hK => wp_append_msgs s x ho hs hown A m c S hx hm hA hcell hlen hbase fun v' w' h1 h2 _ => hK _ _ (h v' w' h1 h2)
/-- A row without cells, just laid. -/
theorem own_row0 (w : World) {B g : Nat} (hB : B ≤ w.heap.size) (hg : g = w.heap.size) : (w.alloc (.cells #[] 34)).ownsRow B 34 12 (.slice (some ⟨g, 0, none⟩) 0 0) 0 [] := by
  subst hg
  exact ⟨rfl, .inr ⟨w.heap.size, 0, #[], rfl, hB, rowAt_iff.1 (rowAt_alloc_at _ _ _ _ rfl), Nat.le_refl _, by decide, rfl, rfl⟩⟩
/-- Cells of a row of messages, from the k-th on. -/
theorem own_cells {w : World} {B n c : Nat} {a : Option Addr} {S : List Msg} (h : w.ownsRow B 34 12 (.slice a n c) S.length (msgV S)) : n = S.length ∧ n ≤ c ∧ (a = none → c = 0 ∧ n = 0) ∧ ∀ j u, (msgV S)[j]? = some u → ∃ b, a = some ⟨b, 0, none⟩ ∧ w.cell? ⟨b, j, none⟩ = some u := by
  obtain ⟨a', cap, e, h1, h2, h3, h4, h5⟩ := own_open h (by decide)
  injection e with e1 e2 e3
  subst e1 e2 e3
  exact ⟨rfl, h2, h1, h5⟩
theorem load_of_own {w : World} {B c k : Nat} {S : List Msg} {mk : Msg} {gb : Nat} (h : w.ownsRow B 34 12 (.slice (some ⟨gb, 0, none⟩) S.length c) S.length (msgV S)) (hm : S.getD k msg0 = mk) (hk : k < S.length) :
    loadAgg Tryz.prog w 34 (.pointer (some ⟨gb, k * 12, none⟩)) = .ok (.value (.agg mk.cells)) w := by
  obtain ⟨g, e, _, _, hl⟩ := own_msg' h hk
  injection e with e
  injection e with e
  subst e
  rw [← hm]
  exact hl
theorem msgV_take (S : List Msg) (k : Nat) {j : Nat} {u : Value} (h : (msgV (S.take k))[j]? = some u) : (msgV S)[j]? = some u := by
  have e : msgV S = msgV (S.take k) ++ msgV (S.drop k) := by rw [← msgV_app, List.take_append_drop]
  rw [e, List.getElem?_append_left (List.getElem?_eq_some_iff.1 h).1]
  exact h
theorem msgV_drop (S : List Msg) {k : Nat} (hk : k ≤ S.length) {j : Nat} {u : Value} (h : (msgV (S.drop k))[j]? = some u) : (msgV S)[k * 12 + j]? = some u := by
  have e : msgV S = msgV (S.take k) ++ msgV (S.drop k) := by rw [← msgV_app, List.take_append_drop]
  have l : (msgV (S.take k)).length = k * 12 := by rw [msgV_len, List.length_take]; congr 1; omega
  rw [e, List.getElem?_append_right (by omega), l, Nat.add_sub_cancel_left]
  exact h

def withoutM (S : List Msg) (k : Nat) : List Msg := S.take k ++ S.drop (k + 1)
theorem psOf_without (S : List Msg) (k : Nat) : psOf (withoutM S k) = without (psOf S) k := by
  unfold withoutM without psOf
  rw [List.map_append, List.map_take, List.map_drop]
theorem withoutM_len {S : List Msg} {k : Nat} (hk : k < S.length) : (withoutM S k).length = S.length - 1 := by
  unfold withoutM
  rw [List.length_append, List.length_take, List.length_drop]
  omega
theorem withoutM_mem {S : List Msg} {k : Nat} {m : Msg} (h : m ∈ withoutM S k) : m ∈ S := by
  rcases List.mem_append.1 h with h | h
  · exact List.mem_of_mem_take h
  · exact List.mem_of_mem_drop h
set_option maxHeartbeats 4000000 in
theorem without_ok (S : List Msg) (k : Nat) {w : World} {B c : Nat} {a : Option Addr} (h : w.ownsRow B 34 12 (.slice a S.length c) S.length (msgV S)) (hk : k < S.length) (hlen : S.length ≤ 100000) :
    Calls Tryz.prog 24 #[.slice a S.length c, .int .i64 (k : Int)] w fun e w' => ∃ a' c', e = .returned (.slice a' (S.length - 1) c') ∧ w'.ownsRow w.heap.size 34 12 (.slice a' (S.length - 1) c') (withoutM S k).length (msgV (withoutM S k)) ∧ Below w.heap.size w w' := by
  obtain ⟨_, hc, hA, hcell⟩ := own_cells h
  have HC := Lib.hid hcell
  have HA := Lib.hid hA
  clear h hcell hA
  go_enter Tryz.func24, Tryz.ntmps24
  have hkc : k ≤ c := by omega
  go_wp2_with (at_builtin; refine wl_append_msgs rfl _ _ rfl (base := w.heap.size) rfl (own_row0 w (Nat.le_refl _) rfl) a k c (S.take k) rfl (by rw [List.length_take]; omega) (fun e => absurd (HA.out e).2 (by omega)) ?c1 (by omega) (by simp) ?_)
  case c1 =>
    intro j u hu
    obtain ⟨b, e, hcc⟩ := HC.out j u (msgV_take S k hu)
    exact ⟨b, 0, e, by rw [Nat.zero_add]; exact (((Below.refl w.heap.size w).alloc (Nat.le_refl _) _).cell (World.block_lt_of_cell? _ _ hcc)).trans hcc⟩
  intro v1 w1 hown hb
  have HB1 := Lib.hid (((Below.refl w.heap.size w).alloc (Nat.le_refl _) _).trans hb)
  have HO1 := Lib.hid hown
  have HC1 : Hid (∀ j u, (msgV S)[j]? = some u → ∃ b, a = some ⟨b, 0, none⟩ ∧ w1.cell? ⟨b, j, none⟩ = some u) := Lib.hid fun j u hu => by
    obtain ⟨b, e, hcc⟩ := HC.out j u hu
    exact ⟨b, e, (HB1.out.cell (World.block_lt_of_cell? _ _ hcc)).trans hcc⟩
  have hz1 := HB1.out.size
  clear hown hb HC
  go_wp2_with (refine msgs_slice_from rfl _ _ rfl a S.length c (k + 1) rfl ?y1 (by omega) ?_)
  case y1 => go_num
  intro A' hA1 hA2
  have HA1 := Lib.hid hA1
  have HA2 := Lib.hid hA2
  clear hA1 hA2
  go_wp2_with (at_builtin; refine wl_append_msgs rfl _ _ rfl (base := w.heap.size) rfl HO1.out A' (S.length - (k + 1)) (c - (k + 1)) (S.drop (k + 1)) rfl (by rw [List.length_drop]) (fun e => absurd (HA.out (HA2.out e)).2 (by omega)) ?c2 (by omega) hz1 ?_)
  case c2 =>
    intro j u hu
    have hl := (List.getElem?_eq_some_iff.1 hu).1
    rw [msgV_len, List.length_drop] at hl
    obtain ⟨b, e, hcc⟩ := HC1.out _ u (msgV_drop S (by omega) hu)
    refine ⟨b, (k + 1) * 12, ?_, hcc⟩
    rw [HA1.out (by omega), e]
    simp [Addr.add]
  intro v2 w2 hown hb
  have hl : (k + (S.length - (k + 1))) = S.length - 1 := by omega
  rw [← msgV_app, hl] at hown
  obtain ⟨a', c', rfl⟩ : ∃ a' c', v2 = .slice a' (S.length - 1) c' := by
    obtain ⟨a', c', e, _⟩ := own_open hown (by decide)
    exact ⟨a', c', e⟩
  have HO2 : Hid (w2.ownsRow w.heap.size 34 12 (.slice a' (S.length - 1) c') (withoutM S k).length (msgV (withoutM S k))) := Lib.hid (by rw [withoutM_len hk]; exact hown)
  have HB2 := Lib.hid (HB1.out.trans hb)
  clear hown hb HO1 HC1
  go_wp2_with fail
  go_ret
  exact ⟨a', c', rfl, HO2.out, HB2.out⟩

section
variable {P : Program} {fn : Func} {R : Ending → World → Prop} {a : Act} {w : World}
theorem ret_two {p q r : Tmp} {ty ty2 : TypeId} {ad ad2 : Addr} {v u s : Value} (hres : fn.results = #[.cell p ty, .cell q ty2, .tmp r]) (hp : a.tmps.getD p undef = .pointer (some ad)) (hq : a.tmps.getD q undef = .pointer (some ad2)) (hr : a.tmps.getD r undef = s) (hd : a.defers = [])
    (hl : loadAgg P w ty (.pointer (some ad)) = .ok (.value v) w) (hl2 : loadAgg P w ty2 (.pointer (some ad2)) = .ok (.value u) w) (hR : R (.returned (.tuple #[v, u, s])) w) : bodyPost P fn R .ret a w := by
  have hp' : a.tmps[p]?.getD undef = .pointer (some ad) := by simpa using hp
  have hq' : a.tmps[q]?.getD undef = .pointer (some ad2) := by simpa using hq
  have hr' : a.tmps[r]?.getD undef = s := by simpa using hr
  exact bodyPost_ret (by simp [results, hres, hp', hq', hr', asAddr, loadVar_of_loadAgg hl, loadVar_of_loadAgg hl2]) hd hR
end
theorem onlyRow {p : Nat} {w : World} (cs : Array Value) : Only p w (w.setRow p cs) :=
  ⟨by rw [setRow_size]; exact Nat.le_refl _, below_setRow' (Below.refl _ _) (Nat.le_refl _) _, fun g h1 _ => setRow_other w p g cs h1⟩
/-- A slot of a net's row that lies ahead of base. -/
theorem own_setCell {w : World} {B n p i : Nat} {v x : Value} {xs : List Value} (h : w.ownsRow B 34 12 v n xs) (hp : p < B) : (w.setCell ⟨p, i, none⟩ x).ownsRow B 34 12 v n xs := own_keep h (Only.setCell (i := i) x) hp
theorem own_setRow {w : World} {B n p : Nat} {v : Value} {xs : List Value} (h : w.ownsRow B 34 12 v n xs) (hp : p < B) (cs : Array Value) : (w.setRow p cs).ownsRow B 34 12 v n xs := own_keep h (onlyRow cs) hp
set_option maxHeartbeats 2000000 in
theorem rlose_none {room s c l d : Int} {a : Option Addr} {n cap : Nat} {k : Int} (w : World) (hk : k < 0 ∨ (n : Int) ≤ k) :
    Calls Tryz.prog 12 #[.agg (rnC room a n cap s c l d), .int .i64 k] w fun e w' => e = .returned (.tuple #[.agg (rnC room a n cap s c l d), .int .i64 10]) ∧ Below w.heap.size w w' := by
  by_cases h0 : k < 0
  · have g0 : decide (k < 0) = true := decide_eq_true h0
    clear hk h0
    go_enter Tryz.func12, Tryz.ntmps12
    go_wp2_with fail
    refine ret_ct (u := .int .i64 10) (by rfl) (by with_unfolding_all rfl) (by with_unfolding_all rfl) (by rfl) (load_rnet_row (rowAt_alloc_at _ _ _ _ (by simp))) ?_
    exact ⟨rfl, below_allocS (below_allocS (Below.refl _ _) _) _⟩
  · have g0 : decide (k < 0) = false := decide_eq_false h0
    have g1 : decide ((n : Int) ≤ k) = true := decide_eq_true (by omega)
    clear hk h0
    go_enter Tryz.func12, Tryz.ntmps12
    go_wp2_with fail
    refine ret_ct (u := .int .i64 10) (by rfl) (by with_unfolding_all rfl) (by with_unfolding_all rfl) (by rfl) (load_rnet_row (rowAt_alloc_at _ _ _ _ (by simp))) ?_
    exact ⟨rfl, below_allocS (below_allocS (Below.refl _ _) _) _⟩
set_option maxHeartbeats 4000000 in
theorem rlose_ok (S : List Msg) {room s c l d : Int} {a : Option Addr} {cap B k : Nat} {w : World} (h : w.ownsRow B 34 12 (.slice a S.length cap) S.length (msgV S)) (hk : k < S.length) (hlen : S.length ≤ 100000) (hl : 0 ≤ l ∧ l ≤ 1000000) :
    Calls Tryz.prog 12 #[.agg (rnC room a S.length cap s c l d), .int .i64 (k : Int)] w fun e w' => ∃ a' c', e = .returned (.tuple #[.agg (rnC room a' (S.length - 1) c' s c (l + 1) d), .int .i64 0]) ∧ w'.ownsRow w.heap.size 34 12 (.slice a' (S.length - 1) c') (withoutM S k).length (msgV (withoutM S k)) ∧ Below w.heap.size w w' := by
  have HO := Lib.hid h
  clear h
  have g0 : decide ((k : Int) < 0) = false := decide_eq_false (by omega)
  have g1 : decide ((S.length : Int) ≤ (k : Int)) = false := decide_eq_false (by omega)
  go_enter Tryz.func12, Tryz.ntmps12
  go_wp2_with fail
  refine (without_ok S k (own_below HO.out (below_allocS (below_allocS (Below.refl _ _) _) _)) hk hlen).mono ?_
  rintro e w1 ⟨a', c', rfl, hown, hb⟩
  have r1 : rowAt w1 w.heap.size = some (rnC room a S.length cap s c l d, 29) := rowKeep hb (rowPast (rowAt_alloc_at _ _ _ _ rfl))
  have r2 : rowAt w1 (w.heap.size + 1) = some (rnC 0 none 0 0 0 0 0 0, 29) := rowKeep hb (rowAt_alloc_at _ _ _ _ (by simp))
  have HB1 := Lib.hid (bthen (below_allocS (below_allocS (Below.refl w.heap.size w) _) _) hb)
  have HO1 : Hid (w1.ownsRow (w.heap.size + 2) 34 12 (.slice a' (S.length - 1) c') (withoutM S k).length (msgV (withoutM S k))) := Lib.hid (by simpa using hown)
  have n1 := rowAt_lt r1
  have n2 := rowAt_lt r2
  have hz := fun i => cell_of_rowAt r1 i
  have fz := frozen_of_rowAt r1
  clear hown hb HO
  go_wp2_with fail
  have rr : rowAt ((w1.setCell ⟨w.heap.size, 1, none⟩ (.slice a' (S.length - 1) c')).setCell ⟨w.heap.size, 4, none⟩ (.int .i64 (l + 1))) (w.heap.size + 1) = some (rnC 0 none 0 0 0 0 0 0, 29) := by
    rw [rowAt_setCell_other _ _ _ _ (by simp), rowAt_setCell_other _ _ _ _ (by simp)]
    exact r2
  refine ret_ct (u := .int .i64 0) (by rfl) (by with_unfolding_all rfl) (by with_unfolding_all rfl) (by rfl) (load_rnet_row (rowAt_setRow_same _ rr)) ?_
  refine ⟨a', c', rfl, own_mono (own_setRow (own_setCell (own_setCell HO1.out (by omega)) (by omega)) (by omega) _) (by omega), below_setRow' (below_setCell' (below_setCell' HB1.out (Nat.le_refl _)) (Nat.le_refl _)) (by omega) _⟩
end Go.Proofs.YtlocoieknabiaaaGreat
