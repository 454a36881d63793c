/-
  All states joined, and all of them in one slice; what holds of what Play leaves.
-/
import Derived.Test.YtpicfjlcepfneaaPlayWalk
import Derived.Test.YtpicfjlcepfneaaRVecs
import Derived.Test.YtpicfjlcepfneaaHeld
import Derived.ArgAppend
namespace Go.Proofs.Ytpicfjlcepfneaa
open Go.RowKit
set_option linter.unusedSimpArgs false
attribute [local go_sem] rowCells rowAt_drewN get_ints getE_ints set_ints size_ints rowAt_alloc rowAt_drew setRow_alloc setRow_drewN setRow_drew setCell_alloc setCell_drewN splice_upd splice_all load_vec_cut load_vecs_cut load_rights_cut store_vec store_rights eql_vec neq_vec index_vec eql_rights neq_rights index_vecs cut_ints sub_zero
attribute [local go_sem ↓] xload_vec xstore_vec xalloc_vec xeql_vec xneq_vec xindex_vec xbuild_vec0 xload_rights xstore_rights xalloc_rights xeql_rights xneq_rights xbuild_rights0 xload_vecs xindex_vecs
attribute [local go_sem] rowAt_setRow rowAt_setCell load_vec_cut_later load_rights_later Later.cell Later.frozen
attribute [local go_sem] rn_true rn_false re_true re_false eqI_self

/-- The first n states, joined. -/
def allJ (S : Nat → Nat → Int) : Nat → Nat → Int
  | 0 => fun _ => 0
  | n + 1 => joinV (allJ S n) (S n)
theorem FS_zero (k : Nat) : FS (fun _ => 0) k = 0 := by
  have h : S16 (fun _ => (0 : Int)) = 0 := by decide
  unfold FS
  rw [show (fun j => mv (fun _ => 0) j k) = fun _ => (0 : Int) from rfl, show (fun j => mv (fun _ => 0) k j) = fun _ => (0 : Int) from rfl, h]
  rfl
theorem View.zero {B : Int} {S : Nat → Nat → Int} (h : Inv B S) (hB : 0 ≤ B) : View B S (fun _ => 0) :=
  ⟨fun _ _ => ⟨Int.le_refl _, hB⟩, fun a _ ha _ => Or.inl fun q hq _ => ((h a ha).bnd q hq).1, fun k hk q hq _ => ((h k hk).bnd q hq).1, fun k _ => by rw [FS_zero]; exact Int.le_refl _⟩
theorem View.all {B : Int} {S : Nat → Nat → Int} (h : Inv B S) (hB : 0 ≤ B) : ∀ n, n ≤ 16 → View B S (allJ S n) := by
  intro n
  induction n with
  | zero => intro _; exact View.zero h hB
  | succ n ih => intro hn; exact (ih (by omega)).join (by omega) (h n (by omega))
theorem inv_zero : Inv 0 (fun _ _ => 0) := fun _ _ =>
  ⟨fun _ _ => ⟨Int.le_refl _, Int.le_refl _⟩, fun _ _ _ _ => Or.inl (leRow.refl _ _), fun _ _ => leRow.refl _ _, fun k _ => by rw [FS_zero]; exact Int.le_refl _⟩
theorem inv_play (D : Nat → Int) : ∀ m : Nat, m ≤ 60 → Inv ((m : Int) * 1000) (playS D m) := by
  intro m
  induction m with
  | zero => intro _; exact inv_zero
  | succ m ih =>
    intro hm
    have h := (ih (by omega)).step (by unfold BB; omega) (D (m * 4)) (D (m * 4 + 1)) (D (m * 4 + 2)) (D (m * 4 + 3))
    exact h.mono (by omega)
theorem inv_played (D : Nat → Int) {L : Nat} (h : L ≤ 60) : Inv 60000 (playS D L) := (inv_play D L h).mono (by omega)
theorem big_ok : (60000 : Int) ≤ BB := by unfold BB; omega
theorem free_ok {S : Nat → Nat → Int} {r : Nat → Int} (h : View 60000 S r) {k : Nat} (hk : k < 16) : freeE r k = 0 ∧ 0 ≤ freeN r k := by
  obtain ⟨h1, h2⟩ := h.free big_ok hk
  exact ⟨h1, by rw [h2]; exact h.fr k hk⟩
theorem sumr_add (g h : Nat → Int) : ∀ n, ((List.range n).map fun j => g j + h j).sum = ((List.range n).map g).sum + ((List.range n).map h).sum := by
  intro n
  induction n with
  | zero => simp
  | succ n ih => simp only [List.range_succ, List.map_append, List.sum_append, List.map_cons, List.map_nil, List.sum_cons, List.sum_nil, ih]; omega
theorem sumr_sub (g h : Nat → Int) : ∀ n, ((List.range n).map fun j => g j - h j).sum = ((List.range n).map g).sum - ((List.range n).map h).sum := by
  intro n
  induction n with
  | zero => simp
  | succ n ih => simp only [List.range_succ, List.map_append, List.sum_append, List.map_cons, List.map_nil, List.sum_cons, List.sum_nil, ih]; omega
theorem sumr_nil (n : Nat) : ((List.range n).map fun _ => (0 : Int)).sum = 0 := by
  induction n with
  | zero => simp
  | succ n ih => simp only [List.range_succ, List.map_append, List.sum_append, List.map_cons, List.map_nil, List.sum_cons, List.sum_nil, ih]; omega
theorem sumr_swap (f : Nat → Nat → Int) (m : Nat) : ∀ n, ((List.range n).map fun k => ((List.range m).map fun j => f k j).sum).sum = ((List.range m).map fun j => ((List.range n).map fun k => f k j).sum).sum := by
  intro n
  induction n with
  | zero => simp only [List.range_zero, List.map_nil, List.sum_nil]; exact (sumr_nil m).symm
  | succ n ih =>
    simp only [List.range_succ, List.map_append, List.sum_append, List.map_cons, List.map_nil, List.sum_cons, List.sum_nil, Int.add_zero]
    rw [ih, ← sumr_add]
theorem S16_FS (r : Nat → Int) : S16 (FS r) = S16 r - S16 (sub 16 r) := by
  unfold S16
  have e : FS r = fun k => r k + S16 (fun j => mv r j k) - r (16 + k) - S16 (fun j => mv r k j) := rfl
  rw [e, sumr_sub, sumr_sub, sumr_add]
  have h := sumr_swap (fun k j => mv r j k) 16 16
  unfold S16 at *
  rw [h]
  show _ + _ - ((List.range 16).map fun k => r (16 + k)).sum - _ = _ - ((List.range 16).map fun k => r (16 + k)).sum
  omega
theorem all_le {S : Nat → Nat → Int} {a : Nat} : ∀ n, a < n → ∀ q, S a q ≤ allJ S n q := by
  intro n
  induction n with
  | zero => intro h; omega
  | succ n ih =>
    intro h q
    by_cases ha : a = n
    · rw [ha]; exact joinV_le_right _ _ _
    · exact Int.le_trans (ih (by omega) q) (joinV_le_left _ _ _)
theorem all_row {B : Int} {S : Nat → Nat → Int} (h : Inv B S) (hB : 0 ≤ B) {k : Nat} (hk : k < 16) {q : Nat} (hq : q < 288) (hr : rowIx k q) : allJ S 16 q = S k q :=
  Int.le_antisymm ((View.all h hB 16 (Nat.le_refl _)).own k hk q hq hr) (all_le 16 hk q)
theorem all_free {B : Int} {S : Nat → Nat → Int} (h : Inv B S) (hB : 0 ≤ B) {k : Nat} (hk : k < 16) : FS (S k) k ≤ FS (allJ S 16) k :=
  FS_more hk (fun q _ _ => all_le 16 hk q) ((View.all h hB 16 (Nat.le_refl _)).own k hk) fun _ _ => all_le 16 hk _
theorem FS_top {B : Int} {S : Nat → Nat → Int} {r : Nat → Int} (h : View B S r) {k : Nat} (hk : k < 16) : FS r k ≤ 17 * B := by
  have h1 := (h.bnd k (by omega)).2
  have h2 := (S16_bound (g := fun j => mv r j k) (B := B) fun j hj => h.bnd (32 + j * 16 + k) (by omega)).2
  have h3 := (h.bnd (16 + k) (by omega)).1
  have h4 := (S16_bound (g := fun j => mv r k j) (B := B) fun j hj => h.bnd (32 + k * 16 + j) (by omega)).1
  unfold FS
  omega
def sumK (r : Nat → Int) (n : Nat) : Int := ((List.range n).map fun k : Nat => freeN r k).sum
theorem sumK_succ (r : Nat → Int) (n : Nat) : sumK r (n + 1) = sumK r n + freeN r n := by simp [sumK, List.range_succ]
theorem free_range {S : Nat → Nat → Int} {r : Nat → Int} (h : View 60000 S r) {k : Nat} (hk : k < 16) : freeE r k = 0 ∧ 0 ≤ freeN r k ∧ freeN r k ≤ 1020000 := by
  obtain ⟨h1, h2⟩ := h.free big_ok hk
  exact ⟨h1, by rw [h2]; exact h.fr k hk, by rw [h2]; exact FS_top h hk⟩
theorem sumK_range {S : Nat → Nat → Int} {r : Nat → Int} (h : View 60000 S r) {n : Nat} (hn : n ≤ 16) : 0 ≤ sumK r n ∧ sumK r n ≤ n * 1020000 :=
  sum_bound (g := fun k : Nat => freeN r k) n fun j hj => (free_range h (by omega)).2
theorem sumK_total {S : Nat → Nat → Int} {r : Nat → Int} (h : View 60000 S r) : totalE r = 0 ∧ totalN r = sumK r 16 := by
  refine ⟨totalE_small (h.small big_ok), ?_⟩
  rw [totalN_small (h.small big_ok), ← S16_FS]
  exact S16_same fun k hk => ((h.free big_ok hk).2).symm
theorem get_flatA (S : Nat → Nat → Int) {a q : Nat} (ha : a < 16) (hq : q < 288) : (flatA S)[a * 288 + q]? = some (.int .i64 (S a q)) := by
  rw [flatA, get_ints 4608 _ _ (by omega), show (a * 288 + q) / 288 = a by omega, show (a * 288 + q) % 288 = q by omega]
theorem cut_flatA_in (S : Nat → Nat → Int) {a o n : Nat} (ha : a < 16) (h : o + n ≤ 288) : cut (flatA S) (a * 288 + o) n = ints n (sub o (S a)) := by
  unfold flatA
  rw [cut_ints _ _ _ _ (by omega)]
  refine ints_congr fun i hi => ?_
  show S ((a * 288 + o + i) / 288) ((a * 288 + o + i) % 288) = S a (o + i)
  rw [show (a * 288 + o + i) / 288 = a by omega, show (a * 288 + o + i) % 288 = o + i by omega]
/-- Block g begins with 17 states. -/
def Sts (w : World) (g : Nat) (S : Nat → Nat → Int) : Prop := ∃ (cur : Array Value) (T : TypeId), rowAt w g = some (cur, T) ∧ 4896 ≤ cur.size ∧ ∀ q, q < 4896 → cur[q]? = some (.int .i64 (S (q / 288) (q % 288)))
theorem Sts.below {B : Nat} {w w' : World} {g : Nat} {S : Nat → Nat → Int} (h : Sts w g S) (hb : Below B w w') (hg : g < B) : Sts w' g S := by
  obtain ⟨cur, T, h1, h2, h3⟩ := h
  exact ⟨cur, T, (rowAt_below hb g hg).trans h1, h2, h3⟩
theorem Sts.lt {w : World} {g : Nat} {S : Nat → Nat → Int} (h : Sts w g S) : g < w.heap.size := by
  obtain ⟨cur, T, h1, _⟩ := h
  exact rowAt_lt h1
theorem Sts.load {w : World} {g : Nat} {S : Nat → Nat → Int} (h : Sts w g S) {m : Nat} (hm : m < 17) : loadAgg Try.prog w 26 (.pointer (some ⟨g, m * 288, none⟩)) = .ok (.value (.agg (ints 288 (S m)))) w := by
  obtain ⟨cur, T, h1, h2, h3⟩ := h
  rw [loadAgg_ok (n := 288) Try.underlying26 rfl (by kernel_rfl) h1 (by omega)]
  congr 3
  refine eq_cellsF (by simp; omega) fun i hi => ?_
  rw [Array.getElem?_extract, if_pos (by omega), h3 _ (by omega)]
  rw [show (m * 288 + i) / 288 = m by omega, show (m * 288 + i) % 288 = i by omega]
/-- A slice of one state. -/
noncomputable def bs1 (w : World) (u : Value) : Result Next := ((do pure (Next.value (← Instr.buildSlice 42 1 #[(0, u)])) : Sem Next)).run Try.prog w
theorem xbuildSlice_one (ρ : Operand → Value) (d : Option Tmp) (T : TypeId) (p : String) (af : Array Edge) (gd : Option (Nat × Bool)) (x : Operand) (w : World) :
    (execOp ρ ⟨d, .buildSlice 42 1 #[(0, x)], T, p, af, gd⟩).run Try.prog w = bs1 w (ρ x) := by simp [execOp, bs1]
theorem bs1_ints (w : World) (f : Nat → Int) : bs1 w (.agg (ints 288 f)) = .ok (.value (.slice (some ⟨w.heap.size, 0, none⟩) 1 1)) (w.alloc (.cells (ints 288 f) 26)) := by kernel_rfl
theorem append_states {o : Oper} {a : Act} {w : World} {K : Act → World → Prop} {Q : Exit → Act → World → Prop} (s x : Operand)
    (ho : o.op = .call { callee := .builtin .append, args := #[s, x], argTypes := #[42, 42] }) (q H : Nat) (S : Nat → Nat → Int) (r : Nat → Int)
    (hq : rowAt w q = some (flatA S, 39)) (hr : rowAt w H = some (ints 288 r, 26))
    (hs : a.eval s = .slice (some ⟨q, 0, none⟩) 16 16) (hx : a.eval x = .slice (some ⟨H, 0, none⟩) 1 1)
    (h : ∀ g cap w', w.heap.size ≤ g → Sts w' g (setS S 16 r) → Below w.heap.size w w' → K (a.put o.dst (.slice (some ⟨g, 0, none⟩) 17 cap)) w') : o.wp Try.prog a w K Q := by
  obtain ⟨i0, hi, hz0, hz1, hz2⟩ := info_parts (show (Try.prog.info? 26).map (fun i => (i.zero, i.size, i.bytes)) = some (some (.agg (ints 288 fun _ => 0)), 288, 2304) by kernel_rfl)
  obtain ⟨v', w', hrun, h1, h2⟩ := run_append_arg_grows (P := Try.prog) w 42 o.type 26 i0 (.agg (ints 288 fun _ => 0)) 288 2304 Try.underlying42 hi hz0 hz1 hz2 (by show (ints 288 fun _ => 0).size = 288; rw [size_ints]) (by decide)
    ⟨q, 0, none⟩ 16 16 (flatA S).toList (by rw [Array.length_toList, size_flatA])
    (fun j u hu => by
      rw [Array.getElem?_toList] at hu
      rw [Addr.add_lit, Nat.zero_add, cell_of_rowAt hq]
      exact hu)
    ⟨H, 0, none⟩ 1 1 (ints 288 r).toList (by rw [Array.length_toList, size_ints])
    (fun j u hu => by
      rw [Array.getElem?_toList] at hu
      rw [Addr.add_lit, Nat.zero_add, cell_of_rowAt hr]
      exact hu) (by decide) (by decide) (by decide)
  unfold Oper.wp execOp
  simp only [ho, resolve, invoke, builtin, Sem.run_bind, Sem.run_pure, Result.andThen_ok, List.map_toArray, List.map_cons, List.map_nil, hs, hx, hrun]
  have hbel : Below w.heap.size w w' := ⟨h2.os, h2.tape, h2.output, h2.size, fun k hk => h2.block k (by omega) (by simp)⟩
  rcases h1.2 with ⟨hv, hn⟩ | ⟨g, cap, cur, rfl, hbg, hg, hnc, hcm, hcs, htk⟩
  · exact absurd hn (by decide)
  · refine h g cap w' hbg ⟨cur, 26, rowAt_iff.2 hg, by omega, fun p hp => ?_⟩ hbel
    have e1 : (cur.toList.take (17 * 288))[p]? = cur[p]? := by rw [List.getElem?_take, if_pos (by omega)]; simp
    rw [← e1, show 17 * 288 = (16 + 1) * 288 from rfl, htk]
    unfold setS
    by_cases hp2 : p < 4608
    · rw [List.getElem?_append_left (by rw [Array.length_toList, size_flatA]; exact hp2), Array.getElem?_toList, if_neg (by omega)]
      exact get_ints 4608 _ p hp2
    · rw [List.getElem?_append_right (by rw [Array.length_toList, size_flatA]; omega), Array.getElem?_toList, Array.length_toList, size_flatA, get_ints 288 _ _ (by omega), if_pos (by omega), show p - 4608 = p % 288 by omega]
end Go.Proofs.Ytpicfjlcepfneaa
