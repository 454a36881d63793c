/-
  All vectors of rights in one slice (the first statement of RightsMove and RightsUse).
-/
import Derived.Test.YtpicfjlcepfneaaRightsTellWalk
import Derived.Test.YtpicfjlcepfneaaRSum
namespace Go.Proofs.Ytpicfjlcepfneaa
open Go.RowKit
set_option linter.unusedSimpArgs false
attribute [local go_sem] rowCells rowAt_drewN get_ints getE_ints set_ints size_ints rowAt_alloc rowAt_drew setRow_alloc setRow_drewN setRow_drew setCell_alloc setCell_drewN splice_upd splice_all load_vec_cut load_vecs_cut load_rights_cut store_vec store_rights eql_vec neq_vec index_vec eql_rights neq_rights index_vecs cut_ints sub_zero
attribute [local go_sem ↓] xload_vec xstore_vec xalloc_vec xeql_vec xneq_vec xindex_vec xbuild_vec0 xload_rights xstore_rights xalloc_rights xeql_rights xneq_rights xbuild_rights0 xload_vecs xindex_vecs
attribute [local go_sem] rowAt_setRow rowAt_setCell load_vec_cut_later load_rights_later Later.cell Later.frozen
attribute [local go_sem] rn_true rn_false re_true re_false eqI_self

/-- A slice of two vectors. -/
noncomputable def bs2 (w : World) (u v : Value) : Result Next := ((do pure (Next.value (← Instr.buildSlice 44 2 #[(0, u), (1, v)])) : Sem Next)).run Try.prog w
theorem xbuildSlice_vecs (ρ : Operand → Value) (d : Option Tmp) (T : TypeId) (p : String) (af : Array Edge) (gd : Option (Nat × Bool)) (x y : Operand) (w : World) :
    (execOp ρ ⟨d, .buildSlice 44 2 #[(0, x), (1, y)], T, p, af, gd⟩).run Try.prog w = bs2 w (ρ x) (ρ y) := by simp [execOp, bs2]
def two16 (f g : Nat → Int) : Nat → Int := fun i => if i < 16 then f i else g (i - 16)
theorem bs2_ints (w : World) (f g : Nat → Int) : bs2 w (.agg (ints 16 f)) (.agg (ints 16 g)) = .ok (.value (.slice (some ⟨w.heap.size, 0, none⟩) 2 2)) (w.alloc (.cells (ints 32 (two16 f g)) 23)) := by kernel_rfl
/-- Block g begins with the 288 numbers. -/
def Vecs (w : World) (g : Nat) (r : Nat → Int) : Prop := ∃ (cur : Array Value) (T : TypeId), rowAt w g = some (cur, T) ∧ 288 ≤ cur.size ∧ ∀ q, q < 288 → cur[q]? = some (.int .i64 (r q))
theorem Vecs.below {B : Nat} {w w' : World} {g : Nat} {r : Nat → Int} (h : Vecs w g r) (hb : Below B w w') (hg : g < B) : Vecs w' g r := by
  obtain ⟨cur, T, h1, h2, h3⟩ := h
  exact ⟨cur, T, (rowAt_below hb g hg).trans h1, h2, h3⟩
theorem Vecs.lt {w : World} {g : Nat} {r : Nat → Int} (h : Vecs w g r) : g < w.heap.size := by
  obtain ⟨cur, T, h1, _⟩ := h
  exact rowAt_lt h1
theorem Vecs.load {w : World} {g : Nat} {r : Nat → Int} (h : Vecs w g r) {m : Nat} (hm : m < 18) : loadAgg Try.prog w 23 (.pointer (some ⟨g, m * 16, none⟩)) = .ok (.value (.agg (ints 16 (sub (m * 16) r)))) w := by
  obtain ⟨cur, T, h1, h2, h3⟩ := h
  rw [loadAgg_ok (n := 16) Try.underlying23 rfl (by kernel_rfl) h1 (by omega)]
  congr 3
  refine eq_cellsF (by simp; omega) fun i hi => ?_
  rw [Array.getElem?_extract, if_pos (by omega), h3 _ (by omega)]
  rfl
theorem append_vecs {o : Oper} {a : Act} {w : World} {K : Act → World → Prop} {Q : Exit → Act → World → Prop} (s x : Operand)
    (ho : o.op = .call { callee := .builtin .append, args := #[s, x], argTypes := #[44, 44] }) (base q H : Nat) (r : Nat → Int)
    (hq : rowAt w q = some (ints 32 (two16 r (sub 16 r)), 23)) (hb : base ≤ q) (hr : rowAt w H = some (ints 288 r, 26)) (_hH : H < base)
    (hs : a.eval s = .slice (some ⟨q, 0, none⟩) 2 2) (hx : a.eval x = .slice (some ⟨H, 32, none⟩) 16 16)
    (h : ∀ g cap w', base ≤ g → Vecs w' g r → Below base w w' → K (a.put o.dst (.slice (some ⟨g, 0, none⟩) 18 cap)) w') : o.wp Try.prog a w K Q := by
  obtain ⟨i0, hi, hz0, hz1, hz2⟩ := info_parts (show (Try.prog.info? 23).map (fun i => (i.zero, i.size, i.bytes)) = some (some (.agg (ints 16 fun _ => 0)), 16, 128) by kernel_rfl)
  have hql := rowAt_lt hq
  have hown : w.ownsRow base 23 16 (.slice (some ⟨q, 0, none⟩) 2 2) 2 (ints 32 (two16 r (sub 16 r))).toList :=
    ⟨by rw [Array.length_toList, size_ints], .inr ⟨q, 2, _, rfl, hb, rowAt_iff.1 hq, Nat.le_refl _, by decide, by rw [size_ints], by rw [List.take_of_length_le (by rw [Array.length_toList, size_ints]; omega)]⟩⟩
  refine wp_append_own w s x _ ho base 23 i0 (.agg (ints 16 fun _ => 0)) 16 128 Try.underlying44 hi hz0 hz1 hz2 (by show (ints 16 fun _ => 0).size = 16; rw [size_ints]) (by decide) _ _ _ hs hown ⟨H, 32, none⟩ 16 16 (ints 256 (sub 32 r)).toList hx (by rw [Array.length_toList, size_ints]) ?_ ?_ (by decide) (by decide) (by omega) ?_
  · intro j u hu
    rw [Array.getElem?_toList] at hu
    have hj : j < 256 := by
      have := (Array.getElem?_eq_some_iff.1 hu).1
      rwa [size_ints] at this
    rw [Addr.add_lit, cell_of_rowAt hr, get_ints 288 r _ (by omega)]
    rw [get_ints 256 _ j hj] at hu
    exact hu
  · intro u hu
    have := Array.all_eq_true_iff_forall_mem.1 (one_ints 256 (sub 32 r)) u (by simpa using hu)
    exact this
  · intro v' w' h1 h2 h3
    have hbel : Below base w w' := ⟨h2.os, h2.tape, h2.output, h2.size, fun k hk => h2.block k (by omega) (by simp [Value.ownBlock]; omega)⟩
    rcases h1.2 with ⟨hv, hn⟩ | ⟨g, cap, cur, rfl, hbg, hg, hnc, hcm, hcs, htk⟩
    · exact absurd hn (by decide)
    · refine h g cap w' hbg ⟨cur, 23, rowAt_iff.2 hg, by omega, fun p hp => ?_⟩ hbel
      have e1 : (cur.toList.take (18 * 16))[p]? = cur[p]? := by rw [List.getElem?_take, if_pos (by omega)]; simp
      rw [← e1, htk]
      by_cases hp2 : p < 32
      · rw [List.getElem?_append_left (by rw [Array.length_toList, size_ints]; exact hp2), Array.getElem?_toList, get_ints 32 _ p hp2]
        unfold two16 sub
        by_cases hp3 : p < 16
        · rw [if_pos hp3]
        · rw [if_neg hp3, show 16 + (p - 16) = p by omega]
      · rw [List.getElem?_append_right (by rw [Array.length_toList, size_ints]; omega), Array.getElem?_toList, Array.length_toList, size_ints, get_ints 256 _ _ (by omega)]
        unfold sub
        rw [show 32 + (p - 32) = p by omega]
end Go.Proofs.Ytpicfjlcepfneaa
